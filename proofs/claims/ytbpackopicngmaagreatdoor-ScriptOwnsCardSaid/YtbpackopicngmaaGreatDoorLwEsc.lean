/- The document's Escape. -/
import Derived.Test.YtbpackopicngmaaGreatDoorSwN
import Derived.BigQuiet
namespace Go.Proofs.YtbpackopicngmaaGreatDoor
open Go.RowKit Go.Proofs.Sc Go.Proofs.YtbpackopicngmaaGreatDoorW.PrintWords

def ints (l : By) : List Int := l.map fun c => (c.toNat : Int)
theorem ints_append (a b : By) : ints (a ++ b) = ints a ++ ints b := by simp [ints]
theorem ints_len (l : By) : (ints l).length = l.length := by simp [ints]
theorem bytesOf_mk (l : By) : bytesOf ⟨l.toArray⟩ = ints l := rfl
theorem strOf_ints (l : By) : strOfNums (ints l) = ⟨l.toArray⟩ := by
  simp [strOfNums, ints, Function.comp_def]

theorem hex_pair : ∀ a b : Fin 16, ((⟨#[92, 120]⟩ : ByteArray) ++ (⟨#[48, 49, 50, 51, 52, 53, 54, 55, 56, 57, 97, 98, 99, 100, 101, 102]⟩ : ByteArray).extract a.val (a.val + 1) ++ (⟨#[48, 49, 50, 51, 52, 53, 54, 55, 56, 57, 97, 98, 99, 100, 101, 102]⟩ : ByteArray).extract b.val (b.val + 1)) = ⟨#[92, 120, hexd a.val, hexd b.val]⟩ := by decide +kernel

set_option maxHeartbeats 2000000 in
set_option maxRecDepth 100000 in
theorem one_low (n a b : Nat) (hn : n < 256) (ha : a < 16) (hb : b < 16) (hq : Int.tdiv (n : Int) 16 = (a : Int)) (hr : Int.tmod (n : Int) 16 = (b : Int)) (w : World) (k1 : ((n : Int) == 10) = false) (k2 : ((n : Int) == 9) = false) (k3 : ((n : Int) == 32) = false) (k4 : ((n : Int) == 35) = false) (k5 : ((n : Int) == 92) = false)
    (k6 : decide (33 ≤ n) = false) (k7 : decide ((33 : Int) ≤ (n : Int)) = false) : Calls Tryz.prog 151 #[.int .u8 n] w fun e w' => e = .returned (.string ⟨#[92, 120, hexd a, hexd b]⟩) ∧ Below w.heap.size w w' := by
  have HP := Lib.hid (hex_pair ⟨a, ha⟩ ⟨b, hb⟩)
  go_enter Tryz.func151, Tryz.ntmps151
  go_wp2_with fail
  go_quiet (fail)
  go_wp2_with fail
  go_ret
  exact ⟨congrArg (fun s => Ending.returned (.string s)) HP.out, below_drewN _ _⟩

set_option maxHeartbeats 2000000 in
set_option maxRecDepth 100000 in
theorem one_high (n a b : Nat) (hn : n < 256) (ha : a < 16) (hb : b < 16) (hq : Int.tdiv (n : Int) 16 = (a : Int)) (hr : Int.tmod (n : Int) 16 = (b : Int)) (w : World) (k1 : ((n : Int) == 10) = false) (k2 : ((n : Int) == 9) = false) (k3 : ((n : Int) == 32) = false) (k4 : ((n : Int) == 35) = false) (k5 : ((n : Int) == 92) = false)
    (k6 : decide (33 ≤ n) = true) (k7 : decide ((33 : Int) ≤ (n : Int)) = true) (k8 : decide (n ≤ 126) = false) (k9 : decide ((n : Int) ≤ 126) = false) : Calls Tryz.prog 151 #[.int .u8 n] w fun e w' => e = .returned (.string ⟨#[92, 120, hexd a, hexd b]⟩) ∧ Below w.heap.size w w' := by
  have HP := Lib.hid (hex_pair ⟨a, ha⟩ ⟨b, hb⟩)
  go_enter Tryz.func151, Tryz.ntmps151
  go_wp2_with fail
  go_quiet (fail)
  go_wp2_with fail
  go_ret
  exact ⟨congrArg (fun s => Ending.returned (.string s)) HP.out, below_drewN _ _⟩

set_option maxHeartbeats 2000000 in
set_option maxRecDepth 100000 in
theorem one_plain (n : Nat) (hn : n < 256) (w : World) (k1 : ((n : Int) == 10) = false) (k2 : ((n : Int) == 9) = false) (k3 : ((n : Int) == 32) = false) (k4 : ((n : Int) == 35) = false) (k5 : ((n : Int) == 92) = false)
    (k6 : decide (33 ≤ n) = true) (k7 : decide ((33 : Int) ≤ (n : Int)) = true) (k8 : decide (n ≤ 126) = true) (k9 : decide ((n : Int) ≤ 126) = true) : Calls Tryz.prog 151 #[.int .u8 n] w fun e w' => e = .returned (.string ⟨#[UInt8.ofNat n]⟩) ∧ Below w.heap.size w w' := by
  have hcv : (convert 85 9 (.slice (some ⟨w.heap.size, 0, none⟩) 1 1)).run Tryz.prog (w.alloc (.cells #[.int .u8 n] 5)) = .ok (.string ⟨#[UInt8.ofNat n]⟩) (w.alloc (.cells #[.int .u8 n] 5)) := by
    have := own_string Tryz.underlying85 Tryz.underlying5 Tryz.underlying9 (own_lit w w.heap.size 5 .u8 [(n : Int)] (Nat.le_refl _) (by simp))
    simpa [strOfNums, nums] using this
  go_enter Tryz.func151, Tryz.ntmps151
  go_wp2_with fail
  go_ret
  exact ⟨rfl, (Below.refl _ _).alloc (Nat.le_refl _) _⟩

theorem refOne_any (c : UInt8) (w : World) : Calls Tryz.prog 151 #[.int .u8 c.toNat] w fun e w' => e = .returned (.string ⟨(escOne c).toArray⟩) ∧ Below w.heap.size w w' := by
  have hc := UInt8.toNat_lt c
  by_cases hs : c = 10 ∨ c = 9 ∨ c = 32 ∨ c = 35 ∨ c = 92
  · rcases hs with rfl | rfl | rfl | rfl | rfl
    all_goals
      go_enter Tryz.func151, Tryz.ntmps151
      go_wp2
      go_ret
      exact ⟨rfl, Below.refl _ _⟩
  have ne : ∀ (x : UInt8), c ≠ x → ((c.toNat : Int) == (x.toNat : Int)) = false := fun x h => toNat_ne h
  have n1 := ne 10 (fun e => hs (by simp [e]))
  have n2 := ne 9 (fun e => hs (by simp [e]))
  have n3 := ne 32 (fun e => hs (by simp [e]))
  have n4 := ne 35 (fun e => hs (by simp [e]))
  have n5 := ne 92 (fun e => hs (by simp [e]))
  have hq : Int.tdiv (c.toNat : Int) 16 = ((c.toNat / 16 : Nat) : Int) := by rw [Int.tdiv_eq_ediv_of_nonneg (by omega)]; omega
  have hr : Int.tmod (c.toNat : Int) 16 = ((c.toNat % 16 : Nat) : Int) := by rw [Int.tmod_eq_emod_of_nonneg (by omega)]; omega
  have he : escOne c = if 33 ≤ c.toNat ∧ c.toNat ≤ 126 then [c] else [92, 120, hexd (c.toNat / 16), hexd (c.toNat % 16)] := by
    unfold escOne
    simp only [not_or] at hs
    rw [if_neg hs.1, if_neg hs.2.1, if_neg hs.2.2.1, if_neg hs.2.2.2.1, if_neg hs.2.2.2.2]
  by_cases h1 : 33 ≤ c.toNat
  · by_cases h2 : c.toNat ≤ 126
    · rw [he, if_pos ⟨h1, h2⟩]
      have := one_plain c.toNat hc w n1 n2 n3 n4 n5 (decide_eq_true h1) (decide_eq_true (by omega)) (decide_eq_true h2) (decide_eq_true (by omega))
      rw [UInt8.ofNat_toNat] at this
      exact this
    · rw [he, if_neg (fun h => h2 h.2)]
      exact one_high c.toNat _ _ hc (by omega) (by omega) hq hr w n1 n2 n3 n4 n5 (decide_eq_true h1) (decide_eq_true (by omega)) (decide_eq_false h2) (decide_eq_false (by omega))
  · rw [he, if_neg (fun h => h1 h.1)]
    exact one_low c.toNat _ _ hc (by omega) (by omega) hq hr w n1 n2 n3 n4 n5 (decide_eq_false h1) (decide_eq_false (by omega))

theorem info_u8 : (Tryz.prog.info? 5).map (fun i => (i.zero, i.size, i.bytes)) = some (some (.int .u8 0), 1, 1) := by kernel_rfl

theorem make_bytes (n : Nat) (hn : n ≤ 33554432) (W : World) : (Instr.makeSlice 85 (.int .i64 0) (.int .i64 (n : Int))).run Tryz.prog W = .ok (.slice (some ⟨W.heap.size, 0, none⟩) 0 n) (W.alloc (.cells (madeCells #[.int .u8 0] n) 5)) := by
  obtain ⟨i, hi, hz⟩ := Option.map_eq_some_iff.1 info_u8
  simp only [Prod.mk.injEq] at hz
  obtain ⟨hz0, hz1, hz2⟩ := hz
  have := run_make (P := Tryz.prog) W 85 5 i (.int .u8 0) Tryz.underlying85 hi hz0 .i64 .i64 0 (n : Int) (by omega) (by omega) (by rw [hz2]; simp; omega) (by omega)
  rw [hz1] at this
  simp only [Int.toNat_zero, Int.toNat_natCast, Nat.mul_one] at this
  exact this

/-- Bytes gathered in a row of the call's own. -/
def Row8 (w wr : World) (v : Value) (l : By) : Prop := wr.ownsRow w.heap.size 5 1 v (ints l).length (nums .u8 (ints l))

theorem row8_new (w : World) (n : Nat) (hn : n ≤ 33554432) : Row8 w (w.alloc (.cells (madeCells #[.int .u8 0] n) 5)) (.slice (some ⟨w.heap.size, 0, none⟩) 0 n) [] :=
  World.ownsRow_made w _ n (Nat.le_refl _) (by simp only [maxLen]; omega) (by rw [Nat.mul_one]; exact size_madeCells _ _)

theorem Row8.str {w wr : World} {v : Value} {l : By} (h : Row8 w wr v l) : (convert 85 9 v).run Tryz.prog wr = .ok (.string ⟨l.toArray⟩) wr := by
  rw [← strOf_ints]; exact own_string Tryz.underlying85 Tryz.underlying5 Tryz.underlying9 h

theorem Row8.keep {w wr w1 : World} {v : Value} {l : By} (h : Row8 w wr v l) (hb : Below wr.heap.size wr w1) : Row8 w w1 v l := own_move h (fun k hk => hb.block k (own_lt h k hk))

set_option maxHeartbeats 4000000 in
theorem refEscape_any (s : ByteArray) (w : World) (hs : s.size ≤ 33554432) :
    Calls Tryz.prog 69 #[.string s] w fun e w' => e = .returned (.string ⟨(escape s.data.toList).toArray⟩) ∧ Below w.heap.size w w' := by
  by_cases h0 : s.data.toList = []
  · obtain rfl := byteEq h0
    go_enter Tryz.func69, Tryz.ntmps69
    go_wp2_with fail
    go_ret
    exact ⟨rfl, Below.refl _ _⟩
  by_cases h1 : s.data.toList = [45]
  · obtain rfl := byteEq h1
    go_enter Tryz.func69, Tryz.ntmps69
    go_wp2_with fail
    go_ret
    exact ⟨rfl, Below.refl _ _⟩
  have e0 : s.toList.isEmpty = false := by rw [Lib.toList_data]; simpa using h0
  have e1 : (s.toList == [45]) = false := by rw [Lib.toList_data]; simpa using h1
  have hE := Lib.hid (show escape s.data.toList = escBody s.data.toList by unfold escape; rw [if_neg h0, if_neg h1])
  clear h0 h1
  have hbl : ∀ k, (escBody (s.data.toList.take k)).length ≤ 134217728 := fun k => by
    have h1 := (escBody_len (s.data.toList.take k)).2
    have h2 : (s.data.toList.take k).length ≤ s.size := by rw [size_list]; exact List.length_take_le' _ _
    omega
  have hsn : ∀ k (h : k < s.size), escBody (s.data.toList.take (k + 1)) = escBody (s.data.toList.take k) ++ escOne (s[k]'h) := fun k h => by
    rw [List.take_add_one, getElem_list s k h]; exact escBody_snoc _ _
  have HSN := Lib.hid hsn
  have HBL := Lib.hid hbl
  clear hsn hbl
  have hmk := make_bytes s.size hs
  go_enter Tryz.func69, Tryz.ntmps69
  go_wp2_with fail
  go_loopw [3, 4] (fun v i w' => ∃ (k : Nat) (A : Option Addr) (n c : Nat), v = .slice A n c ∧ i = .int .i64 (k : Int) ∧ k ≤ s.size ∧ Hid (Row8 w w' (.slice A n c) (escBody (s.data.toList.take k))) ∧ Below w.heap.size w w') (fun _ i _ => s.size - (intOf i).toNat)
  case atStart => exact ⟨0, _, _, _, rfl, rfl, Nat.zero_le _, Lib.hid (row8_new w s.size hs), (Below.refl _ _).alloc (Nat.le_refl _) _⟩
  case round =>
    obtain ⟨k, A, n, c, rfl, rfl, hk, hB, hW⟩ := hrel
    by_cases hlt : k < s.size
    · go_wp2_with fail
      refine (refOne_any _ _).mono ?_
      rintro e w1 ⟨rfl, hW1⟩
      have HO := Lib.hid (hB.out.keep hW1)
      have HW := Lib.hid (hW.trans (hW1.mono hW.size))
      obtain ⟨ch, hch⟩ : ∃ ch, ch = s[k]'hlt := ⟨_, rfl⟩
      rw [← hch]
      have HCH := Lib.hid hch
      clear hch hW1 hB
      go_wp2_with (at_builtin; go_must (refine print_append_str (w0 := w) w.heap.size rfl (.tmp 18) (.tmp 22) 85 9 5 rfl Tryz.underlying85 Tryz.underlying9 info_u8 (.slice A n c) (ints (escBody (s.data.toList.take k))) ⟨(escOne ch).toArray⟩ rfl rfl ?HO ?HB ?hbase ?hl ?_))
      case HO => exact HO.out
      case HB => exact HW.out
      case hbase => exact HW.out.size
      case hl => rw [ints_len, mk_size]; have := HBL.out k; have := (escOne_len ch).2; omega
      intro v1 w2 hown hB2 _
      have HR := Lib.hid (show Row8 w w2 v1 (escBody (s.data.toList.take (k + 1))) by
        unfold Row8; rw [HSN.out k hlt, ← HCH.out, ints_append, List.length_append]; exact hown)
      obtain ⟨A2, c2, hvv⟩ := own_slice hown
      subst hvv
      clear hown HO HW
      go_wp2_with fail
      go_roundw
      case rel => exact ⟨k + 1, _, _, _, rfl, by go_num, by omega, HR, hB2⟩
      case measure => simp [intOf]; omega
    · obtain rfl : k = s.size := by omega
      have hcv := hB.out.str
      go_wp2_with fail
      go_ret
      exact ⟨ret_str (by rw [hE.out, List.take_of_length_le (by rw [← size_list]; exact Nat.le_refl _)]), hW⟩
end Go.Proofs.YtbpackopicngmaaGreatDoor
