/- Walks, part A: a byte written as a word's piece, bytes as a word. -/
import Derived.WalkKit
import Derived.WalkSpells
import Derived.WalkLawsBesides
import Derived.Lib.Hide
import Derived.Test.YtbpackopicngmaaGreatDoorScA
import Derived.Test.YtbpackopicngmaaGreatDoorShelfB
namespace Go.Proofs.YtbpackopicngmaaGreatDoor
open Go.RowKit Go.Proofs.Sc

/-- A strings.Builder in block b, of the call's own from B on, that holds l. -/
def Bld (B b : Nat) (l : List UInt8) (w : World) : Prop := Lib.IsBuilder 87 5 B b (Lib.byteCells l) w

theorem Bld.of {B b : Nat} {l : List UInt8} {p : Value} {bs : List Value} {w : World} (hp : p = .pointer (some ⟨b, 0, none⟩)) (hl : bs = Lib.byteCells l) (h : Lib.BuilderAt 87 5 B b p bs w) : Bld B b l w := by
  subst hp; subst hl; exact Or.inr h

theorem BuilderAt_below {T e : TypeId} {B b : Nat} {p : Value} {bs : List Value} {w w' : World} (h : Lib.BuilderAt T e B b p bs w) (hb : Below w.heap.size w w') : Lib.BuilderAt T e B b p bs w' := by
  have hlt := Lib.BuilderAt.lt h
  obtain ⟨hB, v, hbk, hown, hne⟩ := h
  exact ⟨hB, v, (hb.block b hlt).trans hbk, hown.kept (row := none) ⟨hb.os, hb.tape, hb.output, hb.size, fun i hi _ => hb.block i hi⟩ (by rcases hv : v.ownBlock with _ | k; exact Or.inl rfl; exact Or.inr (by simp)), hne⟩

theorem Bld.below {B b : Nat} {l : List UInt8} {w w' : World} (h : Bld B b l w) (hb : Below w.heap.size w w') : Bld B b l w' := by
  rcases h with h | h
  · exact Or.inl (BuilderAt_below h hb)
  · exact Or.inr (BuilderAt_below h hb)

theorem Bld.lt {B b : Nat} {l : List UInt8} {w : World} (h : Bld B b l w) : b < w.heap.size := by
  rcases h with h | h <;> exact Lib.BuilderAt.lt h

theorem byteCells_append (l r : List UInt8) : Lib.byteCells (l ++ r) = Lib.byteCells l ++ Lib.byteCells r := by simp [Lib.byteCells]
theorem strCells_eq (l : List UInt8) : Lib.strCells ⟨l.toArray⟩ = Lib.byteCells l := by simp [Lib.strCells, Lib.byteCells]

theorem wb_any (B b : Nat) (l : List UInt8) (c : UInt8) (v : Int) (hv : v = c.toNat) (w : World) (h : Bld B b l w) (hlen : l.length + 1 ≤ 140737488355328) (hBw : B ≤ w.heap.size) :
    Calls Tryz.prog 48 #[.pointer (some ⟨b, 0, none⟩), .int .u8 v] w fun e w' => e = .returned .nilIface ∧ Bld B b (l ++ [c]) w' ∧ Below B w w' := by
  subst hv
  exact (Tryz.Builder_WriteByte B b (Lib.byteCells l) (c.toNat : Int) w h (by rw [Lib.byteCells_length]; exact hlen) hBw).mono fun e w' ⟨h1, h2, h3⟩ => ⟨h1, Bld.of rfl (by rw [byteCells_append]; rfl) h2, h3⟩

theorem ws_any (B b : Nat) (l : List UInt8) (s : ByteArray) (w : World) (h : Bld B b l w) (hlen : l.length + s.size ≤ 140737488355328) (hBw : B ≤ w.heap.size) :
    Calls Tryz.prog 33 #[.pointer (some ⟨b, 0, none⟩), .string s] w fun e w' => e = .returned (.tuple #[.int .i64 s.size, .nilIface]) ∧ Bld B b (l ++ s.data.toList) w' ∧ Below B w w' :=
  (Tryz.Builder_WriteString B b (Lib.byteCells l) s w h (by rw [Lib.byteCells_length]; exact hlen) hBw).mono fun e w' ⟨h1, h2, h3⟩ => ⟨h1, Bld.of rfl (by rw [byteCells_append]; rfl) h2, h3⟩

theorem hex_fin : ∀ n : Fin 16, ((⟨#[48, 49, 50, 51, 52, 53, 54, 55, 56, 57, 97, 98, 99, 100, 101, 102]⟩ : ByteArray)[n.val]'n.isLt) = hexd n.val := by decide +kernel
theorem hex_at (n : Nat) (h : n < (⟨#[48, 49, 50, 51, 52, 53, 54, 55, 56, 57, 97, 98, 99, 100, 101, 102]⟩ : ByteArray).size) : ((⟨#[48, 49, 50, 51, 52, 53, 54, 55, 56, 57, 97, 98, 99, 100, 101, 102]⟩ : ByteArray)[n]'h) = hexd n := hex_fin ⟨n, h⟩

set_option maxHeartbeats 1000000 in
set_option maxRecDepth 100000 in
theorem escaped_any (B b : Nat) (l : List UInt8) (c : UInt8) (w : World) (h : Bld B b l w) (hlen : l.length + 4 ≤ 140737488355328) (hBw : B ≤ w.heap.size) :
    Calls Tryz.prog 50 #[.pointer (some ⟨b, 0, none⟩), .int .u8 c.toNat] w fun e w' => e = .returned (.tuple #[]) ∧ Bld B b (l ++ escOne c) w' ∧ Below B w w' := by
  have hc := UInt8.toNat_lt c
  by_cases hs : c = 10 ∨ c = 9 ∨ c = 32 ∨ c = 35 ∨ c = 92
  · rcases hs with rfl | rfl | rfl | rfl | rfl
    all_goals
      go_enter Tryz.func50, Tryz.ntmps50
      go_wp2_with fail
      refine (ws_any B b l _ _ h (by show l.length + 2 ≤ _; omega) hBw).mono ?_
      rintro e w1 ⟨rfl, hb1, hw1⟩
      go_wp2
      go_end0
      exact ⟨rfl, hb1, hw1⟩
  have g10 : ((c.toNat : Int) == 10) = false := by
    rw [beq_eq_false_iff_ne]; intro e; exact hs (Or.inl (UInt8.toNat_inj.1 (by simpa using (Int.ofNat_inj.1 e : c.toNat = 10))))
  have g9 : ((c.toNat : Int) == 9) = false := by
    rw [beq_eq_false_iff_ne]; intro e; exact hs (Or.inr (Or.inl (UInt8.toNat_inj.1 (by simpa using (Int.ofNat_inj.1 e : c.toNat = 9)))))
  have g32 : ((c.toNat : Int) == 32) = false := by
    rw [beq_eq_false_iff_ne]; intro e; exact hs (Or.inr (Or.inr (Or.inl (UInt8.toNat_inj.1 (by simpa using (Int.ofNat_inj.1 e : c.toNat = 32))))))
  have g35 : ((c.toNat : Int) == 35) = false := by
    rw [beq_eq_false_iff_ne]; intro e; exact hs (Or.inr (Or.inr (Or.inr (Or.inl (UInt8.toNat_inj.1 (by simpa using (Int.ofNat_inj.1 e : c.toNat = 35)))))))
  have g92 : ((c.toNat : Int) == 92) = false := by
    rw [beq_eq_false_iff_ne]; intro e; exact hs (Or.inr (Or.inr (Or.inr (Or.inr (UInt8.toNat_inj.1 (by simpa using (Int.ofNat_inj.1 e : c.toNat = 92)))))))
  by_cases hp : 33 ≤ c.toNat ∧ c.toNat ≤ 126
  · have hE : escOne c = [c] := by
      unfold escOne; rw [if_neg (fun e => hs (Or.inl e)), if_neg (fun e => hs (Or.inr (Or.inl e))), if_neg (fun e => hs (Or.inr (Or.inr (Or.inl e)))), if_neg (fun e => hs (Or.inr (Or.inr (Or.inr (Or.inl e))))), if_neg (fun e => hs (Or.inr (Or.inr (Or.inr (Or.inr e))))), if_pos hp]
    rw [hE]
    have k1 : decide ((32 : Int) < (c.toNat : Int)) = true := by simp; omega
    have k2 : decide ((c.toNat : Int) < (127 : Int)) = true := by simp; omega
    clear hE hp hs
    go_enter Tryz.func50, Tryz.ntmps50
    go_wp2_with fail
    refine (wb_any B b l c _ rfl _ h (by omega) hBw).mono ?_
    rintro e w1 ⟨rfl, hb1, hw1⟩
    go_wp2
    refine bodyPost_ret (results_none rfl _ _ _) rfl ?_
    exact ⟨rfl, hb1, hw1⟩
  · have hE : escOne c = [92, 120] ++ [hexd (c.toNat / 16)] ++ [hexd (c.toNat % 16)] := by
      unfold escOne; rw [if_neg (fun e => hs (Or.inl e)), if_neg (fun e => hs (Or.inr (Or.inl e))), if_neg (fun e => hs (Or.inr (Or.inr (Or.inl e)))), if_neg (fun e => hs (Or.inr (Or.inr (Or.inr (Or.inl e))))), if_neg (fun e => hs (Or.inr (Or.inr (Or.inr (Or.inr e))))), if_neg hp]
      rfl
    rw [hE]
    clear hE hs
    have hw : (decide ((32 : Int) < (c.toNat : Int)) = true ∧ decide ((c.toNat : Int) < (127 : Int)) = false) ∨ decide ((32 : Int) < (c.toNat : Int)) = false := by
      rcases Nat.lt_or_ge 32 c.toNat with h1 | h1
      · exact Or.inl ⟨by simp; omega, by simp; omega⟩
      · exact Or.inr (by simp; omega)
    clear hp
    rcases hw with ⟨k1, k2⟩ | k1
    all_goals
      go_enter Tryz.func50, Tryz.ntmps50
      go_wp2_with fail
      refine (ws_any B b l _ _ h (by show l.length + 2 ≤ _; omega) hBw).mono ?_
      rintro e w1 ⟨rfl, hb1, hw1⟩
      go_wp2_with fail
      refine (wb_any B b _ (hexd (c.toNat / 16)) _ (by rw [hex_at]) _ hb1 (by simp; omega) (Nat.le_trans hBw hw1.size)).mono ?_
      rintro e w2 ⟨rfl, hb2, hw2⟩
      go_wp2_with fail
      refine (wb_any B b _ (hexd (c.toNat % 16)) _ (by rw [hex_at]) _ hb2 (by simp; omega) (Nat.le_trans hBw (hw1.trans hw2).size)).mono ?_
      rintro e w3 ⟨rfl, hb3, hw3⟩
      go_wp2
      go_end0
      exact ⟨rfl, by simpa using hb3, (hw1.trans hw2).trans hw3⟩

theorem mk_data (s : ByteArray) : (⟨s.data.toList.toArray⟩ : ByteArray) = s := by cases s; simp
theorem size_list (s : ByteArray) : s.size = s.data.toList.length := by rw [Array.length_toList]; rfl
theorem getElem_list (s : ByteArray) (i : Nat) (h : i < s.size) : s.data.toList[i]? = some (s[i]'h) := by
  rw [Array.getElem?_toList]; exact Array.getElem?_eq_getElem h

theorem escBody_snoc (l : By) (c : UInt8) : escBody (l ++ [c]) = escBody l ++ escOne c := by simp [escBody]

theorem Bld.fresh (w : World) : Bld w.heap.size w.heap.size [] (w.alloc (.cells #[.pointer none, .slice none 0 0] 87)) := Lib.fresh_isBuilder _ _ w

theorem byteEq {s : ByteArray} {l : List UInt8} (h : s.data.toList = l) : s = ⟨l.toArray⟩ := by subst h; exact (mk_data s).symm
theorem ret_str {a b : List UInt8} (h : a = b) : Ending.returned (.string ⟨a.toArray⟩) = .returned (.string ⟨b.toArray⟩) := by rw [h]
theorem ret_val {a b : Value} (h : a = b) : Ending.returned a = .returned b := by rw [h]

set_option maxHeartbeats 1000000 in
set_option maxRecDepth 100000 in
theorem escape_any (s : ByteArray) (w : World) (hs : s.size ≤ 33554432) :
    Calls Tryz.prog 20 #[.string s] w fun e w' => e = .returned (.string ⟨(escape s.data.toList).toArray⟩) ∧ Below w.heap.size w w' := by
  by_cases h0 : s.data.toList = []
  · obtain rfl := byteEq h0
    go_enter Tryz.func20, Tryz.ntmps20
    go_wp2_with fail
    go_ret
    exact ⟨rfl, Below.refl _ _⟩
  by_cases h1 : s.data.toList = [45]
  · obtain rfl := byteEq h1
    go_enter Tryz.func20, Tryz.ntmps20
    go_wp2_with fail
    go_ret
    exact ⟨rfl, Below.refl _ _⟩
  have e0 : s.toList.isEmpty = false := by rw [Lib.toList_data]; simpa using h0
  have e1 : (s.toList == [45]) = false := by rw [Lib.toList_data]; simpa using h1
  have hE := Lib.hid (show escape s.data.toList = escBody s.data.toList by unfold escape; rw [if_neg h0, if_neg h1])
  clear h0 h1
  have hbl : ∀ k, (escBody (s.data.toList.take k)).length ≤ 134217728 := fun k => by
    have h1 := (escBody_len (s.data.toList.take k)).2
    have h2 : (s.data.toList.take k).length ≤ s.size := by rw [size_list]; exact List.length_take_le' _ _
    omega
  have hsn : ∀ k (h : k < s.size), escBody (s.data.toList.take (k + 1)) = escBody (s.data.toList.take k) ++ escOne (s[k]'h) := fun k h => by
    rw [List.take_add_one, getElem_list s k h]; exact escBody_snoc _ _
  have HSN := Lib.hid hsn
  clear hsn
  go_enter Tryz.func20, Tryz.ntmps20
  go_wp2_with fail
  go_loopw [12] (fun i w' => ∃ k : Nat, k ≤ s.size ∧ i = .int .i64 k ∧ Bld w.heap.size w.heap.size (escBody (s.data.toList.take k)) w' ∧ Below w.heap.size w w') (fun i _ => s.size - (intOf i).toNat)
  case atStart => exact ⟨0, Nat.zero_le _, rfl, Bld.fresh w, (Below.refl _ _).alloc (Nat.le_refl _) _⟩
  case round =>
    obtain ⟨k, hk, rfl, hB, hW⟩ := hrel
    have hl := hbl k
    by_cases hlt : k < s.size
    · go_wp2_with fail
      refine (escaped_any w.heap.size w.heap.size _ _ _ hB (by omega) hW.size).mono ?_
      rintro e w1 ⟨rfl, hB1, hW1⟩
      go_wp2_with fail
      go_roundw
      case rel => exact ⟨k + 1, by omega, by go_num, by rw [HSN.out k hlt]; exact hB1, hW.trans hW1⟩
      case measure => simp [intOf]; omega
    · obtain rfl : k = s.size := by omega
      go_wp2_with fail
      refine (Tryz.Builder_String_any _ _ _ _ hB hW.size).mono ?_
      rintro e w1 ⟨rfl, hW1⟩
      go_wp2_with fail
      go_ret
      exact ⟨ret_str (by rw [hE.out, List.take_of_length_le (by rw [← size_list]; exact Nat.le_refl _)]), hW.trans hW1⟩

end Go.Proofs.YtbpackopicngmaaGreatDoor
