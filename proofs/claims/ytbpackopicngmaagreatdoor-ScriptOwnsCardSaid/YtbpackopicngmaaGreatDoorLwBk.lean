/- The document's copies of numbers and steps. -/
import Derived.Test.YtbpackopicngmaaGreatDoorSwM
import Derived.Deep.RegionHeld3
namespace Go.Proofs.YtbpackopicngmaaGreatDoor
open Go.RowKit Go.Proofs.Sc Go.Proofs.YtbpackopicngmaaGreatDoorW.PrintWords

theorem make_ints (n : Nat) (hn : n ≤ 33554432) (W : World) : (Instr.makeSlice 42 (.int .i64 0) (.int .i64 (n : Int))).run Tryz.prog W = .ok (.slice (some ⟨W.heap.size, 0, none⟩) 0 n) (W.alloc (.cells (madeCells #[.int .i64 0] n) 3)) := by
  obtain ⟨i, hi, hz⟩ := Option.map_eq_some_iff.1 info_int
  simp only [Prod.mk.injEq] at hz
  obtain ⟨hz0, hz1, hz2⟩ := hz
  have := run_make (P := Tryz.prog) W 42 3 i (.int .i64 0) Tryz.underlying42 hi hz0 .i64 .i64 0 (n : Int) (by omega) (by omega) (by rw [hz2]; simp; omega) (by omega)
  rw [hz1] at this
  simp only [Int.toNat_zero, Int.toNat_natCast, Nat.mul_one] at this
  exact this

/-- Numbers gathered in a row of the call's own. -/
def RowI (w wr : World) (v : Value) (l : List Int) : Prop := wr.ownsRow w.heap.size 3 1 v l.length (nums .i64 l)

theorem rowI_new (w : World) (n : Nat) (hn : n ≤ 33554432) : RowI w (w.alloc (.cells (madeCells #[.int .i64 0] n) 3)) (.slice (some ⟨w.heap.size, 0, none⟩) 0 n) [] :=
  World.ownsRow_made w _ n (Nat.le_refl _) (by simp only [maxLen]; omega) (by rw [Nat.mul_one]; exact size_madeCells _ _)

set_option maxHeartbeats 4000000 in
theorem refInts_any (l : List Int) (A : Option Addr) (n c : Nat) (w : World) (hC : (Kd.int .i64).C w A n l) (hl : n ≤ 33554432) :
    Calls Tryz.prog 30 #[.slice A n c] w fun e w' => (∃ v, e = .returned v ∧ (Kd.int .i64).R 3 w' w.heap.size (fun _ => True) v l) ∧ Below w.heap.size w w' := by
  have hmk := make_ints n hl
  have HC := Lib.hid hC
  clear hC
  go_enter Tryz.func30, Tryz.ntmps30
  go_wp2_with fail
  go_loopw [3, 4] (fun v i wr => ∃ (k : Nat) (A' : Option Addr) (n' c' : Nat), v = .slice A' n' c' ∧ i = .int .i64 (k : Int) ∧ k ≤ n ∧ Hid (RowI w wr (.slice A' n' c') (l.take k)) ∧ Hid (Below w.heap.size w wr)) (fun _ i _ => n - (intOf i).toNat)
  case atStart => exact ⟨0, _, _, _, rfl, rfl, Nat.zero_le _, Lib.hid (rowI_new w n hl), Lib.hid ((Below.refl _ _).alloc (Nat.le_refl _) _)⟩
  case round =>
  obtain ⟨k, A', n', c', rfl, rfl, hk, hR, hB⟩ := hrel
  by_cases hlt : k < n
  · obtain ⟨x, hx⟩ : ∃ x, l[k]? = some x := ⟨l[k]'(by rw [HC.out.1]; exact hlt), List.getElem?_eq_getElem _⟩
    obtain ⟨ad, hAd, hcell⟩ := Kd.at_int (Kd.C_below HC.out hB.out) (k : Int) (by omega) (by omega)
    rw [Int.toNat_natCast, show rd l (k : Int) = x by simp [rd, hx]] at hcell
    have HST := Lib.hid (show l.take (k + 1) = l.take k ++ [x] by rw [List.take_add_one, hx]; rfl)
    subst hAd
    clear hx
    go_wp2_with (at_builtin; go_must (refine print_append_num (w0 := w) w.heap.size rfl (.tmp 14) (.tmp 19) 42 3 .i64 8 rfl Tryz.underlying42 info_int (by decide) (.slice A' n' c') (l.take k) x rfl rfl ?HO ?HB ?hbase ?hl ?_))
    case HO => exact hR.out
    case HB => exact hB.out
    case hbase => exact hB.out.size
    case hl => rw [List.length_take]; omega
    intro v1 w1 hown hB1 _ _
    have HR1 := Lib.hid (show RowI w w1 v1 (l.take (k + 1)) by rw [HST.out]; unfold RowI; rw [List.length_append, List.length_singleton, List.length_take]; exact hown)
    have HB1 := Lib.hid hB1
    obtain ⟨A1, c1, rfl⟩ := own_slice HR1.out
    clear hown hB1 hcell
    go_wp2_with fail
    go_roundw
    case rel => exact ⟨k + 1, _, _, _, rfl, by go_num, hlt, HR1, HB1⟩
    case measure => simp [intOf]; omega
  · obtain rfl : k = n := by omega
    clear hlt
    go_wp2_with fail
    go_ret
    exact ⟨⟨_, rfl, Kd.R_of_own (by have := hR.out; rwa [List.take_of_length_le (by rw [HC.out.1]; exact Nat.le_refl _)] at this) (fun _ _ => trivial)⟩, hB.out⟩

/-- What holds while the document's Op reads its fields. -/
theorem os_first (w : World) (o : POp) (A : Option Addr) (n c : Nat) (W : World) (hW : W = ((w.alloc (.cells #[.int .i64 o.kind, .int .i64 o.a, .int .i64 o.b, .string ⟨o.name.toArray⟩, .string ⟨o.text.toArray⟩, .slice A n c] 44)).alloc (.cells zeroOp 44)).drew) : W.cell? ⟨w.heap.size, 0, none⟩ = some (.int .i64 o.kind) ∧ W.cell? ⟨w.heap.size, 1, none⟩ = some (.int .i64 o.a) ∧ W.cell? ⟨w.heap.size, 2, none⟩ = some (.int .i64 o.b) ∧ W.cell? ⟨w.heap.size, 3, none⟩ = some (.string ⟨o.name.toArray⟩) ∧ W.cell? ⟨w.heap.size, 4, none⟩ = some (.string ⟨o.text.toArray⟩) ∧ W.cell? ⟨w.heap.size, 5, none⟩ = some (.slice A n c) ∧ Below w.heap.size w W := by
  subst hW
  have h : ((w.alloc (.cells #[.int .i64 o.kind, .int .i64 o.a, .int .i64 o.b, .string ⟨o.name.toArray⟩, .string ⟨o.text.toArray⟩, .slice A n c] 44)).alloc (.cells zeroOp 44)).drew.heap[w.heap.size]? = some (.cells #[.int .i64 o.kind, .int .i64 o.a, .int .i64 o.b, .string ⟨o.name.toArray⟩, .string ⟨o.text.toArray⟩, .slice A n c] 44 (0, 0)) := (Below.heap_alloc _ _ _ (by simp)).trans (heap_alloc_new w _)
  obtain ⟨h0, h1, h2, h3, h4, h5⟩ := op_cells h
  exact ⟨h0, h1, h2, h3, h4, h5, (((Below.refl _ _).alloc (Nat.le_refl _) _).alloc (by simp) _).drew⟩
theorem os_later {w : World} {o : POp} {A : Option Addr} {n c : Nat} {W W1 : World} (h : W.cell? ⟨w.heap.size, 0, none⟩ = some (.int .i64 o.kind) ∧ W.cell? ⟨w.heap.size, 1, none⟩ = some (.int .i64 o.a) ∧ W.cell? ⟨w.heap.size, 2, none⟩ = some (.int .i64 o.b) ∧ W.cell? ⟨w.heap.size, 3, none⟩ = some (.string ⟨o.name.toArray⟩) ∧ W.cell? ⟨w.heap.size, 4, none⟩ = some (.string ⟨o.text.toArray⟩) ∧ W.cell? ⟨w.heap.size, 5, none⟩ = some (.slice A n c) ∧ Below w.heap.size w W) (hb : Below W.heap.size W W1) : W1.cell? ⟨w.heap.size, 0, none⟩ = some (.int .i64 o.kind) ∧ W1.cell? ⟨w.heap.size, 1, none⟩ = some (.int .i64 o.a) ∧ W1.cell? ⟨w.heap.size, 2, none⟩ = some (.int .i64 o.b) ∧ W1.cell? ⟨w.heap.size, 3, none⟩ = some (.string ⟨o.name.toArray⟩) ∧ W1.cell? ⟨w.heap.size, 4, none⟩ = some (.string ⟨o.text.toArray⟩) ∧ W1.cell? ⟨w.heap.size, 5, none⟩ = some (.slice A n c) ∧ Below w.heap.size w W1 := by
  obtain ⟨h0, h1, h2, h3, h4, h5, h7⟩ := h
  have k : ∀ (a : Addr) v, W.cell? a = some v → W1.cell? a = some v := fun a v e => by rw [hb.cell (World.block_lt_of_cell? W a e)]; exact e
  exact ⟨k _ _ h0, k _ _ h1, k _ _ h2, k _ _ h3, k _ _ h4, k _ _ h5, h7.trans (hb.mono h7.size)⟩
theorem os_set {w : World} {o : POp} {A : Option Addr} {n c : Nat} {W : World} (h : W.cell? ⟨w.heap.size, 0, none⟩ = some (.int .i64 o.kind) ∧ W.cell? ⟨w.heap.size, 1, none⟩ = some (.int .i64 o.a) ∧ W.cell? ⟨w.heap.size, 2, none⟩ = some (.int .i64 o.b) ∧ W.cell? ⟨w.heap.size, 3, none⟩ = some (.string ⟨o.name.toArray⟩) ∧ W.cell? ⟨w.heap.size, 4, none⟩ = some (.string ⟨o.text.toArray⟩) ∧ W.cell? ⟨w.heap.size, 5, none⟩ = some (.slice A n c) ∧ Below w.heap.size w W) (j : Nat) (u : Value) : (W.setCell ⟨w.heap.size + 1, j, none⟩ u).cell? ⟨w.heap.size, 0, none⟩ = some (.int .i64 o.kind) ∧ (W.setCell ⟨w.heap.size + 1, j, none⟩ u).cell? ⟨w.heap.size, 1, none⟩ = some (.int .i64 o.a) ∧ (W.setCell ⟨w.heap.size + 1, j, none⟩ u).cell? ⟨w.heap.size, 2, none⟩ = some (.int .i64 o.b) ∧ (W.setCell ⟨w.heap.size + 1, j, none⟩ u).cell? ⟨w.heap.size, 3, none⟩ = some (.string ⟨o.name.toArray⟩) ∧ (W.setCell ⟨w.heap.size + 1, j, none⟩ u).cell? ⟨w.heap.size, 4, none⟩ = some (.string ⟨o.text.toArray⟩) ∧ (W.setCell ⟨w.heap.size + 1, j, none⟩ u).cell? ⟨w.heap.size, 5, none⟩ = some (.slice A n c) ∧ Below w.heap.size w (W.setCell ⟨w.heap.size + 1, j, none⟩ u) := by
  obtain ⟨h0, h1, h2, h3, h4, h5, h7⟩ := h
  have k : ∀ (i : Nat) v, W.cell? ⟨w.heap.size, i, none⟩ = some v → (W.setCell ⟨w.heap.size + 1, j, none⟩ u).cell? ⟨w.heap.size, i, none⟩ = some v := fun i v e => by
    rw [World.cell?_of_block (w := W) (Below.heap_setCell _ _ _ _ (by simp))]; exact e
  exact ⟨k _ _ h0, k _ _ h1, k _ _ h2, k _ _ h3, k _ _ h4, k _ _ h5, h7.setCell (by simp) _⟩
theorem os_below {w : World} {o : POp} {A : Option Addr} {n c : Nat} {W : World} (h : W.cell? ⟨w.heap.size, 0, none⟩ = some (.int .i64 o.kind) ∧ W.cell? ⟨w.heap.size, 1, none⟩ = some (.int .i64 o.a) ∧ W.cell? ⟨w.heap.size, 2, none⟩ = some (.int .i64 o.b) ∧ W.cell? ⟨w.heap.size, 3, none⟩ = some (.string ⟨o.name.toArray⟩) ∧ W.cell? ⟨w.heap.size, 4, none⟩ = some (.string ⟨o.text.toArray⟩) ∧ W.cell? ⟨w.heap.size, 5, none⟩ = some (.slice A n c) ∧ Below w.heap.size w W) : Below w.heap.size w W := h.2.2.2.2.2.2

theorem int_types : ∀ q, q ∈ 3 :: (Kd.int .i64).E → q ≠ 44 := by
  intro q hq
  have : q = 3 := by simpa [Kd.int, Kd.scalar] using hq
  subst this; decide

theorem six_R {B b : Nat} {w : World} {cs : Array Value} {lv : Value} {xs : List Int} (hb : w.heap[b]? = some (.cells cs 44 (0, 0))) (ho : (Kd.int .i64).R 3 w B (fun _ => True) lv xs) (u0 u1 u2 u3 u4 u5 : Value) :
    (Kd.int .i64).R 3 ((((((w.setCell ⟨b, 0, none⟩ u0).setCell ⟨b, 1, none⟩ u1).setCell ⟨b, 2, none⟩ u2).setCell ⟨b, 3, none⟩ u3).setCell ⟨b, 4, none⟩ u4).setCell ⟨b, 5, none⟩ u5) B (fun _ => True) lv xs :=
  have hb0 := blk_set hb 0 u0
  have hb1 := blk_set hb0 1 u1
  have hb2 := blk_set hb1 2 u2
  have hb3 := blk_set hb2 3 u3
  have hb4 := blk_set hb3 4 u4
  Kd.R_set (Kd.R_set (Kd.R_set (Kd.R_set (Kd.R_set (Kd.R_set ho hb int_types 0 u0) hb0 int_types 1 u1) hb1 int_types 2 u2) hb2 int_types 3 u3) hb3 int_types 4 u4) hb4 int_types 5 u5

set_option maxHeartbeats 4000000 in
theorem refOp_any (o : POp) (A : Option Addr) (n c : Nat) (w : World) (hC : (Kd.int .i64).C w A n o.list) (hl : n ≤ 33554432) :
    Calls Tryz.prog 31 #[.agg #[.int .i64 o.kind, .int .i64 o.a, .int .i64 o.b, .string ⟨o.name.toArray⟩, .string ⟨o.text.toArray⟩, .slice A n c]] w fun e w' =>
      (∃ v, e = .returned (.agg #[.int .i64 o.kind, .int .i64 o.a, .int .i64 o.b, .string ⟨o.name.toArray⟩, .string ⟨o.text.toArray⟩, v]) ∧ (Kd.int .i64).R 3 w' w.heap.size (fun _ => True) v o.list) ∧ Below w.heap.size w w' := by
  have HC := Lib.hid hC
  have HN := Lib.hid (show ((w.alloc (.cells #[.int .i64 o.kind, .int .i64 o.a, .int .i64 o.b, .string ⟨o.name.toArray⟩, .string ⟨o.text.toArray⟩, .slice A n c] 44)).alloc (.cells zeroOp 44)).drew.heap[w.heap.size + 1]? = some (.cells zeroOp 44 (0, 0)) from new_at _ _ _ (by simp))
  have HF := Lib.hid (os_first w o A n c _ rfl)
  unfold zeroOp at HF
  clear hC
  go_enter Tryz.func31, Tryz.ntmps31
  go_wp2_with fail
  go_region_held3 (fun W => W.cell? ⟨w.heap.size, 0, none⟩ = some (.int .i64 o.kind) ∧ W.cell? ⟨w.heap.size, 1, none⟩ = some (.int .i64 o.a) ∧ W.cell? ⟨w.heap.size, 2, none⟩ = some (.int .i64 o.b) ∧ W.cell? ⟨w.heap.size, 3, none⟩ = some (.string ⟨o.name.toArray⟩) ∧ W.cell? ⟨w.heap.size, 4, none⟩ = some (.string ⟨o.text.toArray⟩) ∧ W.cell? ⟨w.heap.size, 5, none⟩ = some (.slice A n c) ∧ Below w.heap.size w W) (first | with_reducible exact HF.out | with_reducible exact os_later (by assumption) (by assumption) | with_reducible exact os_set (os_set (os_set (os_set (os_set (os_set (by assumption) _ _) _ _) _ _) _ _) _ _) _ _) (first | (go_at_call 30; refine (refInts_any o.list A n c _ (Kd.C_below HC.out (os_below (by assumption))) hl).mono ?_; rintro e w' ⟨⟨v, rfl, hR⟩, hB⟩; obtain ⟨A1, c1, rfl⟩ := Kd.R_slice hR; have h1 := (hB.block _ (blk_lt HN.out)).trans HN.out; obtain ⟨z0, z1, z2, z3, z4, z5⟩ := zero_cells h1))
  have HR := Lib.hid (fun u0 u1 u2 u3 u4 u5 : Value => six_R h1 (Kd.R_lower hR (show w.heap.size ≤ _ by have := HF.out.2.2.2.2.2.2.size; exact this)) u0 u1 u2 u3 u4 u5)
  have HB := Lib.hid (HF.out.2.2.2.2.2.2.trans (hB.mono HF.out.2.2.2.2.2.2.size))
  have hz : w.heap.size + 1 < w'.heap.size := blk_lt h1
  clear hR hB h1 HF HN
  go_wp2_with fail
  exact bodyPost_ret (v := .agg #[.int .i64 o.kind, .int .i64 o.a, .int .i64 o.b, .string ⟨o.name.toArray⟩, .string ⟨o.text.toArray⟩, .slice A1 o.list.length c1]) (by simp [results, Tryz.results31, go_sem, z0, z1, z2, z3, z4, z5]) rfl ⟨⟨_, rfl, HR.out _ _ _ _ _ _⟩, six_below HB.out (by omega) _ _ _ _ _ _⟩

theorem make_ops (n : Nat) (hn : n ≤ 4194304) (W : World) : (Instr.makeSlice 23 (.int .i64 0) (.int .i64 (n : Int))).run Tryz.prog W = .ok (.slice (some ⟨W.heap.size, 0, none⟩) 0 n) (W.alloc (.cells (madeCells (Value.agg zeroOp).cells (n * 6)) 44)) := by
  obtain ⟨i, hi, hz⟩ := Option.map_eq_some_iff.1 info_op
  simp only [Prod.mk.injEq] at hz
  obtain ⟨hz0, hz1, hz2⟩ := hz
  have := run_make (P := Tryz.prog) W 23 44 i (.agg zeroOp) Tryz.underlying23 hi hz0 .i64 .i64 0 (n : Int) (by omega) (by omega) (by rw [hz2]; simp; omega) (by omega)
  rw [hz1] at this
  simp only [Int.toNat_zero, Int.toNat_natCast] at this
  exact this

theorem rowOp_new (w : World) (n : Nat) (hn : n ≤ 4194304) : kOp.R 44 (w.alloc (.cells (madeCells (Value.agg zeroOp).cells (n * 6)) 44)) w.heap.size (fun _ => True) (.slice (some ⟨w.heap.size, 0, none⟩) 0 n) [] :=
  ⟨fun _ _ => trivial, [], World.ownsRow_made w _ n (Nat.le_refl _) (by simp only [maxLen]; omega) (size_madeCells _ _), Reps.none _ _⟩

set_option maxHeartbeats 4000000 in
set_option maxRecDepth 100000 in
theorem refOps_any (ops : List POp) (A : Option Addr) (n c : Nat) (w : World) (hC : kOp.C w A n ops) (hl : n ≤ 4194304) (hL : ∀ o ∈ ops, o.list.length ≤ 33554432) :
    Calls Tryz.prog 13 #[.slice A n c] w fun e w' => (∃ v, e = .returned v ∧ kOp.R 44 w' w.heap.size (fun _ => True) v ops) ∧ Below w.heap.size w w' := by
  have hmk := make_ops n hl
  have HNW := Lib.hid (rowOp_new w n hl)
  have HC := Lib.hid hC
  have HL := Lib.hid hL
  obtain ⟨N, hN⟩ : ∃ N, N = madeCells (Value.agg zeroOp).cells (n * 6) := ⟨_, rfl⟩
  rw [← hN] at hmk HNW
  clear hC hL hN
  go_enter Tryz.func13, Tryz.ntmps13
  go_wp2_with fail
  go_loopw [3, 4] (fun v i wr => ∃ (k : Nat) (A' : Option Addr) (n' c' : Nat), v = .slice A' n' c' ∧ i = .int .i64 (k : Int) ∧ k ≤ n ∧ Hid (kOp.R 44 wr w.heap.size (fun _ => True) (.slice A' n' c') (ops.take k)) ∧ Hid (Below w.heap.size w wr)) (fun _ i _ => n - (intOf i).toNat)
  case atStart => exact ⟨0, _, _, _, rfl, rfl, Nat.zero_le _, HNW, Lib.hid ((Below.refl _ _).alloc (Nat.le_refl _) _)⟩
  case round =>
  clear HNW hmk
  obtain ⟨k, A', n', c', rfl, rfl, hk, hR, hB⟩ := hrel
  by_cases hlt : k < n
  · obtain ⟨o, ho⟩ : ∃ o, ops[k]? = some o := ⟨ops[k]'(by rw [HC.out.1]; exact hlt), List.getElem?_eq_getElem _⟩
    obtain ⟨ad, A5, c5, hAd, p0, p1, p2, p3, p4, p5, hc5, hC5⟩ := at_op (Kd.C_below HC.out hB.out) k o ho
    obtain ⟨m, hm⟩ : ∃ m, m = o.list.length := ⟨_, rfl⟩
    rw [← hm] at p5 hc5 hC5
    have HC5 := Lib.hid hC5
    have HM := Lib.hid hm
    have hml : m ≤ 33554432 := by rw [hm]; exact HL.out o (List.mem_of_getElem? ho)
    have HST := Lib.hid (show ops.take (k + 1) = ops.take k ++ [o] by rw [List.take_add_one, ho]; rfl)
    have hn' := (Kd.R_reads' hR.out).1
    have HTK := Lib.hid (show (ops.take k).length ≤ 4194304 by rw [List.length_take]; omega)
    have HLT := Lib.hid (Kd.R_lt hR.out)
    clear ho hC5 hm hn'
    subst hAd
    go_wp2_with fail
    refine (refOp_any o A5 m c5 _ HC5.out hml).mono ?_
    rintro e w1 ⟨⟨v, rfl, hv⟩, hB1⟩
    obtain ⟨A6, c6, rfl⟩ := Kd.R_slice hv
    rw [← HM.out] at hv ⊢
    have HMM := Lib.hid (show kOp.M w1 w.heap.size (fun k => wr.heap.size ≤ k) o [.int .i64 o.kind, .int .i64 o.a, .int .i64 o.b, .string ⟨o.name.toArray⟩, .string ⟨o.text.toArray⟩, .slice A6 m c6] from
      kOp_mkM _ _ _ _ (Kd.R_lower (Kd.R_mono (Kd.R_bound hv) (fun k hk => hk.2.1)) hB.out.size))
    have HR1 := Lib.hid (Kd.R_below hR.out hB1)
    have HB1 := Lib.hid (hB.out.trans (hB1.mono hB.out.size))
    have HS1 := Lib.hid hB1.size
    clear hv hB1 p0 p1 p2 p3 p4 p5
    go_wp2_with (at_builtin; go_must (refine Kd.R_append kOp (w0 := w) w.heap.size rfl (.tmp 20) (.tmp 22) 23 44 (.agg zeroOp) 80 rfl Tryz.underlying23 info_op rfl (by decide) (by omega) (.slice A' n' c') (ops.take k) o [.int .i64 o.kind, .int .i64 o.a, .int .i64 o.b, .string ⟨o.name.toArray⟩, .string ⟨o.text.toArray⟩, .slice A6 m c6] (fun _ => True) (fun k => wr.heap.size ≤ k) rfl ?hx ?hp ?hokp (fun _ _ => trivial) ?HO ?HB ?hbase ?hl ?_))
    case hx => show Value.slice (some ⟨w1.heap.size + 1, 0, none⟩) 1 1 = _; simp
    case hp => exact Kd.M_alloc HMM.out _
    case hokp => exact fun k hk => ⟨trivial, fun e => by have := HLT.out k e.symm; omega⟩
    case HO => exact Kd.R_alloc HR1.out _
    case HB => exact HB1.out.alloc HB1.out.size _
    case hbase => have := HB1.out.size; simp; omega
    case hl => have := HTK.out; omega
    intro v1 w3 hR3 hB3 _ _
    rw [← HST.out] at hR3
    obtain ⟨A7, c7, rfl⟩ := Kd.R_slice hR3
    have HR3 := Lib.hid hR3
    have HB3 := Lib.hid hB3
    clear hR3 hB3
    go_wp2_with fail
    go_roundw
    case rel => exact ⟨k + 1, _, _, _, rfl, by go_num, hlt, HR3, HB3⟩
    case measure => simp [intOf]; omega
  · obtain rfl : k = n := by omega
    clear hlt
    go_wp2_with fail
    go_ret
    exact ⟨⟨_, rfl, by have := hR.out; rwa [List.take_of_length_le (by rw [HC.out.1]; exact Nat.le_refl _)] at this⟩, hB.out⟩
end Go.Proofs.YtbpackopicngmaaGreatDoor
