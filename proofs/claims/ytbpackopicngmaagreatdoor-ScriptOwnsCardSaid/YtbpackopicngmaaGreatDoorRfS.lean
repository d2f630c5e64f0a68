/- The document's step (written by gen/mkStep.py). -/
import Derived.Test.YtbpackopicngmaaGreatDoorRfF
import Derived.Test.YtbpackopicngmaaGreatDoorRfWd
namespace Go.Proofs.Sc
/-- The kind found when k is at hand. -/
def kindTo (x : By) (k : Nat) : Int := if kindOf x ≠ 0 ∧ kindOf x < (k : Int) then kindOf x else 0
theorem kindTo_one (x : By) : kindTo x 1 = 0 := by
  unfold kindTo
  split
  · rename_i h; have := (kindOf_ok h.1).1; unfold kindOk at this; omega
  · rfl
theorem kindTo_all (x : By) : kindTo x 20 = kindOf x := by
  unfold kindTo
  split
  · rfl
  · rename_i h
    by_cases h0 : kindOf x = 0
    · exact h0.symm
    · have := (kindOf_ok h0).1; unfold kindOk at this; exact absurd ⟨h0, by omega⟩ h
theorem kindTo_yes {x : By} {k : Nat} (h1 : 1 ≤ k) (h2 : k ≤ 19) (h : wordOf (k : Int) = x) : kindTo x (k + 1) = (k : Int) := by
  have : kindOf x = (k : Int) := by rw [← h]; exact kindOf_wordOf ⟨by omega, by omega⟩
  unfold kindTo; rw [this, if_pos (by omega)]
theorem kindTo_no {x : By} {k : Nat} (h1 : 1 ≤ k) (h2 : k ≤ 19) (h : wordOf (k : Int) ≠ x) : kindTo x (k + 1) = kindTo x k := by
  have hk : kindOf x ≠ (k : Int) := by
    intro e
    by_cases h0 : kindOf x = 0
    · omega
    · have := (kindOf_ok h0).2; rw [e] at this; exact h this
  unfold kindTo
  by_cases h3 : kindOf x ≠ 0 ∧ kindOf x < (k : Int)
  · rw [if_pos h3, if_pos ⟨h3.1, by omega⟩]
  · rw [if_neg h3, if_neg (fun h4 => h3 ⟨h4.1, by omega⟩)]

theorem setAll_at {o : POp} {P : By} {r : List By} {p : Nat} {y : By} (h : r[p]? = some y) : setAll o (P.drop p) (r.drop p) = (match setF o (P.getD p 76) y with | .ok o' => setAll o' (P.drop (p + 1)) (r.drop (p + 1)) | .error e => .error e) := by
  rw [Go.Lib.drop_at h]
  cases hP : P[p]? with
  | none =>
    have hl : P.length ≤ p := by simpa using hP
    rw [List.drop_of_length_le hl, List.drop_of_length_le (show P.length ≤ p + 1 by omega), List.getD_eq_getElem?_getD, hP]
    simp only [setAll, Option.getD_none]
    split <;> simp_all
  | some f =>
    rw [Go.Lib.drop_at hP, List.getD_eq_getElem?_getD, hP]
    simp only [setAll, Option.getD_some]
    split <;> simp_all
theorem setAll_end {o : POp} {P : By} {r : List By} {p : Nat} (h : r.length ≤ p) : setAll o (P.drop p) (r.drop p) = .ok o := by
  rw [List.drop_of_length_le h]
  cases P.drop p <;> simp [setAll]

theorem hasList_last {F : By} {m : Nat} (hm : F.length = m + 1) (f : UInt8) (hf : F[m]? = some f) : hasList F = (f == 76) := by
  unfold hasList
  rw [List.getLast?_eq_getElem?, hm, Nat.add_sub_cancel, hf]
  rfl
theorem plain_yes {F : By} (h : hasList F = true) : plain F = F.dropLast := by unfold plain; rw [if_pos h]
theorem plain_no {F : By} (h : hasList F = false) : plain F = F := by unfold plain; rw [if_neg (by rw [h]; decide)]
/-- The field of the word p (counted from 0), as the document finds it. -/
theorem plain_at {F : By} {m p : Nat} {f : UInt8} (hm : F.length = m + 1) (hf : F[min p m]? = some f) (hp : p ≤ m ∨ hasList F = true) : (plain F).getD p 76 = f := by
  by_cases hL : hasList F = true
  · rw [plain_yes hL, List.getD_eq_getElem?_getD, List.getElem?_dropLast]
    by_cases hlt : p < m
    · rw [if_pos (by omega)]
      rw [Nat.min_eq_left (by omega)] at hf
      rw [hf]; rfl
    · rw [if_neg (by omega)]
      rw [Nat.min_eq_right (by omega)] at hf
      have := hasList_last hm f hf
      rw [hL] at this
      exact (beq_iff_eq.1 this.symm).symm
  · rw [plain_no (by simpa using hL), List.getD_eq_getElem?_getD]
    have : p ≤ m := by rcases hp with h | h; exact h; exact absurd h hL
    rw [Nat.min_eq_left this] at hf
    rw [hf]; rfl
theorem stepOf_noword {x : By} {r : List By} (h : kindOf x = 0) : stepOf (x :: r) = .error 261 := by simp [stepOf, h]
theorem stepOf_few {x : By} {r : List By} (h : kindOf x ≠ 0) (hl : r.length < (plain (fieldsOf (kindOf x))).length ∨ (¬ hasList (fieldsOf (kindOf x)) ∧ (plain (fieldsOf (kindOf x))).length < r.length)) : stepOf (x :: r) = .error 263 := by
  unfold stepOf; simp only; rw [if_neg h, if_pos hl]
theorem stepOf_set {x : By} {r : List By} (h : kindOf x ≠ 0) (hl : ¬ (r.length < (plain (fieldsOf (kindOf x))).length ∨ (¬ hasList (fieldsOf (kindOf x)) ∧ (plain (fieldsOf (kindOf x))).length < r.length))) : stepOf (x :: r) = setAll ⟨kindOf x, 0, 0, [], [], []⟩ (plain (fieldsOf (kindOf x))) r := by
  unfold stepOf; simp only; rw [if_neg h, if_neg hl]; rfl
theorem setF_grow {o o' : POp} {f : UInt8} {w : By} (hs : setF o f w = .ok o') : o'.list.length ≤ o.list.length + 1 := by
  unfold setF at hs
  split at hs
  · split at hs
    · cases hs; exact Nat.le_succ _
    · cases hs
  split at hs
  · split at hs
    · cases hs; exact Nat.le_succ _
    · cases hs
  split at hs
  · cases hs
  split at hs
  · cases hs; exact Nat.le_succ _
  split at hs
  · cases hs; exact Nat.le_succ _
  · cases hs; simp
theorem fields_len {k : Int} (h : kindOk k) : (fieldsOf k).length ≤ 4 := by
  obtain ⟨i, rfl⟩ := wordOf_nat h
  have : ∀ i : Fin 19, (fieldsOf ((i.val : Int) + 1)).length ≤ 4 := by decide +kernel
  exact this i
end Go.Proofs.Sc
namespace Go.Proofs.YtbpackopicngmaaGreatDoor
open Go.RowKit Go.Proofs.Sc Go.Proofs.YtbpackopicngmaaGreatDoorW.PrintWords

def RStepPost (ws : List By) (w : World) (e : Ending) (w' : World) : Prop :=
  ∃ (o : POp) (A : Option Addr) (c : Nat) (n : Int), e = .returned (.tuple #[.agg #[.int .i64 o.kind, .int .i64 o.a, .int .i64 o.b, .string ⟨o.name.toArray⟩, .string ⟨o.text.toArray⟩, .slice A o.list.length c], .int .i64 n]) ∧ ((stepOf ws = .ok o ∧ n = 0) ∨ (stepOf ws = .error n ∧ n ≠ 0)) ∧ w'.ownsRow w.heap.size 3 1 (.slice A o.list.length c) o.list.length (nums .i64 o.list) ∧ Below w.heap.size w w'

/-- What stands while a step is read: the result's cells, the step's, its list's row. -/
structure SO (w : World) (o : POp) (A : Option Addr) (c : Nat) (W : World) : Prop where
  b2 : W.heap[w.heap.size]? = some (.cells #[.int .i64 0, .int .i64 0, .int .i64 0, .string ⟨#[]⟩, .string ⟨#[]⟩, .slice none 0 0] 44 (0, 0))
  b4 : W.heap[w.heap.size + 1]? = some (.cells #[.int .i64 o.kind, .int .i64 o.a, .int .i64 o.b, .string ⟨o.name.toArray⟩, .string ⟨o.text.toArray⟩, .slice A o.list.length c] 44 (0, 0))
  own : W.ownsRow w.heap.size 3 1 (.slice A o.list.length c) o.list.length (nums .i64 o.list)
  below : Below w.heap.size w W

theorem SO.later {w : World} {o : POp} {A : Option Addr} {c : Nat} {W W1 : World} (h : SO w o A c W) (hb : Below W.heap.size W W1) : SO w o A c W1 :=
  ⟨(hb.block _ (blk_lt h.b2)).trans h.b2, (hb.block _ (blk_lt h.b4)).trans h.b4, own_move h.own (fun k hk => hb.block k (own_lt h.own k hk)), h.below.trans (hb.mono h.below.size)⟩

theorem SO.drew {w : World} {o : POp} {A : Option Addr} {c : Nat} {W : World} (h : SO w o A c W) : SO w o A c W.drew := h.later (Below.refl _ _).drew

theorem SO.start (w : World) : SO w ⟨0, 0, 0, [], [], []⟩ none 0 ((w.alloc (.cells #[.int .i64 0, .int .i64 0, .int .i64 0, .string ⟨#[]⟩, .string ⟨#[]⟩, .slice none 0 0] 44)).alloc (.cells #[.int .i64 0, .int .i64 0, .int .i64 0, .string ⟨#[]⟩, .string ⟨#[]⟩, .slice none 0 0] 44)) :=
  ⟨(Below.heap_alloc _ _ _ (by simp)).trans (heap_alloc_new w _), new_at _ _ _ (by simp), own_nil _ _ _ _, ((Below.refl _ _).alloc (Nat.le_refl _) _).alloc (by simp) _⟩

theorem SO.kind {w : World} {W : World} {k0 : Int} (h : SO w ⟨k0, 0, 0, [], [], []⟩ none 0 W) (k : Int) : SO w ⟨k, 0, 0, [], [], []⟩ none 0 (W.setCell ⟨w.heap.size + 1, 0, none⟩ (.int .i64 k)) :=
  ⟨(Below.heap_setCell _ _ _ _ (by simp)).trans h.b2, blk_set h.b4 0 _, own_nil _ _ _ _, h.below.setCell (by simp) _⟩

theorem six_heap {b : Nat} {W : World} {v0 v1 v2 v3 v4 v5 : Value} (hb : W.heap[b]? = some (.cells #[v0, v1, v2, v3, v4, v5] 44 (0, 0))) (u0 u1 u2 u3 u4 u5 : Value) : ((((((W.setCell ⟨b, 0, none⟩ u0).setCell ⟨b, 1, none⟩ u1).setCell ⟨b, 2, none⟩ u2).setCell ⟨b, 3, none⟩ u3).setCell ⟨b, 4, none⟩ u4).setCell ⟨b, 5, none⟩ u5).heap[b]? = some (.cells #[u0, u1, u2, u3, u4, u5] 44 (0, 0)) :=
  blk_set (blk_set (blk_set (blk_set (blk_set (blk_set hb 0 u0) 1 u1) 2 u2) 3 u3) 4 u4) 5 u5

theorem six_other {b k : Nat} {W : World} (h : k ≠ b) (u0 u1 u2 u3 u4 u5 : Value) : ((((((W.setCell ⟨b, 0, none⟩ u0).setCell ⟨b, 1, none⟩ u1).setCell ⟨b, 2, none⟩ u2).setCell ⟨b, 3, none⟩ u3).setCell ⟨b, 4, none⟩ u4).setCell ⟨b, 5, none⟩ u5).heap[k]? = W.heap[k]? := by
  rw [Below.heap_setCell _ _ _ _ h, Below.heap_setCell _ _ _ _ h, Below.heap_setCell _ _ _ _ h, Below.heap_setCell _ _ _ _ h, Below.heap_setCell _ _ _ _ h, Below.heap_setCell _ _ _ _ h]

theorem own_not_op {B : Nat} {W : World} {v : Value} {n : Nat} {xs : List Value} {b : Nat} {cs : Array Value} (ho : W.ownsRow B 3 1 v n xs) (hb : W.heap[b]? = some (.cells cs 44 (0, 0))) : some b ≠ v.ownBlock := by
  intro e
  obtain ⟨c8, h8⟩ := own_typed ho b e.symm
  rw [hb] at h8
  cases h8

/-- A field is filled. -/
theorem SO.fill {w : World} {o o' : POp} {A A' : Option Addr} {c c' : Nat} {W W1 : World} (h : SO w o A c W) (hf : FS w.heap.size W.drew (Value.slice A o.list.length c).ownBlock (.slice A' o'.list.length c') o'.list W1) :
    W1.heap[w.heap.size]? = some (.cells #[.int .i64 0, .int .i64 0, .int .i64 0, .string ⟨#[]⟩, .string ⟨#[]⟩, .slice none 0 0] 44 (0, 0)) ∧ W1.heap[w.heap.size + 1]? = some (.cells #[.int .i64 o.kind, .int .i64 o.a, .int .i64 o.b, .string ⟨o.name.toArray⟩, .string ⟨o.text.toArray⟩, .slice A o.list.length c] 44 (0, 0)) ∧ Below w.heap.size w W1 :=
  ⟨(hf.kept _ (blk_lt h.b2) (own_not_op h.own h.b2)).trans h.b2, (hf.kept _ (blk_lt h.b4) (own_not_op h.own h.b4)).trans h.b4, h.below.drew.trans hf.below⟩

theorem SO.filled {w : World} {o o' : POp} {A A' : Option Addr} {c c' : Nat} {W W1 : World} (h : SO w o A c W) (hf : FS w.heap.size W.drew (Value.slice A o.list.length c).ownBlock (.slice A' o'.list.length c') o'.list W1) :
    SO w o' A' c' ((((((W1.setCell ⟨w.heap.size + 1, 0, none⟩ (.int .i64 o'.kind)).setCell ⟨w.heap.size + 1, 1, none⟩ (.int .i64 o'.a)).setCell ⟨w.heap.size + 1, 2, none⟩ (.int .i64 o'.b)).setCell ⟨w.heap.size + 1, 3, none⟩ (.string ⟨o'.name.toArray⟩)).setCell ⟨w.heap.size + 1, 4, none⟩ (.string ⟨o'.text.toArray⟩)).setCell ⟨w.heap.size + 1, 5, none⟩ (.slice A' o'.list.length c')) :=
  have ⟨h2, h4, hb⟩ := h.fill hf
  ⟨(six_other (by omega) _ _ _ _ _ _).trans h2, six_heap h4 _ _ _ _ _ _, six_own h4 hf.own _ _ _ _ _ _, six_below hb (by omega) _ _ _ _ _ _⟩

theorem s2_later {w : World} {g i : Nat} {y : By} {W W1 : World} (hg : g < w.heap.size) (h : W.cell? ⟨g, i, none⟩ = some (.string ⟨y.toArray⟩)) (hb : Below w.heap.size W W1) : W1.cell? ⟨g, i, none⟩ = some (.string ⟨y.toArray⟩) := by
  rw [hb.cell (p := ⟨g, i, none⟩) hg]; exact h
theorem s2_six {w : World} {g i : Nat} {y : By} {W : World} (hg : g < w.heap.size) (h : W.cell? ⟨g, i, none⟩ = some (.string ⟨y.toArray⟩)) {u0 u1 u2 u3 u4 u5 : Value} : ((((((W.setCell ⟨w.heap.size + 1, 0, none⟩ u0).setCell ⟨w.heap.size + 1, 1, none⟩ u1).setCell ⟨w.heap.size + 1, 2, none⟩ u2).setCell ⟨w.heap.size + 1, 3, none⟩ u3).setCell ⟨w.heap.size + 1, 4, none⟩ u4).setCell ⟨w.heap.size + 1, 5, none⟩ u5).cell? ⟨g, i, none⟩ = some (.string ⟨y.toArray⟩) := by
  rw [World.cell?_of_block (w := W) (six_other (b := w.heap.size + 1) (by simp only; omega) u0 u1 u2 u3 u4 u5)]; exact h

theorem s1_later {w : World} {g : Nat} {x : By} {k : Nat} {W W1 : World} (_ : g < w.heap.size) (h : W.cell? ⟨g, 0, none⟩ = some (.string ⟨x.toArray⟩) ∧ SO w (⟨kindTo x k, 0, 0, [], [], []⟩ : POp) none 0 W) (hb : Below W.heap.size W W1) : W1.cell? ⟨g, 0, none⟩ = some (.string ⟨x.toArray⟩) ∧ SO w (⟨kindTo x k, 0, 0, [], [], []⟩ : POp) none 0 W1 := by
  refine ⟨?_, h.2.later hb⟩
  rw [hb.cell (World.block_lt_of_cell? W _ h.1)]; exact h.1

set_option maxHeartbeats 8000000 in
set_option maxRecDepth 100000 in
theorem refStep_any (x : By) (r : List By) (hr : ∀ y ∈ r, y.length ≤ 33554432) (hrl : r.length ≤ 33554431) (v : Value) (w : World) (hv : Words w.heap.size w v (x :: r)) :
    Calls Tryz.prog 28 #[v] w (RStepPost (x :: r) w) := by
  obtain ⟨g, cp, rfl, hg, hc1, hc2, hcell⟩ := hv
  obtain ⟨n, hn⟩ : ∃ n, n = (x :: r).length := ⟨_, rfl⟩
  rw [← hn] at hc1 ⊢
  have hn1 : 1 ≤ n := by rw [hn]; simp
  have hnr : n = r.length + 1 := by rw [hn]; simp
  have HNR := Lib.hid hnr
  have HC := Lib.hid hcell
  have HR := Lib.hid hr
  have n1 : (0 : Int) < (n : Int) := by omega
  have n3 : 0 < n := by omega
  have n2 : n ≤ 33554432 := by omega
  have HG := Lib.hid hg
  have HX0 := Lib.hid (hcell 0 x rfl)
  have HST := Lib.hid (SO.start w)
  have hsz0 : g < w.heap.size := hg
  clear hn hcell hr hnr
  go_enter Tryz.func28, Tryz.ntmps28
  go_wp2_with fail
  go_loopw [5] (fun v wr => ∃ k : Nat, v = .int .i64 (k : Int) ∧ 1 ≤ k ∧ k ≤ 20 ∧ Hid (SO w (⟨kindTo x k, 0, 0, [], [], []⟩ : POp) none 0 wr)) (fun v _ => 20 - (intOf v).toNat)
  case atStart => exact ⟨1, rfl, by omega, by omega, Lib.hid (by rw [kindTo_one]; exact HST.out)⟩
  case round =>
  clear HST
  obtain ⟨k, rfl, hk1, hk20, hSO⟩ := hrel
  by_cases hlt : k ≤ 19
  · have k1 : decide (k ≤ 19) = true := decide_eq_true hlt
    have k2 : decide ((k : Int) ≤ 19) = true := decide_eq_true (by omega)
    have HSD := Lib.hid (show wr.drew.cell? ⟨g, 0, none⟩ = some (.string ⟨x.toArray⟩) ∧ SO w (⟨kindTo x k, 0, 0, [], [], []⟩ : POp) none 0 wr.drew from ⟨by rw [hSO.out.below.drew.cell (p := ⟨g, 0, none⟩) hsz0]; exact HX0.out, hSO.out.drew⟩)
    by_cases he : wordOf (k : Int) = x
    · have k3 : @BEq.beq (List UInt8) _ (wordOf (k : Int)) x = true := by rw [beq_iff_eq]; exact he
      have HKT := Lib.hid (kindTo_yes hk1 hlt he)
      clear he
      go_wp2_with fail
      go_region_held3 (fun W => W.cell? ⟨g, 0, none⟩ = some (.string ⟨x.toArray⟩) ∧ SO w (⟨kindTo x k, 0, 0, [], [], []⟩ : POp) none 0 W) (first | with_reducible exact HSD.out | with_reducible assumption | with_reducible exact s1_later hsz0 (by assumption) (by assumption)) (first | (go_at_call 60; refine (refWord_any (k : Int) _).mono ?_; rintro e w1 ⟨rfl, hB1⟩))
      all_goals
        have hSO1 : SO w (⟨kindTo x k, 0, 0, [], [], []⟩ : POp) none 0 w1 := hSO.out.drew.later hB1
        obtain ⟨b0, b1, b2, b3, b4, b5⟩ := op_cells hSO1.b4
        obtain ⟨g0, g1, g2, g3, g4, g5⟩ := op_frozen hSO1.b4
        have HSK := Lib.hid (show SO w (⟨kindTo x (k + 1), 0, 0, [], [], []⟩ : POp) none 0 (w1.setCell ⟨w.heap.size + 1, 0, none⟩ (.int .i64 (k : Int))) from by rw [HKT.out]; exact hSO1.kind (k : Int))
        clear hSO hSO1 HSD hB1
        go_wp2_with fail
        go_roundw
        case rel => exact ⟨k + 1, by go_num, by omega, by omega, HSK⟩
        case measure => simp [intOf]; omega
    · have k3 : @BEq.beq (List UInt8) _ (wordOf (k : Int)) x = false := by rw [beq_eq_false_iff_ne]; exact he
      have HKT := Lib.hid (kindTo_no hk1 hlt he)
      clear he
      go_wp2_with fail
      go_region_held3 (fun W => W.cell? ⟨g, 0, none⟩ = some (.string ⟨x.toArray⟩) ∧ SO w (⟨kindTo x k, 0, 0, [], [], []⟩ : POp) none 0 W) (first | with_reducible exact HSD.out | with_reducible assumption | with_reducible exact s1_later hsz0 (by assumption) (by assumption)) (first | (go_at_call 60; refine (refWord_any (k : Int) _).mono ?_; rintro e w1 ⟨rfl, hB1⟩))
      all_goals
        have HSK := Lib.hid (show SO w (⟨kindTo x (k + 1), 0, 0, [], [], []⟩ : POp) none 0 w1 from by rw [HKT.out]; exact hSO.out.drew.later hB1)
        clear hSO HSD hB1
        go_wp2_with fail
        go_roundw
        case rel => exact ⟨k + 1, by go_num, by omega, by omega, HSK⟩
        case measure => simp [intOf]; omega
  · obtain rfl : k = 20 := by omega
    obtain ⟨kk, hkk⟩ : ∃ kk, kk = kindOf x := ⟨_, rfl⟩
    have HSO := Lib.hid (show SO w (⟨kk, 0, 0, [], [], []⟩ : POp) none 0 wr by rw [hkk, ← kindTo_all]; exact hSO.out)
    clear hSO hlt
    by_cases hk0 : kk = 0
    · subst hk0
      have HRES := Lib.hid (stepOf_noword (r := r) hkk.symm)
      clear hkk
      obtain ⟨b0, b1, b2, b3, b4, b5⟩ := op_cells HSO.out.b4
      obtain ⟨z0, z1, z2, z3, z4, z5⟩ := op_cells HSO.out.b2
      obtain ⟨y0, y1, y2, y3, y4, y5⟩ := op_frozen HSO.out.b2
      have hfin := Lib.hid (fun u0 u1 u2 u3 u4 u5 : Value => six_own HSO.out.b2 HSO.out.own u0 u1 u2 u3 u4 u5)
      go_wp2_with fail
      exact bodyPost_ret (v := .tuple #[.agg #[.int .i64 (⟨0, 0, 0, [], [], []⟩ : POp).kind, .int .i64 (⟨0, 0, 0, [], [], []⟩ : POp).a, .int .i64 (⟨0, 0, 0, [], [], []⟩ : POp).b, .string ⟨(⟨0, 0, 0, [], [], []⟩ : POp).name.toArray⟩, .string ⟨(⟨0, 0, 0, [], [], []⟩ : POp).text.toArray⟩, .slice none (⟨0, 0, 0, [], [], []⟩ : POp).list.length 0], .int .i64 261]) (by simp [results, Tryz.results28, go_sem, z0, z1, z2, z3, z4, z5]) rfl ⟨(⟨0, 0, 0, [], [], []⟩ : POp), none, 0, 261, rfl, Or.inr ⟨HRES.out, by decide⟩, hfin.out _ _ _ _ _ _, six_below HSO.out.below (Nat.le_refl _) _ _ _ _ _ _⟩
    have hk0' : kindOf x ≠ 0 := by rw [← hkk]; exact hk0
    have q1 : (kk == 0) = false := by rw [beq_eq_false_iff_ne]; exact hk0
    have HKO := Lib.hid (show Sc.kindOk kk by rw [hkk]; exact (kindOf_ok hk0').1)
    obtain ⟨F, hF⟩ : ∃ F, F = fieldsOf kk := ⟨_, rfl⟩
    obtain ⟨m, hm⟩ : ∃ m, m = F.length := ⟨_, rfl⟩
    obtain ⟨q, hq⟩ : ∃ q, q = r.length := ⟨_, rfl⟩
    have hnq : (n : Int) - 1 = (q : Int) := by have := HNR.out; omega
    have hq2 : q ≤ 33554431 := by omega
    have HFEW := Lib.hid (show (q < (plain F).length ∨ (¬ hasList F ∧ (plain F).length < q)) → stepOf (x :: r) = .error 263 from fun h => stepOf_few hk0' (by rw [← hkk, ← hF, ← hq]; exact h))
    have HSET := Lib.hid (show ¬ (q < (plain F).length ∨ (¬ hasList F ∧ (plain F).length < q)) → stepOf (x :: r) = setAll ⟨kk, 0, 0, [], [], []⟩ (plain F) r from fun h => by rw [stepOf_set hk0' (by rw [← hkk, ← hF, ← hq]; exact h), ← hkk, ← hF])
    have HF := Lib.hid hF
    have HM := Lib.hid hm
    have HQ := Lib.hid hq
    have hm4 : m ≤ 4 := by rw [hm, hF]; exact fields_len HKO.out
    have hfs : (⟨F.toArray⟩ : ByteArray).size = m := by rw [mk_size, hm]
    have HNR2 := Lib.hid (show n = q + 1 by have := HNR.out; omega)
    clear hk0 hk0' hkk hF hm hq
    obtain ⟨b0, b1, b2, b3, b4, b5⟩ := op_cells HSO.out.b4
    go_wp2_with fail
    refine (refFields_any kk HKO.out _).mono ?_
    rw [← HF.out]
    rintro e w1 ⟨rfl, hB1⟩
    have hso1 := HSO.out.later hB1
    clear HSO b0 b1 b2 b3 b4 b5 hB1
    have HSO := Lib.hid hso1
    clear hso1
    by_cases hm0 : m = 0
    · subst hm0
      have hF0 : F = [] := List.eq_nil_of_length_eq_zero HM.out.symm
      by_cases hq0 : q = 0
      · subst hq0
        have hr0 : r = [] := List.eq_nil_of_length_eq_zero HQ.out.symm
        have HOKR := Lib.hid (show stepOf (x :: r) = .ok ⟨kk, 0, 0, [], [], []⟩ by
          rw [HSET.out (by rw [hF0]; simp [plain, hasList]), hr0]
          cases plain F <;> rfl)
        have hn1' : n = 1 := HNR2.out
        subst hn1'
        clear hF0 hr0
        go_wp2_with fail
        go_loopw [10] (fun v wr => w1 = wr ∧ v = .int .i64 1) (fun _ _ => 0)
        case atStart => exact ⟨rfl, rfl⟩
        case round =>
        obtain ⟨rfl, rfl⟩ := hrel
        obtain ⟨b0, b1, b2, b3, b4, b5⟩ := op_cells HSO.out.b4
        obtain ⟨z0, z1, z2, z3, z4, z5⟩ := op_cells HSO.out.b2
        obtain ⟨y0, y1, y2, y3, y4, y5⟩ := op_frozen HSO.out.b2
        have hfin := Lib.hid (fun u0 u1 u2 u3 u4 u5 : Value => six_own HSO.out.b2 HSO.out.own u0 u1 u2 u3 u4 u5)
        go_wp2_with fail
        exact bodyPost_ret (v := .tuple #[.agg #[.int .i64 (⟨kk, 0, 0, [], [], []⟩ : POp).kind, .int .i64 (⟨kk, 0, 0, [], [], []⟩ : POp).a, .int .i64 (⟨kk, 0, 0, [], [], []⟩ : POp).b, .string ⟨(⟨kk, 0, 0, [], [], []⟩ : POp).name.toArray⟩, .string ⟨(⟨kk, 0, 0, [], [], []⟩ : POp).text.toArray⟩, .slice none (⟨kk, 0, 0, [], [], []⟩ : POp).list.length 0], .int .i64 0]) (by simp [results, Tryz.results28, go_sem, z0, z1, z2, z3, z4, z5]) rfl ⟨(⟨kk, 0, 0, [], [], []⟩ : POp), none, 0, 0, rfl, Or.inl ⟨HOKR.out, rfl⟩, hfin.out _ _ _ _ _ _, six_below HSO.out.below (Nat.le_refl _) _ _ _ _ _ _⟩
      · have c1 : ((q : Int) != 0) = true := by rw [bne_iff_ne]; omega
        have HRES := Lib.hid (HFEW.out (by rw [hF0]; simp [plain, hasList]; omega))
        clear hF0
        obtain ⟨b0, b1, b2, b3, b4, b5⟩ := op_cells HSO.out.b4
        obtain ⟨z0, z1, z2, z3, z4, z5⟩ := op_cells HSO.out.b2
        obtain ⟨y0, y1, y2, y3, y4, y5⟩ := op_frozen HSO.out.b2
        have hfin := Lib.hid (fun u0 u1 u2 u3 u4 u5 : Value => six_own HSO.out.b2 HSO.out.own u0 u1 u2 u3 u4 u5)
        go_wp2_with fail
        exact bodyPost_ret (v := .tuple #[.agg #[.int .i64 (⟨kk, 0, 0, [], [], []⟩ : POp).kind, .int .i64 (⟨kk, 0, 0, [], [], []⟩ : POp).a, .int .i64 (⟨kk, 0, 0, [], [], []⟩ : POp).b, .string ⟨(⟨kk, 0, 0, [], [], []⟩ : POp).name.toArray⟩, .string ⟨(⟨kk, 0, 0, [], [], []⟩ : POp).text.toArray⟩, .slice none (⟨kk, 0, 0, [], [], []⟩ : POp).list.length 0], .int .i64 263]) (by simp [results, Tryz.results28, go_sem, z0, z1, z2, z3, z4, z5]) rfl ⟨(⟨kk, 0, 0, [], [], []⟩ : POp), none, 0, 263, rfl, Or.inr ⟨HRES.out, by decide⟩, hfin.out _ _ _ _ _ _, six_below HSO.out.below (Nat.le_refl _) _ _ _ _ _ _⟩
    · obtain ⟨m1, hm1⟩ : ∃ m1, m = m1 + 1 := ⟨m - 1, by omega⟩
      obtain ⟨f1, hf1⟩ : ∃ f1, F[m1]? = some f1 := ⟨F[m1]'(by have := HM.out; omega), List.getElem?_eq_getElem _⟩
      have hmi : (m : Int) - 1 = (m1 : Int) := by omega
      have hb1 : ∀ h, (⟨F.toArray⟩ : ByteArray)[m1]'h = f1 := fun h => list_at _ m1 f1 hf1 h
      have HL := Lib.hid (hasList_last (by rw [← HM.out, hm1]) f1 hf1)
      have d1 : decide (0 < m) = true := decide_eq_true (by omega)
      have d2 : decide ((0 : Int) < (m : Int)) = true := decide_eq_true (by omega)
      have HM1 := Lib.hid hm1
      have l1 : m1 < m := by omega
      have HF1 := Lib.hid hf1
      clear hm0 hf1 hm1
      by_cases h76 : f1 = 76
      · have y1 : ((f1.toNat : Int) == 76) = true := by rw [h76]; rfl
        have hL : hasList F = true := by rw [HL.out, h76]; rfl
        have hpl : (plain F).length = m1 := by rw [plain_yes hL, List.length_dropLast, ← HM.out, HM1.out]; rfl
        by_cases hfew : q < m1
        · have c1 : decide (q < m1) = true := decide_eq_true hfew
          have c2 : decide ((q : Int) < (m1 : Int)) = true := decide_eq_true (by omega)
          have HRES := Lib.hid (HFEW.out (Or.inl (by rw [hpl]; exact hfew)))
          clear hL hpl hfew
          obtain ⟨b0, b1, b2, b3, b4, b5⟩ := op_cells HSO.out.b4
          obtain ⟨z0, z1, z2, z3, z4, z5⟩ := op_cells HSO.out.b2
          obtain ⟨y0, y1, y2, y3, y4, y5⟩ := op_frozen HSO.out.b2
          have hfin := Lib.hid (fun u0 u1 u2 u3 u4 u5 : Value => six_own HSO.out.b2 HSO.out.own u0 u1 u2 u3 u4 u5)
          go_wp2_with fail
          exact bodyPost_ret (v := .tuple #[.agg #[.int .i64 (⟨kk, 0, 0, [], [], []⟩ : POp).kind, .int .i64 (⟨kk, 0, 0, [], [], []⟩ : POp).a, .int .i64 (⟨kk, 0, 0, [], [], []⟩ : POp).b, .string ⟨(⟨kk, 0, 0, [], [], []⟩ : POp).name.toArray⟩, .string ⟨(⟨kk, 0, 0, [], [], []⟩ : POp).text.toArray⟩, .slice none (⟨kk, 0, 0, [], [], []⟩ : POp).list.length 0], .int .i64 263]) (by simp [results, Tryz.results28, go_sem, z0, z1, z2, z3, z4, z5]) rfl ⟨(⟨kk, 0, 0, [], [], []⟩ : POp), none, 0, 263, rfl, Or.inr ⟨HRES.out, by decide⟩, hfin.out _ _ _ _ _ _, six_below HSO.out.below (Nat.le_refl _) _ _ _ _ _ _⟩
        · have c1 : decide (q < m1) = false := decide_eq_false hfew
          have c2 : decide ((q : Int) < (m1 : Int)) = false := decide_eq_false (by omega)
          have HTOT := Lib.hid (HSET.out (by rw [hpl, hL]; simp; omega))
          have HPB := Lib.hid (show ∀ p, p < q → p ≤ m1 ∨ hasList F = true from fun _ _ => Or.inr hL)
          clear hL hpl hfew h76
          go_wp2_with fail
          go_loopw [10] (fun v wr => ∃ (i p : Nat) (o : POp) (A : Option Addr) (c : Nat), v = .int .i64 (i : Int) ∧ i ≤ n ∧ Hid (i = p + 1) ∧ Hid (o.list.length ≤ p) ∧ Hid (SO w o A c wr) ∧ Hid (stepOf (x :: r) = setAll o ((plain F).drop p) (r.drop p))) (fun v _ => n - (intOf v).toNat)
          case atStart => exact ⟨1, 0, ⟨kk, 0, 0, [], [], []⟩, none, 0, rfl, hn1, Lib.hid rfl, Lib.hid (Nat.le_refl 0), HSO, HTOT⟩
          case round =>
          clear HSO HTOT
          obtain ⟨i, p, o, A, c, rfl, hi, hip, hol, hSO, hT⟩ := hrel
          by_cases hlt : i < n
          · have hpq : p < q := by have := hip.out; have := HNR2.out; omega
            obtain ⟨y, hy⟩ : ∃ y, r[p]? = some y := ⟨r[p]'(by rw [← HQ.out]; exact hpq), List.getElem?_eq_getElem _⟩
            have HS2D := Lib.hid (show wr.drew.cell? ⟨g, i, none⟩ = some (.string ⟨y.toArray⟩) by
              rw [hSO.out.below.drew.cell (p := ⟨g, i, none⟩) hsz0]; exact HC.out i y (by rw [hip.out]; exact hy))
            obtain ⟨z, hz⟩ : ∃ z, z = min p m1 := ⟨_, rfl⟩
            obtain ⟨zz, hzz⟩ : ∃ zz, zz = z + 1 := ⟨_, rfl⟩
            have hzm : z < m := by omega
            obtain ⟨fb, hfb⟩ : ∃ fb, F[z]? = some fb := ⟨F[z]'(by rw [← HM.out]; exact hzm), List.getElem?_eq_getElem _⟩
            have hmin : min (i : Int) (m : Int) = (zz : Int) := by have := hip.out; have := HM1.out; omega
            have hzz1 : (zz : Int) - 1 = (z : Int) := by omega
            have hbz : ∀ h, (⟨F.toArray⟩ : ByteArray)[z]'h = fb := fun h => list_at _ z fb hfb h
            have HPF := Lib.hid (show (plain F).getD p 76 = fb from plain_at (by rw [← HM.out, HM1.out]) (by rw [← hz]; exact hfb) (HPB.out p hpq))
            have HSTEP := Lib.hid (setAll_at (o := o) (P := plain F) hy)
            have HYL := Lib.hid (HR.out y (List.mem_of_getElem? hy))
            have wq : IntKind.i64.wrap (i : Int) = (i : Int) := by rw [IntKind.wrap_i64]; omega
            have bi0 : (0 : Int) ≤ (i : Int) := by omega
            have bi1 : (i : Int) < (n : Int) := by omega
            have HPQ := Lib.hid hpq
            obtain ⟨b0, b1, b2, b3, b4, b5⟩ := op_cells hSO.out.drew.b4
            clear hy hz hzz hfb hpq
            go_wp2_with fail
            have hs2d := HS2D.out
            go_region_with (first | (go_at_call 62; refine (refFilled_any o fb y A c _ hSO.out.below.drew.size hSO.out.drew.own HYL.out (by have := hol.out; have := HPQ.out; omega)).mono ?_; rintro e w2 ⟨o2, A2, c2, nn, rfl, hres, hFS⟩; obtain ⟨hb2, hb4, hbw⟩ := hSO.out.fill hFS; have hFB := hFS.below; obtain ⟨d0, d1, d2, d3, d4, d5⟩ := op_cells hb4; obtain ⟨g0, g1, g2, g3, g4, g5⟩ := op_frozen hb4))
            all_goals
              have HSO2 := Lib.hid (hSO.out.filled hFS)
              obtain ⟨z0, z1, z2, z3, z4, z5⟩ := op_cells hb2
              obtain ⟨y0, y1, y2, y3, y4, y5⟩ := op_frozen hb2
              have hlt2 : w.heap.size + 1 < w2.heap.size := blk_lt hb4
              rcases hres with ⟨hok, rfl⟩ | ⟨herr, hne⟩
              · have HT2 := Lib.hid (show stepOf (x :: r) = setAll o2 ((plain F).drop (p + 1)) (r.drop (p + 1)) by rw [hT.out, HSTEP.out, HPF.out, hok])
                have HOL2 := Lib.hid (show o2.list.length ≤ p + 1 by have := setF_grow hok; have := hol.out; omega)
                have HIP2 := Lib.hid (show i + 1 = p + 1 + 1 by rw [hip.out])
                clear hok hFS hFB hb2 hb4 hbw hSO hT HSTEP HS2D hol hip b0 b1 b2 b3 b4 b5
                go_wp2_with fail
                go_roundw
                case rel => exact ⟨i + 1, p + 1, o2, A2, c2, by go_num, hlt, HIP2, HOL2, HSO2, HT2⟩
                case measure => simp [intOf]; omega
              · have HRES := Lib.hid (show stepOf (x :: r) = .error nn by rw [hT.out, HSTEP.out, HPF.out, herr])
                have e1 : (nn != 0) = true := by rw [bne_iff_ne]; exact hne
                have HNE := Lib.hid hne
                have hfin := Lib.hid (fun u0 u1 u2 u3 u4 u5 : Value => six_own HSO2.out.b2 HSO2.out.own u0 u1 u2 u3 u4 u5)
                have HBW := Lib.hid HSO2.out.below
                clear herr hne hFS hFB hb2 hb4 hbw hSO hT HSTEP HS2D hol hip b0 b1 b2 b3 b4 b5 HSO2
                go_wp2_with fail
                exact bodyPost_ret (v := .tuple #[.agg #[.int .i64 o2.kind, .int .i64 o2.a, .int .i64 o2.b, .string ⟨o2.name.toArray⟩, .string ⟨o2.text.toArray⟩, .slice A2 o2.list.length c2], .int .i64 nn]) (by simp [results, Tryz.results28, go_sem, z0, z1, z2, z3, z4, z5]) rfl ⟨o2, A2, c2, nn, rfl, Or.inr ⟨HRES.out, HNE.out⟩, hfin.out _ _ _ _ _ _, six_below HBW.out (Nat.le_refl _) _ _ _ _ _ _⟩
          · obtain rfl : i = n := by omega
            have HRES := Lib.hid (show stepOf (x :: r) = .ok o by rw [hT.out]; exact setAll_end (by have := hip.out; have := HNR2.out; have := HQ.out; omega))
            have HSO := Lib.hid hSO.out
            clear hlt hSO hT hol hip
            obtain ⟨b0, b1, b2, b3, b4, b5⟩ := op_cells HSO.out.b4
            obtain ⟨z0, z1, z2, z3, z4, z5⟩ := op_cells HSO.out.b2
            obtain ⟨y0, y1, y2, y3, y4, y5⟩ := op_frozen HSO.out.b2
            have hfin := Lib.hid (fun u0 u1 u2 u3 u4 u5 : Value => six_own HSO.out.b2 HSO.out.own u0 u1 u2 u3 u4 u5)
            go_wp2_with fail
            exact bodyPost_ret (v := .tuple #[.agg #[.int .i64 o.kind, .int .i64 o.a, .int .i64 o.b, .string ⟨o.name.toArray⟩, .string ⟨o.text.toArray⟩, .slice A o.list.length c], .int .i64 0]) (by simp [results, Tryz.results28, go_sem, z0, z1, z2, z3, z4, z5]) rfl ⟨o, A, c, 0, rfl, Or.inl ⟨HRES.out, rfl⟩, hfin.out _ _ _ _ _ _, six_below HSO.out.below (Nat.le_refl _) _ _ _ _ _ _⟩
      · have y1 : ((f1.toNat : Int) == 76) = false := toNat_ne h76
        have hL : hasList F = false := by rw [HL.out]; simpa using h76
        have hpl : (plain F).length = m := by rw [plain_no hL, ← HM.out]
        by_cases hfew : q = m
        · have c1 : ((q : Int) != (m : Int)) = false := by rw [hfew]; simp
          have HTOT := Lib.hid (HSET.out (by rw [hpl, hL, hfew]; simp))
          have HPB := Lib.hid (show ∀ p, p < q → p ≤ m1 ∨ hasList F = true from fun p hp => Or.inl (by have := HM1.out; omega))
          clear hL hpl h76
          go_wp2_with fail
          go_loopw [10] (fun v wr => ∃ (i p : Nat) (o : POp) (A : Option Addr) (c : Nat), v = .int .i64 (i : Int) ∧ i ≤ n ∧ Hid (i = p + 1) ∧ Hid (o.list.length ≤ p) ∧ Hid (SO w o A c wr) ∧ Hid (stepOf (x :: r) = setAll o ((plain F).drop p) (r.drop p))) (fun v _ => n - (intOf v).toNat)
          case atStart => exact ⟨1, 0, ⟨kk, 0, 0, [], [], []⟩, none, 0, rfl, hn1, Lib.hid rfl, Lib.hid (Nat.le_refl 0), HSO, HTOT⟩
          case round =>
          clear HSO HTOT
          obtain ⟨i, p, o, A, c, rfl, hi, hip, hol, hSO, hT⟩ := hrel
          by_cases hlt : i < n
          · have hpq : p < q := by have := hip.out; have := HNR2.out; omega
            obtain ⟨y, hy⟩ : ∃ y, r[p]? = some y := ⟨r[p]'(by rw [← HQ.out]; exact hpq), List.getElem?_eq_getElem _⟩
            have HS2D := Lib.hid (show wr.drew.cell? ⟨g, i, none⟩ = some (.string ⟨y.toArray⟩) by
              rw [hSO.out.below.drew.cell (p := ⟨g, i, none⟩) hsz0]; exact HC.out i y (by rw [hip.out]; exact hy))
            obtain ⟨z, hz⟩ : ∃ z, z = min p m1 := ⟨_, rfl⟩
            obtain ⟨zz, hzz⟩ : ∃ zz, zz = z + 1 := ⟨_, rfl⟩
            have hzm : z < m := by omega
            obtain ⟨fb, hfb⟩ : ∃ fb, F[z]? = some fb := ⟨F[z]'(by rw [← HM.out]; exact hzm), List.getElem?_eq_getElem _⟩
            have hmin : min (i : Int) (m : Int) = (zz : Int) := by have := hip.out; have := HM1.out; omega
            have hzz1 : (zz : Int) - 1 = (z : Int) := by omega
            have hbz : ∀ h, (⟨F.toArray⟩ : ByteArray)[z]'h = fb := fun h => list_at _ z fb hfb h
            have HPF := Lib.hid (show (plain F).getD p 76 = fb from plain_at (by rw [← HM.out, HM1.out]) (by rw [← hz]; exact hfb) (HPB.out p hpq))
            have HSTEP := Lib.hid (setAll_at (o := o) (P := plain F) hy)
            have HYL := Lib.hid (HR.out y (List.mem_of_getElem? hy))
            have wq : IntKind.i64.wrap (i : Int) = (i : Int) := by rw [IntKind.wrap_i64]; omega
            have bi0 : (0 : Int) ≤ (i : Int) := by omega
            have bi1 : (i : Int) < (n : Int) := by omega
            have HPQ := Lib.hid hpq
            obtain ⟨b0, b1, b2, b3, b4, b5⟩ := op_cells hSO.out.drew.b4
            clear hy hz hzz hfb hpq
            go_wp2_with fail
            have hs2d := HS2D.out
            go_region_with (first | (go_at_call 62; refine (refFilled_any o fb y A c _ hSO.out.below.drew.size hSO.out.drew.own HYL.out (by have := hol.out; have := HPQ.out; omega)).mono ?_; rintro e w2 ⟨o2, A2, c2, nn, rfl, hres, hFS⟩; obtain ⟨hb2, hb4, hbw⟩ := hSO.out.fill hFS; have hFB := hFS.below; obtain ⟨d0, d1, d2, d3, d4, d5⟩ := op_cells hb4; obtain ⟨g0, g1, g2, g3, g4, g5⟩ := op_frozen hb4))
            all_goals
              have HSO2 := Lib.hid (hSO.out.filled hFS)
              obtain ⟨z0, z1, z2, z3, z4, z5⟩ := op_cells hb2
              obtain ⟨y0, y1, y2, y3, y4, y5⟩ := op_frozen hb2
              have hlt2 : w.heap.size + 1 < w2.heap.size := blk_lt hb4
              rcases hres with ⟨hok, rfl⟩ | ⟨herr, hne⟩
              · have HT2 := Lib.hid (show stepOf (x :: r) = setAll o2 ((plain F).drop (p + 1)) (r.drop (p + 1)) by rw [hT.out, HSTEP.out, HPF.out, hok])
                have HOL2 := Lib.hid (show o2.list.length ≤ p + 1 by have := setF_grow hok; have := hol.out; omega)
                have HIP2 := Lib.hid (show i + 1 = p + 1 + 1 by rw [hip.out])
                clear hok hFS hFB hb2 hb4 hbw hSO hT HSTEP HS2D hol hip b0 b1 b2 b3 b4 b5
                go_wp2_with fail
                go_roundw
                case rel => exact ⟨i + 1, p + 1, o2, A2, c2, by go_num, hlt, HIP2, HOL2, HSO2, HT2⟩
                case measure => simp [intOf]; omega
              · have HRES := Lib.hid (show stepOf (x :: r) = .error nn by rw [hT.out, HSTEP.out, HPF.out, herr])
                have e1 : (nn != 0) = true := by rw [bne_iff_ne]; exact hne
                have HNE := Lib.hid hne
                have hfin := Lib.hid (fun u0 u1 u2 u3 u4 u5 : Value => six_own HSO2.out.b2 HSO2.out.own u0 u1 u2 u3 u4 u5)
                have HBW := Lib.hid HSO2.out.below
                clear herr hne hFS hFB hb2 hb4 hbw hSO hT HSTEP HS2D hol hip b0 b1 b2 b3 b4 b5 HSO2
                go_wp2_with fail
                exact bodyPost_ret (v := .tuple #[.agg #[.int .i64 o2.kind, .int .i64 o2.a, .int .i64 o2.b, .string ⟨o2.name.toArray⟩, .string ⟨o2.text.toArray⟩, .slice A2 o2.list.length c2], .int .i64 nn]) (by simp [results, Tryz.results28, go_sem, z0, z1, z2, z3, z4, z5]) rfl ⟨o2, A2, c2, nn, rfl, Or.inr ⟨HRES.out, HNE.out⟩, hfin.out _ _ _ _ _ _, six_below HBW.out (Nat.le_refl _) _ _ _ _ _ _⟩
          · obtain rfl : i = n := by omega
            have HRES := Lib.hid (show stepOf (x :: r) = .ok o by rw [hT.out]; exact setAll_end (by have := hip.out; have := HNR2.out; have := HQ.out; omega))
            have HSO := Lib.hid hSO.out
            clear hlt hSO hT hol hip
            obtain ⟨b0, b1, b2, b3, b4, b5⟩ := op_cells HSO.out.b4
            obtain ⟨z0, z1, z2, z3, z4, z5⟩ := op_cells HSO.out.b2
            obtain ⟨y0, y1, y2, y3, y4, y5⟩ := op_frozen HSO.out.b2
            have hfin := Lib.hid (fun u0 u1 u2 u3 u4 u5 : Value => six_own HSO.out.b2 HSO.out.own u0 u1 u2 u3 u4 u5)
            go_wp2_with fail
            exact bodyPost_ret (v := .tuple #[.agg #[.int .i64 o.kind, .int .i64 o.a, .int .i64 o.b, .string ⟨o.name.toArray⟩, .string ⟨o.text.toArray⟩, .slice A o.list.length c], .int .i64 0]) (by simp [results, Tryz.results28, go_sem, z0, z1, z2, z3, z4, z5]) rfl ⟨o, A, c, 0, rfl, Or.inl ⟨HRES.out, rfl⟩, hfin.out _ _ _ _ _ _, six_below HSO.out.below (Nat.le_refl _) _ _ _ _ _ _⟩
        · have c1 : ((q : Int) != (m : Int)) = true := by rw [bne_iff_ne]; omega
          have HRES := Lib.hid (HFEW.out (by
            rw [hpl, hL]
            rcases Nat.lt_or_gt_of_ne hfew with h | h
            · exact Or.inl h
            · exact Or.inr ⟨by decide, h⟩))
          clear hL hpl hfew
          obtain ⟨b0, b1, b2, b3, b4, b5⟩ := op_cells HSO.out.b4
          obtain ⟨z0, z1, z2, z3, z4, z5⟩ := op_cells HSO.out.b2
          obtain ⟨y0, y1, y2, y3, y4, y5⟩ := op_frozen HSO.out.b2
          have hfin := Lib.hid (fun u0 u1 u2 u3 u4 u5 : Value => six_own HSO.out.b2 HSO.out.own u0 u1 u2 u3 u4 u5)
          go_wp2_with fail
          exact bodyPost_ret (v := .tuple #[.agg #[.int .i64 (⟨kk, 0, 0, [], [], []⟩ : POp).kind, .int .i64 (⟨kk, 0, 0, [], [], []⟩ : POp).a, .int .i64 (⟨kk, 0, 0, [], [], []⟩ : POp).b, .string ⟨(⟨kk, 0, 0, [], [], []⟩ : POp).name.toArray⟩, .string ⟨(⟨kk, 0, 0, [], [], []⟩ : POp).text.toArray⟩, .slice none (⟨kk, 0, 0, [], [], []⟩ : POp).list.length 0], .int .i64 263]) (by simp [results, Tryz.results28, go_sem, z0, z1, z2, z3, z4, z5]) rfl ⟨(⟨kk, 0, 0, [], [], []⟩ : POp), none, 0, 263, rfl, Or.inr ⟨HRES.out, by decide⟩, hfin.out _ _ _ _ _ _, six_below HSO.out.below (Nat.le_refl _) _ _ _ _ _ _⟩
end Go.Proofs.YtbpackopicngmaaGreatDoor
