/- ScriptWords' walk: every Word is the document's, for every kind. -/
import Derived.Test.YtbpackopicngmaaDoorSwN
namespace Go.Proofs.YtbpackopicngmaaDoor
open Go.RowKit Go.Proofs.Sc Go.Proofs.YtbpackopicngmaaDoorW.PrintWords

set_option maxHeartbeats 4000000 in
set_option maxRecDepth 100000 in
theorem refWord_any (k : Int) (w : World) : Calls Tryd.prog 17 #[.int .i64 k] w fun e w' => e = .returned (.string ⟨(wordOf k).toArray⟩) ∧ Below w.heap.size w w' := by
  by_cases hk : Sc.kindOk k
  · have HB := Lib.hid (show ∀ o, Below w.heap.size w (w.alloc o) from fun o => (Below.refl _ _).alloc (Nat.le_refl _) _)
    have h : k = 1 ∨ k = 2 ∨ k = 3 ∨ k = 4 ∨ k = 5 ∨ k = 6 ∨ k = 7 ∨ k = 8 ∨ k = 9 ∨ k = 10 ∨ k = 11 ∨ k = 12 ∨ k = 13 ∨ k = 14 ∨ k = 15 ∨ k = 16 ∨ k = 17 ∨ k = 18 ∨ k = 19 := by unfold Sc.kindOk at hk; omega
    clear hk
    rcases h with rfl | rfl | rfl | rfl | rfl | rfl | rfl | rfl | rfl | rfl | rfl | rfl | rfl | rfl | rfl | rfl | rfl | rfl | rfl
    all_goals
      go_enter Tryd.func17, Tryd.ntmps17
      go_wp2
      go_ret
      exact ⟨by kernel_rfl, HB.out _⟩
  · have hw := wordOf_none hk
    by_cases h1 : k < 1
    · have k1 : decide (k < 1) = true := decide_eq_true h1
      rw [hw]
      clear hk hw h1
      go_enter Tryd.func17, Tryd.ntmps17
      go_wp2
      go_ret
      exact ⟨rfl, (Below.refl _ _).alloc (Nat.le_refl _) _⟩
    · have k1 : decide (k < 1) = false := decide_eq_false h1
      have k2 : decide (19 < k) = true := decide_eq_true (by unfold Sc.kindOk at hk; omega)
      rw [hw]
      clear hk hw h1
      go_enter Tryd.func17, Tryd.ntmps17
      go_wp2
      go_ret
      exact ⟨rfl, (Below.refl _ _).alloc (Nat.le_refl _) _⟩

set_option maxHeartbeats 4000000 in
theorem ScriptWords_any (k : Int) (h0 : -9223372036854775808 ≤ k) (h1 : k ≤ 9223372036854775807) (w : World) {B : Nat} (hE : Env B w) : Calls Tryd.prog 5 #[.int .i64 k] w fun e w' => e = .returned (.bool true) ∧ Below w.heap.size w w' := by
  have hEW : Env w.heap.size w := hE.up hE.le (Nat.le_refl _)
  clear hE
  go_enter Tryd.func5, Tryd.ntmps5
  go_wp2_with fail
  refine (lawFirst_any w hEW).mono ?_
  rintro e w1 ⟨rfl, hB1⟩
  go_wp2_with fail
  refine (Word_any k _ (hEW.belowB hB1) h0 h1).mono ?_
  rintro e w2 ⟨rfl, rfl⟩
  go_wp2_with fail
  refine (refWord_any k _).mono ?_
  rintro e w2 ⟨rfl, hB2⟩
  have hB := hB1.trans (hB2.mono hB1.size)
  clear hB1 hB2
  go_wp2_with fail
  go_loopw [4, 5] (fun u v wr => ∃ j : Nat, u = .bool true ∧ v = .int .i64 ((j : Int) - 1) ∧ j ≤ 23 ∧ Below w.heap.size w wr) (fun _ v _ => (22 - intOf v).toNat)
  case atStart => exact ⟨0, rfl, rfl, by omega, hB⟩
  case round =>
  clear hB
  obtain ⟨j, rfl, rfl, hj, hB⟩ := hrel
  by_cases hlt : j < 23
  · have hk0 : -9223372036854775808 ≤ (j : Int) - 1 := by omega
    have hk1 : (j : Int) - 1 ≤ 9223372036854775807 := by omega
    have k1 : decide ((j : Int) - 1 < 22) = true := decide_eq_true (by omega)
    have HJ := Lib.hid hlt
    go_wp2_with fail
    refine (Word_any ((j : Int) - 1) _ (hEW.belowB hB) hk0 hk1).mono ?_
    rintro e w3 ⟨rfl, rfl⟩
    go_wp2_with fail
    refine (refWord_any ((j : Int) - 1) _).mono ?_
    rintro e w3 ⟨rfl, hB3⟩
    go_wp2_with fail
    go_roundw
    case rel => exact ⟨j + 1, rfl, by go_num, hlt, hB.trans (hB3.mono hB.size)⟩
    case measure => simp [intOf]; omega
  · have k1 : decide ((j : Int) - 1 < 22) = false := decide_eq_false (by omega)
    go_wp2_with fail
    go_ret
    exact ⟨rfl, hB⟩
end Go.Proofs.YtbpackopicngmaaDoor
