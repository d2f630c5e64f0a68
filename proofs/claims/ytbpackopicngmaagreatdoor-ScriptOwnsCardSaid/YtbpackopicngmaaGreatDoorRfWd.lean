/- The document's Word and fields. -/
import Derived.Test.YtbpackopicngmaaGreatDoorSwN
namespace Go.Proofs.YtbpackopicngmaaGreatDoor
open Go.RowKit Go.Proofs.Sc Go.Proofs.YtbpackopicngmaaGreatDoorW.PrintWords

set_option maxHeartbeats 4000000 in
set_option maxRecDepth 100000 in
theorem refWord_any (k : Int) (w : World) : Calls Tryz.prog 60 #[.int .i64 k] w fun e w' => e = .returned (.string ⟨(wordOf k).toArray⟩) ∧ Below w.heap.size w w' := by
  by_cases hk : Sc.kindOk k
  · have HB := Lib.hid (show ∀ o, Below w.heap.size w (w.alloc o) from fun o => (Below.refl _ _).alloc (Nat.le_refl _) _)
    have h : k = 1 ∨ k = 2 ∨ k = 3 ∨ k = 4 ∨ k = 5 ∨ k = 6 ∨ k = 7 ∨ k = 8 ∨ k = 9 ∨ k = 10 ∨ k = 11 ∨ k = 12 ∨ k = 13 ∨ k = 14 ∨ k = 15 ∨ k = 16 ∨ k = 17 ∨ k = 18 ∨ k = 19 := by unfold Sc.kindOk at hk; omega
    clear hk
    rcases h with rfl | rfl | rfl | rfl | rfl | rfl | rfl | rfl | rfl | rfl | rfl | rfl | rfl | rfl | rfl | rfl | rfl | rfl | rfl
    all_goals
      go_enter Tryz.func60, Tryz.ntmps60
      go_wp2
      go_ret
      exact ⟨by kernel_rfl, HB.out _⟩
  · have hw := wordOf_none hk
    by_cases h1 : k < 1
    · have k1 : decide (k < 1) = true := decide_eq_true h1
      rw [hw]
      clear hk hw h1
      go_enter Tryz.func60, Tryz.ntmps60
      go_wp2
      go_ret
      exact ⟨rfl, (Below.refl _ _).alloc (Nat.le_refl _) _⟩
    · have k1 : decide (k < 1) = false := decide_eq_false h1
      have k2 : decide (19 < k) = true := decide_eq_true (by unfold Sc.kindOk at hk; omega)
      rw [hw]
      clear hk hw h1
      go_enter Tryz.func60, Tryz.ntmps60
      go_wp2
      go_ret
      exact ⟨rfl, (Below.refl _ _).alloc (Nat.le_refl _) _⟩

set_option maxHeartbeats 4000000 in
set_option maxRecDepth 100000 in
theorem refFields_any (k : Int) (hk : Sc.kindOk k) (w : World) : Calls Tryz.prog 61 #[.int .i64 k] w fun e w' => e = .returned (.string ⟨(fieldsOf k).toArray⟩) ∧ Below w.heap.size w w' := by
  have HB := Lib.hid (show ∀ o, Below w.heap.size w (w.alloc o) from fun o => (Below.refl _ _).alloc (Nat.le_refl _) _)
  have h : k = 1 ∨ k = 2 ∨ k = 3 ∨ k = 4 ∨ k = 5 ∨ k = 6 ∨ k = 7 ∨ k = 8 ∨ k = 9 ∨ k = 10 ∨ k = 11 ∨ k = 12 ∨ k = 13 ∨ k = 14 ∨ k = 15 ∨ k = 16 ∨ k = 17 ∨ k = 18 ∨ k = 19 := by unfold Sc.kindOk at hk; omega
  clear hk
  rcases h with rfl | rfl | rfl | rfl | rfl | rfl | rfl | rfl | rfl | rfl | rfl | rfl | rfl | rfl | rfl | rfl | rfl | rfl | rfl
  all_goals
    go_enter Tryz.func61, Tryz.ntmps61
    go_wp2
    go_ret
    exact ⟨by kernel_rfl, HB.out _⟩

end Go.Proofs.YtbpackopicngmaaGreatDoor
