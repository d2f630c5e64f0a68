/- ScriptUnescapes' walk. -/
import Derived.Test.YtbpackopicngmaaDoorLwUn
namespace Go.Proofs.YtbpackopicngmaaDoor
open Go.RowKit Go.Proofs.Sc Go.Proofs.YtbpackopicngmaaDoorW.PrintWords

set_option maxHeartbeats 4000000 in
theorem ScriptUnescapes_any (b : ByteArray) (w : World) (_ : b.size ≤ maxLen) {B : Nat} (hE : Env B w) : Calls Tryd.prog 4 #[.string b] w fun e w' => e = .returned (.bool true) ∧ Below w.heap.size w w' := by
  have hEW : Env w.heap.size w := hE.up hE.le (Nat.le_refl _)
  clear hE
  by_cases hlong : 2097152 < b.size
  · have k1 : decide (2097152 < b.size) = true := decide_eq_true hlong
    have k2 : decide ((2097152 : Int) < (b.size : Int)) = true := decide_eq_true (by omega)
    clear hlong
    go_enter Tryd.func4, Tryd.ntmps4
    go_wp2_with fail
    refine (lawFirst_any w hEW).mono ?_
    rintro e w1 ⟨rfl, hB1⟩
    go_wp2_with fail
    go_ret
    exact ⟨rfl, hB1⟩
  · have k1 : decide (2097152 < b.size) = false := decide_eq_false hlong
    have k2 : decide ((2097152 : Int) < (b.size : Int)) = false := decide_eq_false (by omega)
    have hbs : b.size ≤ 2097152 := by omega
    obtain ⟨t, c, hu⟩ : ∃ (t : ByteArray) (c : Int), unRes b.data.toList = .tuple #[.string t, .int .i64 c] := by
      unfold unRes; cases unescape b.data.toList <;> exact ⟨_, _, rfl⟩
    have HU := Lib.hid hu
    clear hlong hu
    go_enter Tryd.func4, Tryd.ntmps4
    go_wp2_with fail
    refine (lawFirst_any w hEW).mono ?_
    rintro e w1 ⟨rfl, hB1⟩
    go_wp2_with fail
    refine (Unescape_any b _ (by omega)).mono ?_
    rw [HU.out]
    rintro e w2 ⟨rfl, hB2⟩
    have hW2 := hB1.trans (hB2.mono hB1.size)
    clear hB1 hB2
    go_wp2_with fail
    refine (refUnescape_any b _ (by omega)).mono ?_
    rw [HU.out]
    rintro e w3 ⟨rfl, hB3⟩
    have hW3 := hW2.trans (hB3.mono hW2.size)
    clear hB3 hW2
    go_wp2_with fail
    refine (num_any _ _).mono ?_
    rintro e w5 ⟨rfl, rfl⟩
    go_wp2_with fail
    go_ret
    exact ⟨rfl, hW3⟩
end Go.Proofs.YtbpackopicngmaaDoor
