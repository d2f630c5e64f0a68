/- ScriptNoise: all sizes; the argument's noises out of its reading. -/
import Derived.Test.YtbpackopicngmaaDoorLwNo
import Derived.Deep.SlicePairs
import Derived.OpenShut
namespace Go.Proofs.YtbpackopicngmaaDoor
open Go.RowKit Go.Proofs.Sc Go.Proofs.YtbpackopicngmaaDoorW.PrintWords Go.ChangeShapes Go.WideShapes Go.Deep

theorem ScriptNoise_any (a : ByteArray) (A0 : Option Addr) (n c0 : Nat) (ns : List (Int × Int)) (w : World) (hC : kNs.C w A0 n ns) (_ : a.size ≤ maxLen) {B : Nat} (hE : Env B w) : Calls Tryd.prog 8 #[.string a, .slice A0 n c0] w fun e w' => e = .returned (.bool true) ∧ Below w.heap.size w w' := by
  by_cases h1 : 60000 < a.size
  · have hEW : Env w.heap.size w := hE.up hE.le (Nat.le_refl _)
    have k1 : decide (60000 < a.size) = true := decide_eq_true h1
    have m1 : decide ((60000 : Int) < (a.size : Int)) = true := decide_eq_true (by omega)
    clear h1 hE hC
    go_enter Tryd.func8, Tryd.ntmps8
    go_wp2_with fail
    refine (lawFirst_any w hEW).mono ?_
    rintro e w1 ⟨rfl, hB1⟩
    go_wp2_with fail
    go_ret
    exact ⟨rfl, hB1⟩
  · by_cases h2 : 60 < n
    · have hEW : Env w.heap.size w := hE.up hE.le (Nat.le_refl _)
      have k1 : decide (60000 < a.size) = false := decide_eq_false h1
      have m1 : decide ((60000 : Int) < (a.size : Int)) = false := decide_eq_false (by omega)
      have k2 : decide (60 < n) = true := decide_eq_true h2
      have m2 : decide ((60 : Int) < (n : Int)) = true := decide_eq_true (by omega)
      have hn63 : n ≤ 9223372036854775807 := hC.2.1
      clear h1 h2 hE hC
      go_enter Tryd.func8, Tryd.ntmps8
      go_wp2_with fail
      refine (lawFirst_any w hEW).mono ?_
      rintro e w1 ⟨rfl, hB1⟩
      go_wp2_with fail
      go_ret
      exact ⟨rfl, hB1⟩
    · exact noise_short a A0 n c0 ns w hC (by omega) (by omega) hE

theorem open_noises {H : Type} {enc : TypeId × Value → H} {w : World} {base : Nat} {sp : Nat → Bool} {held : Bool} {A : Option Addr} {n c : Nat} {d : DataW H} {ps : List MemPlace} (h : DataW.Trod enc Tryd.prog w base sp held 44 (.slice A n c) d ps) : ∃ ns, kNs.C w A n ns := by
  obtain ⟨fuel, hf⟩ := h
  rcases open_slice_pairs Tryd.underlying44 Tryd.underlying50 (by kernel_rfl) rfl rfl (by kernel_rfl) (by kernel_rfl) hf with ⟨hcs, _⟩ | ⟨a, len, cap, m, n', V0, V1, D0, D1, P0, P1, hcs, _, hl, hm, hmm, _, hcell⟩
  · simp [Value.cells] at hcs
    obtain ⟨rfl, rfl, rfl⟩ := hcs
    exact ⟨[], rfl, by omega, fun h => absurd h (by decide)⟩
  · simp [Value.cells] at hcs
    obtain ⟨rfl, rfl, rfl⟩ := hcs
    have hlm : n ≤ m := by rw [hmm]; split <;> omega
    have each : ∀ i, i < n → ∃ q : Int × Int, w.cell? (a.add (i * 2)) = some (.int .i64 q.1) ∧ w.cell? (a.add (i * 2 + 1)) = some (.int .i64 q.2) := by
      intro i hi
      obtain ⟨h0, h1, t0, t1⟩ := hcell i (by omega)
      obtain ⟨x0, e0, _⟩ := DataW.trod_int Tryd.underlying3 t0
      obtain ⟨x1, e1, _⟩ := DataW.trod_int Tryd.underlying3 t1
      rw [List.cons.inj e0 |>.1] at h0
      rw [List.cons.inj e1 |>.1] at h1
      exact ⟨(x0, x1), h0, h1⟩
    obtain ⟨q, hq⟩ := choose_lt each
    have hml : maxLen ≤ 9223372036854775807 := by decide
    have hn63 : n ≤ 9223372036854775807 := by omega
    refine ⟨(List.range n).map q, by simp, hn63, fun hn => ⟨a, rfl, fun j p hp => ?_⟩⟩
    rw [List.getElem?_map] at hp
    obtain ⟨i, hi, rfl⟩ := Option.map_eq_some_iff.1 hp
    have hin : j < n ∧ i = j := by
      have hj := (List.getElem?_eq_some_iff.1 hi).1
      rw [List.length_range] at hj
      rw [List.getElem?_range hj] at hi
      exact ⟨hj, (Option.some.inj hi).symm⟩
    obtain ⟨hjn, rfl⟩ := hin
    obtain ⟨h0, h1⟩ := hq i hjn
    refine ⟨[.int .i64 (q i).1, .int .i64 (q i).2], rfl, ⟨[.int .i64 (q i).1], [.int .i64 (q i).2], rfl, rfl, rfl⟩, fun k u hu => ?_⟩
    match k, hu with
    | 0, hu => obtain rfl := Option.some.inj hu; exact h0
    | 1, hu => obtain rfl := Option.some.inj hu; exact h1
end Go.Proofs.YtbpackopicngmaaDoor
