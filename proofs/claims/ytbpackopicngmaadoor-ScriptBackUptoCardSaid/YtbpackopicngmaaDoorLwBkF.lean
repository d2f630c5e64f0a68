/- The laws' fits. -/
import Derived.Test.YtbpackopicngmaaDoorSwM
import Derived.Test.YtbpackopicngmaaDoorPrB
namespace Go.Proofs.YtbpackopicngmaaDoor
open Go.RowKit Go.Proofs.Sc Go.Proofs.YtbpackopicngmaaDoorW.PrintWords

def toB (o : POp) : PrB.S54 := ⟨o.kind, o.a, o.b, ⟨o.name.toArray⟩, ⟨o.text.toArray⟩, o.list⟩

theorem rdB (l : List POp) (i : Nat) (x : POp) (h : l[i]? = some x) : PrB.rd_T54 (l.map toB) (i : Int) = toB x := by
  simp [PrB.rd_T54, List.getElem?_map, h]

def Small (o : POp) : Prop := o.name.length ≤ 2097152 ∧ o.text.length ≤ 2097152 ∧ o.list.length ≤ 2097152

theorem fits_l0 (l : List POp) (cap : Int) (hs : l.length ≤ 9223372036854775807) : ∀ (d k i : Nat) (n : Int), i + d = l.length → d < k → ∃ r, PrB.pithlaw26_fits.l0 k n (i : Int) cap (l.map toB) = some r ∧ (r = true → ∀ o ∈ l.drop i, Small o)
  | d, 0, i, n, _, hk => absurd hk (by omega)
  | 0, k + 1, i, n, hi, _ => by
    refine ⟨decide (n ≤ 8388608), ?_, fun _ o ho => ?_⟩
    · simp only [PrB.pithlaw26_fits.l0, List.length_map]; rw [if_neg (by omega)]
    · rw [List.drop_of_length_le (by omega)] at ho; cases ho
  | d + 1, k + 1, i, n, hi, hk => by
    obtain ⟨x, hx⟩ : ∃ x, l[i]? = some x := ⟨l[i]'(by omega), List.getElem?_eq_getElem _⟩
    simp only [PrB.pithlaw26_fits.l0, List.length_map]
    rw [if_pos (by omega), if_pos (by omega), rdB l i x hx]
    by_cases h1 : x.name.length ≤ 2097152
    · by_cases h2 : x.text.length ≤ 2097152
      · by_cases h3 : x.list.length ≤ 2097152
        · rw [if_neg (by simp only [toB, mk_size]; omega), if_neg (by simp only [toB, mk_size]; omega), if_neg (by simp only [toB]; omega), wrap_nat i (by omega)]
          obtain ⟨r, e, hr⟩ := fits_l0 l cap hs d k (i + 1) _ (by omega) (by omega)
          refine ⟨r, e, fun ht o ho => ?_⟩
          rw [Lib.drop_at hx] at ho
          rcases List.mem_cons.1 ho with rfl | ho
          · exact ⟨h1, h2, h3⟩
          · exact hr ht o ho
        · exact ⟨false, by rw [if_neg (by simp only [toB, mk_size]; omega), if_neg (by simp only [toB, mk_size]; omega), if_pos (by simp only [toB]; omega)], by simp⟩
      · exact ⟨false, by rw [if_neg (by simp only [toB, mk_size]; omega), if_pos (by simp only [toB, mk_size]; omega)], by simp⟩
    · exact ⟨false, by rw [if_pos (by simp only [toB, mk_size]; omega)], by simp⟩

theorem kOp_CB {w : World} {A : Option Addr} {n : Nat} {xs : List POp} (h : kOp.C w A n xs) : PrB.k54.C w A n (xs.map toB) := by
  obtain ⟨h1, h2, h3⟩ := h
  refine ⟨by simp [h1], h2, fun hn => ?_⟩
  obtain ⟨ad, e, hc⟩ := h3 hn
  refine ⟨ad, e, fun j p hp => ?_⟩
  rw [List.getElem?_map] at hp
  obtain ⟨x, hx, rfl⟩ := Option.map_eq_some_iff.1 hp
  exact hc j x hx

theorem fits_any (cap : Int) (ops : List POp) (A : Option Addr) (c : Nat) (w : World) (hC : kOp.C w A ops.length ops) (hc : ops.length ≤ c) :
    Calls Tryd.prog 18 #[.agg #[.int .i64 cap, .slice A ops.length c]] w fun e w' => (∃ r : Bool, e = .returned (.bool r) ∧ (r = true → ops.length ≤ 3000 ∧ ∀ o ∈ ops, Small o)) ∧ Below w.heap.size w w' := by
  obtain ⟨r, h1, h2⟩ : ∃ r, PrB.pithlaw26_fits.f (ops.length + 1) cap (ops.map toB) = some r ∧ (r = true → ops.length ≤ 3000 ∧ ∀ o ∈ ops, Small o) := by
    unfold PrB.pithlaw26_fits.f
    by_cases h : ops.length ≤ 3000
    · obtain ⟨r, e, hr⟩ := fits_l0 ops cap hC.2.1 ops.length (ops.length + 1) 0 0 (by omega) (by omega)
      exact ⟨r, by rw [if_neg (by rw [List.length_map]; omega)]; exact e, fun ht => ⟨h, hr ht⟩⟩
    · exact ⟨false, by rw [if_pos (by rw [List.length_map]; omega)], by simp⟩
  have := PrB.pithlaw26_fits.calls (ops.length + 1) cap A c (ops.map toB) r w (by rw [List.length_map]; exact kOp_CB hC) (by rw [List.length_map]; exact hc) h1
  rw [List.length_map] at this
  exact this.mono fun e w' ⟨h4, h5⟩ => ⟨⟨r, h4, h2⟩, h5⟩
end Go.Proofs.YtbpackopicngmaaDoor
