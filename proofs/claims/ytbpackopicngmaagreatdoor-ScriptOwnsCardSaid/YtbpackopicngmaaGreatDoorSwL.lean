/- Walks, part L: the laws' helpers: are two scripts the same; an Errno's number. -/
import Derived.Test.YtbpackopicngmaaGreatDoorSwK
import Derived.Test.YtbpackopicngmaaGreatDoorPrA
namespace Go.Proofs.YtbpackopicngmaaGreatDoor
open Go.RowKit Go.Proofs.Sc Go.Proofs.YtbpackopicngmaaGreatDoorW.PrintWords

theorem num_any (n : Int) (w : World) : Calls Tryz.prog 10 #[.int .i64 n] w fun e w' => e = .returned (.int .i64 n) ∧ w = w' := by
  go_enter Tryz.func10, Tryz.ntmps10
  go_wp2
  go_ret
  exact ⟨rfl, rfl⟩

theorem wrap_nat (i : Nat) (h : i < 9223372036854775807) : wrap64 ((i : Int) + 1) = ((i + 1 : Nat) : Int) := by
  unfold wrap64; omega

theorem ints_l0 (l0 l1 : List Int) (hl : l0.length = l1.length) (hs : l0.length ≤ 9223372036854775807) : ∀ (d k i : Nat), i + d = l0.length → d < k → l0.take i = l1.take i → ∃ r, Pr.pithref_SameInts.l0 k l0 l1 (i : Int) = some r ∧ (r = true ↔ l0 = l1)
  | d, 0, i, _, hk, _ => absurd hk (by omega)
  | 0, k + 1, i, hi, _, ht => by
    refine ⟨true, ?_, ?_⟩
    · simp only [Pr.pithref_SameInts.l0]; rw [if_neg (by omega)]
    · rw [List.take_of_length_le (by omega), List.take_of_length_le (by omega)] at ht
      simp [ht]
  | d + 1, k + 1, i, hi, hk, ht => by
    have hx : l0[i]? = some (l0[i]'(by omega)) := List.getElem?_eq_getElem _
    have hy : l1[i]? = some (l1[i]'(by omega)) := List.getElem?_eq_getElem _
    simp only [Pr.pithref_SameInts.l0]
    rw [if_pos (by omega), if_pos (by omega), if_pos (by omega)]
    rw [show rd l0 (i : Int) = l0[i]'(by omega) by simp [rd, hx], show rd l1 (i : Int) = l1[i]'(by omega) by simp [rd, hy]]
    by_cases he : l0[i]'(by omega) = l1[i]'(by omega)
    · rw [if_pos he, wrap_nat i (by omega)]
      exact ints_l0 l0 l1 hl hs d k (i + 1) (by omega) (by omega) (by rw [List.take_add_one, List.take_add_one, ht, hx, hy, he])
    · rw [if_neg he]
      exact ⟨false, rfl, by simp; intro e; subst e; exact he rfl⟩

theorem ints_f (l0 l1 : List Int) (hs : l0.length ≤ 9223372036854775807) (k : Nat) (hk : l0.length < k) : ∃ r, Pr.pithref_SameInts.f k l0 l1 = some r ∧ (r = true ↔ l0 = l1) := by
  unfold Pr.pithref_SameInts.f
  by_cases hl : l0.length = l1.length
  · rw [if_pos (by omega)]; exact ints_l0 l0 l1 hl hs l0.length k 0 (by omega) hk rfl
  · rw [if_neg (by omega)]; exact ⟨false, rfl, by simp; intro e; subst e; exact hl rfl⟩

/-- A step as the printed texts have it. -/
def toS (o : POp) : Pr.S44 := ⟨o.kind, o.a, o.b, ⟨o.name.toArray⟩, ⟨o.text.toArray⟩, o.list⟩

theorem op_f (o p : POp) (hs : o.list.length ≤ 9223372036854775807) (k : Nat) (hk : o.list.length < k) :
    ∃ r, Pr.pithref_SameOp.f k (toS o).f0 (toS o).f1 (toS o).f2 (toS o).f3 (toS o).f4 (toS o).f5 (toS p).f0 (toS p).f1 (toS p).f2 (toS p).f3 (toS p).f4 (toS p).f5 = some r ∧ (r = true ↔ o = p) := by
  obtain ⟨ri, h1, h2⟩ := ints_f o.list p.list hs k hk
  obtain ⟨k0, a, b, nm, tx, l⟩ := o
  obtain ⟨k1, a', b', nm', tx', l'⟩ := p
  simp only [toS] at h1 h2 ⊢
  unfold Pr.pithref_SameOp.f
  rw [h1]
  simp only [Option.bind_some, Lib.toList_data]
  by_cases e1 : l = l'
  · have : ri = true := h2.2 e1
    subst this
    rw [if_pos rfl]
    by_cases e2 : k0 = k1
    · rw [if_pos e2]
      by_cases e3 : a = a'
      · rw [if_pos e3]
        by_cases e4 : b = b'
        · rw [if_pos e4]
          by_cases e5 : nm = nm'
          · rw [if_pos e5]
            exact ⟨_, rfl, by simp [e1, e2, e3, e4, e5]⟩
          · rw [if_neg e5]; exact ⟨false, rfl, by simp [e5]⟩
        · rw [if_neg e4]; exact ⟨false, rfl, by simp [e4]⟩
      · rw [if_neg e3]; exact ⟨false, rfl, by simp [e3]⟩
    · rw [if_neg e2]; exact ⟨false, rfl, by simp [e2]⟩
  · have : ri = false := by cases ri with | false => rfl | true => exact absurd (h2.1 rfl) e1
    subst this
    rw [if_neg (by decide)]
    exact ⟨false, rfl, by simp [e1]⟩

theorem rdS (l : List POp) (i : Nat) (x : POp) (h : l[i]? = some x) : Pr.rd_T44 (l.map toS) (i : Int) = toS x := by
  simp [Pr.rd_T44, List.getElem?_map, h]

theorem ops_l0 (l0 l1 : List POp) (hl : l0.length = l1.length) (hs : l0.length ≤ 9223372036854775807) (M : Nat) (hM : ∀ o ∈ l0, o.list.length ≤ M) (hM2 : M ≤ 9223372036854775807) : ∀ (d k i : Nat), i + d = l0.length → d + M < k → l0.take i = l1.take i → ∃ r, Pr.pithref_SameOps.l0 k (l0.map toS) (l1.map toS) (i : Int) = some r ∧ (r = true ↔ l0 = l1)
  | d, 0, i, _, hk, _ => absurd hk (by omega)
  | 0, k + 1, i, hi, _, ht => by
    refine ⟨true, ?_, ?_⟩
    · simp only [Pr.pithref_SameOps.l0, List.length_map]; rw [if_neg (by omega)]
    · rw [List.take_of_length_le (by omega), List.take_of_length_le (by omega)] at ht
      simp [ht]
  | d + 1, k + 1, i, hi, hk, ht => by
    have hx : l0[i]? = some (l0[i]'(by omega)) := List.getElem?_eq_getElem _
    have hy : l1[i]? = some (l1[i]'(by omega)) := List.getElem?_eq_getElem _
    simp only [Pr.pithref_SameOps.l0, List.length_map]
    rw [if_pos (by omega), if_pos (by omega), if_pos (by omega), rdS l0 i _ hx, rdS l1 i _ hy]
    have hm := hM _ (List.mem_of_getElem? hx)
    obtain ⟨r, h1, h2⟩ := op_f (l0[i]'(by omega)) (l1[i]'(by omega)) (by omega) k (by omega)
    rw [h1]
    simp only [Option.bind_some]
    cases r with
    | true =>
      rw [if_pos rfl, wrap_nat i (by omega)]
      exact ops_l0 l0 l1 hl hs M hM hM2 d k (i + 1) (by omega) (by omega) (by rw [List.take_add_one, List.take_add_one, ht, hx, hy, h2.1 rfl])
    | false =>
      rw [if_neg (by decide)]
      refine ⟨false, rfl, ?_⟩
      simp
      intro e
      subst e
      exact absurd (h2.2 rfl) (by decide)

theorem exists_bound : ∀ l : List POp, (∀ o ∈ l, o.list.length ≤ 9223372036854775807) → ∃ M, (∀ o ∈ l, o.list.length ≤ M) ∧ M ≤ 9223372036854775807
  | [], _ => ⟨0, by simp, by omega⟩
  | o :: l, h => by
    obtain ⟨M, h1, h2⟩ := exists_bound l (fun x hx => h x (by simp [hx]))
    have h3 := h o (by simp)
    refine ⟨max M o.list.length, fun x hx => ?_, by omega⟩
    rcases List.mem_cons.1 hx with rfl | hx
    · omega
    · have := h1 x hx; omega

theorem same_f (a b : PScript) (hs : a.ops.length ≤ 9223372036854775807) (hl : ∀ o ∈ a.ops, o.list.length ≤ 9223372036854775807) : ∃ k r, Pr.pithlaw26_same.f k a.cap (a.ops.map toS) b.cap (b.ops.map toS) = some r ∧ (r = true ↔ a = b) := by
  obtain ⟨M, hM, hM2⟩ := exists_bound a.ops hl
  have key : ∃ r, Pr.pithref_SameOps.f (a.ops.length + M + 1) (a.ops.map toS) (b.ops.map toS) = some r ∧ (r = true ↔ a.ops = b.ops) := by
    unfold Pr.pithref_SameOps.f
    simp only [List.length_map]
    by_cases h : a.ops.length = b.ops.length
    · rw [if_pos (by omega)]; exact ops_l0 a.ops b.ops h hs M hM hM2 a.ops.length _ 0 (by omega) (by omega) rfl
    · rw [if_neg (by omega)]; exact ⟨false, rfl, by simp; intro e; rw [e] at h; exact h rfl⟩
  obtain ⟨r, h1, h2⟩ := key
  refine ⟨a.ops.length + M + 1, ?_⟩
  unfold Pr.pithlaw26_same.f
  rw [h1]
  simp only [Option.bind_some]
  obtain ⟨c, os⟩ := a
  obtain ⟨c', os'⟩ := b
  cases r with
  | true =>
    rw [if_pos rfl]
    have e : os = os' := h2.1 rfl
    subst e
    exact ⟨_, rfl, by simp⟩
  | false => rw [if_neg (by decide)]; refine ⟨false, rfl, ?_⟩; simp; intro _ e; exact absurd (h2.2 e) (by decide)

theorem kOp_C54 {w : World} {A : Option Addr} {n : Nat} {xs : List POp} (h : kOp.C w A n xs) : Pr.k44.C w A n (xs.map toS) := by
  obtain ⟨h1, h2, h3⟩ := h
  refine ⟨by simp [h1], h2, fun hn => ?_⟩
  obtain ⟨ad, e, hc⟩ := h3 hn
  refine ⟨ad, e, fun j p hp => ?_⟩
  rw [List.getElem?_map] at hp
  obtain ⟨x, hx, rfl⟩ := Option.map_eq_some_iff.1 hp
  exact hc j x hx

theorem op_lists {w : World} {A : Option Addr} {n : Nat} {xs : List POp} (h : kOp.C w A n xs) : ∀ o ∈ xs, o.list.length ≤ 9223372036854775807 := by
  intro o ho
  obtain ⟨i, hi⟩ := List.getElem?_of_mem ho
  obtain ⟨ad, A5, c5, _, _, _, _, _, _, _, _, hC⟩ := at_op h i o hi
  exact hC.2.1

theorem same_any (a b : PScript) (A0 A1 : Option Addr) (c0 c1 : Nat) (w : World) (h0 : kOp.C w A0 a.ops.length a.ops) (h1 : kOp.C w A1 b.ops.length b.ops) (hc0 : a.ops.length ≤ c0) (hc1 : b.ops.length ≤ c1) :
    Calls Tryz.prog 9 #[.agg #[.int .i64 a.cap, .slice A0 a.ops.length c0], .agg #[.int .i64 b.cap, .slice A1 b.ops.length c1]] w fun e w' => (∃ r : Bool, e = .returned (.bool r) ∧ (r = true ↔ a = b)) ∧ Below w.heap.size w w' := by
  obtain ⟨k, r, h2, h3⟩ := same_f a b h0.2.1 (op_lists h0)
  have := Pr.pithlaw26_same.calls k a.cap A0 c0 (a.ops.map toS) b.cap A1 c1 (b.ops.map toS) r w (by rw [List.length_map]; exact kOp_C54 h0) (by rw [List.length_map]; exact hc0) (by rw [List.length_map]; exact kOp_C54 h1) (by rw [List.length_map]; exact hc1) h2
  rw [List.length_map, List.length_map] at this
  exact this.mono fun e w' ⟨h4, h5⟩ => ⟨⟨r, h4, h3⟩, h5⟩
end Go.Proofs.YtbpackopicngmaaGreatDoor
