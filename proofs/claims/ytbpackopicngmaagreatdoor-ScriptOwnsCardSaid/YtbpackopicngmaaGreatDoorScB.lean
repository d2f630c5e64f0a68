/- Plain mathematics, part B: numbers as words. No program here. -/
import Derived.Lib.ItoaNum
import Derived.Lib.ItoaMem
import Derived.Lib.Atoi
import Derived.Lib.AtoiAll
namespace Go.Proofs.Sc
open Go.Lib (decDigits itoa nDigits decFrom digitVal atoiAll parseUint10 parseMag)

def bounded (n : Int) : Prop := -2147483647 ≤ n ∧ n ≤ 2147483647
instance (n : Int) : Decidable (bounded n) := by unfold bounded; infer_instance

/-- What a number's word says, by the program's way: strconv.Atoi, the bounds, strconv.Itoa. -/
def numP (w : List UInt8) : Option Int :=
  match atoiAll w with
  | .ok n => if bounded n ∧ itoa n = w then some n else none
  | _ => none

/-- .. by the document's way. -/
def numM (w : List UInt8) : Option Nat :=
  if w = [] ∨ 10 < w.length ∨ (1 < w.length ∧ w.head? = some 48) then none
  else match decFrom 0 w with
    | some n => if n ≤ 2147483647 then some n else none
    | none => none

def numR (w : List UInt8) : Option Int :=
  match w with
  | 45 :: c :: r => if c = 48 then none else (numM (c :: r)).map fun (n : Nat) => -(n : Int)
  | w => (numM w).map fun (n : Nat) => (n : Int)

theorem decFrom_append (l r : List UInt8) : ∀ acc, decFrom acc (l ++ r) = (decFrom acc l).bind fun m => decFrom m r := by
  induction l with
  | nil => intro acc; rfl
  | cons a t ih =>
    intro acc
    simp only [List.cons_append, decFrom]
    cases digitVal a with
    | none => rfl
    | some d => exact ih _

theorem digitVal_of {n : Nat} (h : n < 10) : digitVal (UInt8.ofNat (48 + n)) = some n := by
  have : ∀ n : Fin 10, digitVal (UInt8.ofNat (48 + n.val)) = some n.val := by decide +kernel
  exact this ⟨n, h⟩

theorem digit_back {b : UInt8} {d : Nat} (h : digitVal b = some d) : d < 10 ∧ UInt8.ofNat (48 + d) = b := by
  unfold digitVal at h
  split at h
  · rename_i hb; cases h
    refine ⟨by omega, ?_⟩
    rw [show 48 + (b.toNat - 48) = b.toNat by omega]; simp
  · cases h

theorem decFrom_digits (u : Nat) : decFrom 0 (decDigits u) = some u := by
  induction u using Nat.strongRecOn with
  | _ u ih =>
    by_cases h : u < 10
    · rw [decDigits, dif_pos h]; simp only [decFrom, digitVal_of h]; simp
    · rw [decDigits, dif_neg h, decFrom_append, ih (u / 10) (by omega)]
      have := digitVal_of (n := u % 10) (by omega)
      simp only [Option.bind_some, decFrom, this]; congr 1; omega

theorem head?_app {α : Type} {l r : List α} (h : l ≠ []) : (l ++ r).head? = l.head? := by
  cases l with
  | nil => exact absurd rfl h
  | cons => rfl

theorem dd0 : decDigits 0 = [48] := by rw [decDigits, dif_pos (by omega)]; rfl

theorem decDigits_ne (u : Nat) : decDigits u ≠ [] := by
  intro h; have := decFrom_digits u
  have hl := Go.Lib.decDigits_length u
  have := Go.Lib.nDigits_pos u
  rw [h] at hl; simp at hl; omega

theorem decDigits_mem (u : Nat) : ∀ b ∈ decDigits u, 48 ≤ b.toNat ∧ b.toNat ≤ 57 := by
  induction u using Nat.strongRecOn with
  | _ u ih =>
    intro b hb
    have key : ∀ n : Fin 10, 48 ≤ (UInt8.ofNat (48 + n.val)).toNat ∧ (UInt8.ofNat (48 + n.val)).toNat ≤ 57 := by decide +kernel
    by_cases h : u < 10
    · rw [decDigits, dif_pos h] at hb; rw [List.mem_singleton.1 hb]; exact key ⟨u, h⟩
    · rw [decDigits, dif_neg h] at hb
      rcases List.mem_append.1 hb with hb | hb
      · exact ih (u / 10) (by omega) b hb
      · rw [List.mem_singleton.1 hb]; exact key ⟨u % 10, by omega⟩

/-- No leading zero, but of 0 itself. -/
theorem decDigits_head (u : Nat) : (decDigits u).head? = some 48 → u = 0 := by
  induction u using Nat.strongRecOn with
  | _ u ih =>
    intro hh
    by_cases h : u < 10
    · rw [decDigits, dif_pos h] at hh
      have key : ∀ n : Fin 10, UInt8.ofNat (48 + n.val) = 48 → n.val = 0 := by decide +kernel
      exact key ⟨u, h⟩ (Option.some.inj hh)
    · rw [decDigits, dif_neg h, head?_app (decDigits_ne _)] at hh
      have := ih (u / 10) (by omega) hh; omega

theorem digits_back : ∀ (k : Nat) (l : List UInt8) (n : Nat), l.length = k + 1 → decFrom 0 l = some n → (1 < l.length → l.head? ≠ some 48) → decDigits n = l := by
  intro k
  induction k with
  | zero =>
    intro l n hl h _
    match l, hl with
    | [b], _ =>
      simp only [decFrom] at h
      cases hd : digitVal b with
      | none => simp [hd] at h
      | some d =>
        simp [hd] at h; subst h
        obtain ⟨h1, h2⟩ := digit_back hd
        rw [decDigits, dif_pos h1, h2]
  | succ k ih =>
    intro l n hl h hh
    obtain ⟨l', b, rfl⟩ : ∃ l' b, l = l' ++ [b] := ⟨l.dropLast, l.getLast (by intro e; rw [e] at hl; simp at hl), by rw [List.dropLast_concat_getLast]⟩
    have hl' : l'.length = k + 1 := by simpa using hl
    have hne : l' ≠ [] := by intro e; rw [e] at hl'; simp at hl'
    rw [decFrom_append] at h
    cases hm : decFrom 0 l' with
    | none => simp [hm] at h
    | some m =>
      simp only [hm, Option.bind_some, decFrom] at h
      cases hd : digitVal b with
      | none => simp [hd] at h
      | some d =>
        simp [hd] at h; subst h
        obtain ⟨h1, h2⟩ := digit_back hd
        have hh' : l'.head? ≠ some 48 := by
          have := hh (by simp; omega)
          rwa [head?_app hne] at this
        have e := ih l' m hl' hm (fun _ => hh')
        have hm0 : m ≠ 0 := by
          intro e0; subst e0
          rw [← e, dd0] at hh'; exact hh' rfl
        rw [decDigits, dif_neg (by omega), show (m * 10 + d) / 10 = m by omega, show (m * 10 + d) % 10 = d by omega, e, h2]

theorem nDigits_le : ∀ (k u : Nat), u < 10 ^ (k + 1) → nDigits u ≤ k + 1 := by
  intro k
  induction k with
  | zero => intro u h; rw [Go.Lib.nDigits_small (by simpa using h)]; omega
  | succ k ih =>
    intro u h
    by_cases h1 : u < 10
    · rw [Go.Lib.nDigits_small h1]; omega
    · rw [Go.Lib.nDigits_big h1]
      have := ih (u / 10) (by rw [Nat.pow_succ] at h; omega)
      omega

theorem numM_some {w : List UInt8} {n : Nat} : numM w = some n ↔ decDigits n = w ∧ n ≤ 2147483647 := by
  constructor
  · intro h
    unfold numM at h
    split at h
    · cases h
    · rename_i hc
      cases hd : decFrom 0 w with
      | none => simp [hd] at h
      | some m =>
        simp only [hd] at h
        split at h
        · cases h
          refine ⟨?_, by assumption⟩
          have hne : w.length ≠ 0 := by intro e; exact hc (Or.inl (List.length_eq_zero_iff.1 e))
          exact digits_back (w.length - 1) w n (by omega) hd (fun h1 h2 => hc (Or.inr (Or.inr ⟨h1, h2⟩)))
        · cases h
  · rintro ⟨rfl, h⟩
    unfold numM
    have hl := Go.Lib.decDigits_length n
    have h10 := nDigits_le 9 n (by simp; omega)
    rw [if_neg, decFrom_digits]
    · simp [h]
    · rintro (h1 | h1 | ⟨h1, h2⟩)
      · exact decDigits_ne n h1
      · omega
      · have := decDigits_head n h2; subst this; rw [dd0] at h1; simp at h1

theorem itoa_nonneg (u : Nat) : itoa (u : Int) = decDigits u := Go.Lib.itoa_nonneg u
theorem itoa_neg (u : Nat) (h : 1 ≤ u) : itoa (-(u : Int)) = 45 :: decDigits u := Go.Lib.itoa_neg u h

theorem dash_ne_digits (u : Nat) (r : List UInt8) : decDigits u ≠ 45 :: r := by
  intro h; have := decDigits_mem u 45 (by rw [h]; simp); revert this; decide

theorem numR_iff {w : List UInt8} {n : Int} : numR w = some n ↔ itoa n = w ∧ bounded n := by
  constructor
  · intro h
    unfold numR at h
    split at h
    · rename_i c r
      split at h
      · cases h
      · rename_i hc
        cases hm : numM (c :: r) with
        | none => simp [hm] at h
        | some m =>
          simp only [hm, Option.map_some, Option.some.injEq] at h; subst h
          obtain ⟨h1, h2⟩ := numM_some.1 hm
          have : 1 ≤ m := by
            rcases Nat.eq_zero_or_pos m with e | e
            · subst e; exfalso; rw [dd0] at h1; injection h1 with h1; exact hc h1.symm
            · exact e
          rw [itoa_neg m this, h1]; exact ⟨rfl, by unfold bounded; omega⟩
    · cases hm : numM w with
      | none => simp [hm] at h
      | some m =>
        simp only [hm, Option.map_some, Option.some.injEq] at h; subst h
        obtain ⟨h1, h2⟩ := numM_some.1 hm
        rw [itoa_nonneg, h1]; exact ⟨rfl, by unfold bounded; omega⟩
  · rintro ⟨rfl, hb⟩
    unfold bounded at hb
    rcases Int.lt_or_le n 0 with hn | hn
    · obtain ⟨u, rfl, hu⟩ : ∃ u : Nat, n = -(u : Int) ∧ 1 ≤ u := ⟨n.natAbs, by omega, by omega⟩
      rw [itoa_neg u hu]
      have hm := numM_some.2 ⟨rfl, (by omega : u ≤ 2147483647)⟩
      cases hd : decDigits u with
      | nil => exact absurd hd (decDigits_ne u)
      | cons c r =>
        rw [hd] at hm
        have hc : c ≠ 48 := by intro e; subst e; have := decDigits_head u (by rw [hd]; rfl); omega
        simp [numR, hc, hm]
    · obtain ⟨u, rfl⟩ := Int.eq_ofNat_of_zero_le hn
      rw [itoa_nonneg]
      have hm := numM_some.2 ⟨rfl, (by omega : u ≤ 2147483647)⟩
      unfold numR
      split
      · rename_i c r hd; exact absurd hd (dash_ne_digits u _)
      · simp [hm]

theorem parse_of_dec : ∀ (l : List UInt8) (acc n : Nat), decFrom acc l = some n → n ≤ 2147483648 → acc ≤ n ∧ parseUint10 acc l = .ok n
  | [], acc, n, h, _ => by simp only [decFrom, Option.some.injEq] at h; subst h; exact ⟨Nat.le_refl _, rfl⟩
  | c :: r, acc, n, h, hn => by
    simp only [decFrom] at h
    cases hd : digitVal c with
    | none => simp [hd] at h
    | some d =>
      simp only [hd] at h
      obtain ⟨h1, h2⟩ := parse_of_dec r _ n h hn
      unfold digitVal at hd
      split at hd
      · rename_i hc
        cases hd
        refine ⟨by omega, ?_⟩
        simp only [parseUint10]
        rw [if_pos hc, if_neg (by omega), if_neg (by omega)]
        exact h2
      · cases hd

theorem parseMag_digits (u : Nat) (h : u ≤ 2147483648) : parseMag (decDigits u) = .ok u := by
  unfold parseMag
  rw [if_neg (decDigits_ne u)]
  exact (parse_of_dec _ _ _ (decFrom_digits u) h).2

theorem atoiAll_itoa {n : Int} (hb : bounded n) : atoiAll (itoa n) = .ok n := by
  unfold bounded at hb
  rcases Int.lt_or_le n 0 with hn | hn
  · obtain ⟨u, rfl, hu⟩ : ∃ u : Nat, n = -(u : Int) ∧ 1 ≤ u := ⟨n.natAbs, by omega, by omega⟩
    rw [itoa_neg u hu]
    unfold atoiAll
    have h45 : (45 : UInt8).toNat = 45 := rfl
    simp only [h45]
    rw [if_pos (Or.inr trivial), parseMag_digits u (by omega)]
    have : ¬ (9223372036854775808 < u) := by omega
    simp [this]
  · obtain ⟨u, rfl⟩ := Int.eq_ofNat_of_zero_le hn
    rw [itoa_nonneg]
    have hp := parseMag_digits u (by omega)
    have hm := decDigits_mem u
    cases hd : decDigits u with
    | nil => exact absurd hd (decDigits_ne u)
    | cons c r =>
      rw [hd] at hp hm
      have hc := hm c (by simp)
      unfold atoiAll
      have h1 : ¬ (c.toNat = 43 ∨ c.toNat = 45) := by omega
      have h2 : ¬ (c.toNat = 45) := by omega
      have h3 : ¬ (9223372036854775808 ≤ u) := by omega
      simp only
      rw [if_neg h1, hp]
      simp [h2, h3]

theorem numP_iff {w : List UInt8} {n : Int} : numP w = some n ↔ itoa n = w ∧ bounded n := by
  constructor
  · intro h
    unfold numP at h
    split at h
    · split at h
      · rename_i hc; cases h; exact ⟨hc.2, hc.1⟩
      · cases h
    · cases h
  · rintro ⟨rfl, hb⟩
    unfold numP
    rw [atoiAll_itoa hb]
    simp [hb]

theorem numP_eq (w : List UInt8) : numP w = numR w := by
  cases h : numR w with
  | some n => exact numP_iff.2 (numR_iff.1 h)
  | none =>
    cases h' : numP w with
    | none => rfl
    | some n => rw [numR_iff.2 (numP_iff.1 h')] at h; cases h

theorem itoa_inj {a b : Int} (ha : bounded a) (hb : bounded b) (h : itoa a = itoa b) : a = b := by
  have := atoiAll_itoa ha; rw [h, atoiAll_itoa hb] at this; cases this; rfl

theorem itoa_mem {n : Int} {b : UInt8} (h : b ∈ itoa n) : b = 45 ∨ (48 ≤ b.toNat ∧ b.toNat ≤ 57) := by
  unfold itoa at h
  split at h
  · rcases List.mem_cons.1 h with h | h
    · exact Or.inl h
    · exact Or.inr (decDigits_mem _ b h)
  · exact Or.inr (decDigits_mem _ b h)

theorem itoa_ne (n : Int) : itoa n ≠ [] := by
  unfold itoa; split
  · simp
  · exact decDigits_ne _

theorem itoa_len {n : Int} (hb : bounded n) : 1 ≤ (itoa n).length ∧ (itoa n).length ≤ 11 := by
  unfold bounded at hb
  have hne := itoa_ne n
  refine ⟨by rcases h : itoa n with _ | ⟨a, t⟩; exact absurd h hne; simp, ?_⟩
  unfold itoa
  split
  · have := nDigits_le 9 n.natAbs (by simp; omega)
    simp [Go.Lib.decDigits_length]; omega
  · have := nDigits_le 9 n.toNat (by simp; omega)
    simp [Go.Lib.decDigits_length]; omega

end Go.Proofs.Sc
