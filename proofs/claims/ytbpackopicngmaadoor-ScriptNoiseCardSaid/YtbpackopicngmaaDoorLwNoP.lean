/- Plain: blanks, remarks and empty lines change nothing but the lines' numbers. -/
import Derived.Test.YtbpackopicngmaaDoorLwFaP
namespace Go.Proofs.Sc

theorem wordsAux_tail : ∀ (l rest cur : By), wordsAux rest [] = [] → wordsAux (l ++ 9 :: rest) cur = wordsAux l cur
  | [], rest, cur, h => by
    simp only [List.nil_append, wordsAux]
    rw [if_neg (by decide), if_pos (by unfold isBlank; decide), h, List.append_nil]
  | c :: l, rest, cur, h => by
    simp only [List.cons_append, wordsAux]
    split
    · rfl
    · split
      · rw [wordsAux_tail l rest [] h]
      · rw [wordsAux_tail l rest _ h]

/-- A remark behind a line. -/
theorem words_remark (l : By) : wordsOf (l ++ [9, 32, 35, 32, 115, 111]) = wordsOf l := wordsAux_tail l [32, 35, 32, 115, 111] [] (by decide +kernel)

theorem words_blanks : ∀ (bl l : By), (∀ c ∈ bl, isBlank c) → wordsOf (bl ++ l) = wordsOf l
  | [], l, _ => rfl
  | c :: bl, l, h => by
    have hc := h c (by simp)
    have h35 : c ≠ 35 := by rintro rfl; unfold isBlank at hc; revert hc; decide
    have ih := words_blanks bl l (fun x hx => h x (by simp [hx]))
    unfold wordsOf at ih ⊢
    simp only [List.cons_append, wordsAux]
    rw [if_neg h35, if_pos hc, ih]
    rfl

/-- The line that is laid ahead, without its newline byte. -/
def noiseLine : By := [32, 9, 35, 32, 112, 117, 116, 32, 101, 32, 45]
theorem words_noise (bl : By) (h : ∀ c ∈ bl, isBlank c) : wordsOf (bl ++ noiseLine) = [] := by
  rw [words_blanks bl _ h]; decide +kernel

theorem lineStep_congr {st : PSt} {l l' : By} (h : wordsOf l = wordsOf l') : lineStep st l = lineStep st l' := by
  unfold lineStep; rw [h]
theorem lineStep_blank {st : PSt} {l : By} (h : wordsOf l = []) : lineStep st l = .ok st := by
  unfold lineStep; rw [if_pos h]

theorem runL_append : ∀ (a b : List By) (st : PSt), runL st (a ++ b) = (runL st a).bind fun st' => runL st' b
  | [], b, st => rfl
  | l :: a, b, st => by
    simp only [List.cons_append, runL]
    cases lineStep st l with
    | ok st' => exact runL_append a b st'
    | error e => rfl

/-- ls with noise is D; the j-th line of ls stands at the number at[j]. -/
inductive Noisy : List By → List By → List Nat → Prop
  | nil : Noisy [] [] []
  | blank {ls D at_ x} : Noisy ls D at_ → wordsOf x = [] → Noisy ls (D ++ [x]) at_
  | line {ls D at_ x y} : Noisy ls D at_ → wordsOf x = wordsOf y → Noisy (ls ++ [x]) (D ++ [y]) (at_ ++ [D.length + 1])

theorem Noisy.length {ls D : List By} {at_ : List Nat} (h : Noisy ls D at_) : at_.length = ls.length := by
  induction h with
  | nil => rfl
  | blank _ _ ih => exact ih
  | line _ _ ih => simp [ih]

theorem parseL_more {st : PSt} {no : Nat} {ls more : List By} (h : runL st ls = none) : parseL st no (ls ++ more) = parseL st no ls := by
  rcases parseL_cases ls st no with ⟨st', h1, _⟩ | ⟨pre, l, rest, e', st', h1, h2, h3, h4⟩
  · rw [h1] at h; cases h
  · rw [h4, h1, List.append_assoc, parseL_run pre st st' no _ h2, List.cons_append, parseL_errc h3]

/-- Both are read alike. -/
theorem Noisy.read {ls D : List By} {at_ : List Nat} (h : Noisy ls D at_) :
    (∃ st, runL none ls = some st ∧ runL none D = some st) ∨
    (runL none ls = none ∧ runL none D = none ∧ ∃ (n y : Nat) (e : Int), parseL none 0 ls = (.zero, (n : Int) + 1, e) ∧ at_[n]? = some y ∧ parseL none 0 D = (.zero, (y : Int), e)) := by
  induction h with
  | nil => exact Or.inl ⟨none, rfl, rfl⟩
  | @blank ls D at_ x _ hx ih =>
    rcases ih with ⟨st, h1, h2⟩ | ⟨h1, h2, n, y, e, h3, h4, h5⟩
    · refine Or.inl ⟨st, h1, ?_⟩
      rw [runL_append, h2]
      simp [runL, lineStep_blank hx]
    · refine Or.inr ⟨h1, by rw [runL_append, h2]; rfl, n, y, e, h3, h4, ?_⟩
      rw [parseL_more h2, h5]
  | @line ls D at_ x y hN hxy ih =>
    have hlen := hN.length
    rcases ih with ⟨st, h1, h2⟩ | ⟨h1, h2, n, z, e, h3, h4, h5⟩
    · cases hs : lineStep st x with
      | ok st' =>
        have hs' : lineStep st y = .ok st' := by rw [← lineStep_congr hxy]; exact hs
        refine Or.inl ⟨st', ?_, ?_⟩
        · rw [runL_append, h1]; simp [runL, hs]
        · rw [runL_append, h2]; simp [runL, hs']
      | error e =>
        have hs' : lineStep st y = .error e := by rw [← lineStep_congr hxy]; exact hs
        refine Or.inr ⟨by rw [runL_append, h1]; simp [runL, hs], by rw [runL_append, h2]; simp [runL, hs'], ls.length, D.length + 1, e, ?_, ?_, ?_⟩
        · rw [parseL_run ls none st 0 [x] h1, parseL_errc hs]; simp
        · rw [← hlen]; simp
        · rw [parseL_run D none st 0 [y] h2, parseL_errc hs']; simp
    · refine Or.inr ⟨by rw [runL_append, h1]; rfl, by rw [runL_append, h2]; rfl, n, z, e, by rw [parseL_more h1, h3], ?_, by rw [parseL_more h2, h5]⟩
      rw [List.getElem?_append_left (List.getElem?_eq_some_iff.1 h4).1, h4]

theorem linesOf_go (t : By) : ∃ tl, linesOf t = goLines t ++ tl ∧ ∀ x ∈ tl, x = [] := by
  unfold goLines
  split
  · rename_i h
    have hne := linesOf_ne t
    refine ⟨[[]], ?_, by simp⟩
    have h2 := List.dropLast_concat_getLast hne
    have h3 : (linesOf t).getLast hne = [] := by
      rw [List.getLast?_eq_some_getLast hne] at h; exact Option.some.inj h
    rw [h3] at h2; exact h2.symm
  · exact ⟨[], by simp, by simp⟩

theorem runL_empty : ∀ (tl : List By) (st : PSt), (∀ x ∈ tl, x = []) → runL st tl = some st
  | [], st, _ => rfl
  | x :: tl, st, h => by
    have hx := h x (by simp)
    subst hx
    simp only [runL, lineStep_blank (show wordsOf [] = [] from rfl)]
    exact runL_empty tl st (fun y hy => h y (by simp [hy]))

/-- What is parsed of a text and of the text with noise. -/
theorem noise_parse {t : By} {D : List By} {at_ : List Nat} (h : Noisy (goLines t) D at_) (hD : ∀ l ∈ D, ∀ c ∈ l, c ≠ 10) (ht : t.length ≤ 1048576) (hs : (textOf D).length ≤ 1048576) :
    (∃ s c, parse t = (s, 0, c) ∧ parse (textOf D) = (s, 0, c)) ∨ (∃ (n y : Nat) (e : Int), parse t = (.zero, (n : Int) + 1, e) ∧ at_[n]? = some y ∧ parse (textOf D) = (.zero, (y : Int), e)) := by
  obtain ⟨tl, h1, h2⟩ := linesOf_go t
  have hl := linesOf_text D [] hD
  rw [List.append_nil] at hl
  have hp : parse t = parseL none 0 (goLines t ++ tl) := by unfold parse; rw [if_neg (by omega), h1]
  have hq : parse (textOf D) = parseL none 0 (D ++ [[]]) := by unfold parse; rw [if_neg (by omega), hl]; rfl
  rcases h.read with ⟨st, h3, h4⟩ | ⟨h3, h4, n, y, e, h5, h6, h7⟩
  · left
    have e1 : parse t = endOf st := by
      rw [hp, parseL_run _ none st 0 tl h3]
      have := parseL_run tl st st (0 + (goLines t).length) [] (runL_empty tl st h2)
      rw [List.append_nil] at this
      rw [this, parseL_nil]
    have e2 : parse (textOf D) = endOf st := by
      rw [hq, parseL_run _ none st 0 [[]] h4]
      have := parseL_run [[]] st st (0 + D.length) [] (runL_empty [[]] st (by simp))
      rw [List.append_nil] at this
      rw [this, parseL_nil]
    rw [e1, e2]
    cases st <;> exact ⟨_, _, rfl, rfl⟩
  · exact Or.inr ⟨n, y, e, by rw [hp, parseL_more h3, h5], h6, by rw [hq, parseL_more h4, h7]⟩
end Go.Proofs.Sc
