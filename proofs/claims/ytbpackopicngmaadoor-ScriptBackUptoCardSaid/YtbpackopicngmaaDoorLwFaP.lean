/- Plain: a fault hangs on the lines up to it. -/
import Derived.Test.YtbpackopicngmaaDoorLwLin
namespace Go.Proofs.Sc
open Go.Lib (itoa)

def runL : PSt → List By → Option PSt
  | st, [] => some st
  | st, l :: ls => match lineStep st l with
    | .ok st' => runL st' ls
    | .error _ => none

def endOf : PSt → PScript × Int × Int
  | none => (.zero, 0, 260)
  | some s => (s, 0, 0)

theorem parseL_nil (st : PSt) (no : Nat) : parseL st no [] = endOf st := by cases st <;> rfl
theorem parseL_okc {st st' : PSt} {no : Nat} {l : By} {ls : List By} (h : lineStep st l = .ok st') : parseL st no (l :: ls) = parseL st' (no + 1) ls := by
  cases st <;> simp only [parseL, h]
theorem parseL_errc {st : PSt} {no : Nat} {l : By} {ls : List By} {e : Int} (h : lineStep st l = .error e) : parseL st no (l :: ls) = (.zero, (no : Int) + 1, e) := by
  cases st <;> simp only [parseL, h]

theorem parseL_run : ∀ (ls : List By) (st st' : PSt) (no : Nat) (rest : List By), runL st ls = some st' → parseL st no (ls ++ rest) = parseL st' (no + ls.length) rest
  | [], st, st', no, rest, h => by cases h; rfl
  | l :: ls, st, st', no, rest, h => by
    simp only [runL] at h
    split at h
    · rename_i st1 h1
      rw [List.cons_append, parseL_okc h1, parseL_run ls st1 st' (no + 1) rest h, List.length_cons]
      congr 1; omega
    · cases h

theorem parseL_cases : ∀ (ls : List By) (st : PSt) (no : Nat), (∃ st', runL st ls = some st' ∧ parseL st no ls = endOf st') ∨
    (∃ pre l rest e st', ls = pre ++ l :: rest ∧ runL st pre = some st' ∧ lineStep st' l = .error e ∧ parseL st no ls = (.zero, ((no + pre.length : Nat) : Int) + 1, e))
  | [], st, no => Or.inl ⟨st, rfl, parseL_nil st no⟩
  | l :: ls, st, no => by
    cases h : lineStep st l with
    | error e => exact Or.inr ⟨[], l, ls, e, st, rfl, rfl, h, by rw [parseL_errc h]; simp⟩
    | ok st1 =>
      rcases parseL_cases ls st1 (no + 1) with ⟨st', h1, h2⟩ | ⟨pre, l', rest, e, st', h1, h2, h3, h4⟩
      · exact Or.inl ⟨st', by simp only [runL, h]; exact h1, by rw [parseL_okc h]; exact h2⟩
      · refine Or.inr ⟨l :: pre, l', rest, e, st', by rw [h1]; rfl, by simp only [runL, h]; exact h2, h3, ?_⟩
        rw [parseL_okc h, h4, List.length_cons]
        congr 2; omega

theorem lineStep_words {st : PSt} {l : By} {e : Int} (h : lineStep st l = .error e) : l ≠ [] := by
  rintro rfl
  unfold lineStep at h
  rw [if_pos (by rfl)] at h
  cases h

theorem linesOf_no10 : ∀ (t l : By), l ∈ linesOf t → ∀ c ∈ l, c ≠ 10
  | [], l, h, c, hc => by simp [linesOf] at h; subst h; cases hc
  | x :: r, l, h, c, hc => by
    simp only [linesOf] at h
    split at h
    · rcases List.mem_cons.1 h with rfl | h
      · cases hc
      · exact linesOf_no10 r l h c hc
    · rename_i hx
      split at h
      · rename_i hr; exact absurd hr (linesOf_ne r)
      · rename_i l0 ls hr
        rcases List.mem_cons.1 h with rfl | h
        · rcases List.mem_cons.1 hc with rfl | hc
          · exact hx
          · exact linesOf_no10 r l0 (by rw [hr]; simp) c hc
        · exact linesOf_no10 r l (by rw [hr]; simp [h]) c hc

theorem textOf_linesOf : ∀ t : By, (textOf (linesOf t)).length = t.length + 1
  | [] => by simp [textOf, linesOf]
  | c :: r => by
    have ih := textOf_linesOf r
    simp only [linesOf]
    split
    · simp only [textOf, List.map_cons, List.flatten_cons, List.length_append, List.length_nil, List.length_cons, List.nil_append] at ih ⊢; omega
    · split
      · rename_i hr; exact absurd hr (linesOf_ne r)
      · rename_i l ls hr
        rw [hr] at ih
        simp only [textOf, List.map_cons, List.flatten_cons, List.length_append, List.length_cons, List.cons_append, List.length_nil] at ih ⊢; omega

theorem textOf_append (a b : List By) : textOf (a ++ b) = textOf a ++ textOf b := by simp [textOf]
theorem linesOf_text : ∀ (ls : List By) (r : By), (∀ l ∈ ls, ∀ c ∈ l, c ≠ 10) → linesOf (textOf ls ++ r) = ls ++ linesOf r
  | [], r, _ => by simp [textOf]
  | l :: ls, r, h => by
    have e : textOf (l :: ls) ++ r = l ++ 10 :: (textOf ls ++ r) := by simp [textOf]
    rw [e, linesOf_line l _ (h l (by simp)), linesOf_text ls r (fun x hx => h x (by simp [hx]))]
    rfl

/-- What the law asks, at a fault of line n. -/
structure FaultAt (t other : By) (n : Nat) (e : Int) : Prop where
  pos : 1 ≤ n
  code : e ≠ 0
  le : n ≤ (goLines t).length
  again : ∃ s, parse (textOf ((goLines t).take n) ++ other) = (s, (n : Int), e)
  ahead : ∃ s c, parse (textOf ((goLines t).take (n - 1))) = (s, 0, c) ∧ (c = 0 ∨ c = 260)
  small : (textOf ((goLines t).take n)).length ≤ t.length + 1

theorem goLines_prefix (t : By) : goLines t <+: linesOf t := by
  unfold goLines
  split
  · exact List.dropLast_prefix _
  · exact List.prefix_refl _

theorem lineStep_code {st : PSt} {l : By} {e : Int} (hh : ∀ {ws : List By} {c : Int}, headOf ws = .error c → (c != 0) = true) (hs : ∀ {ws : List By} {c : Int}, stepOf ws = .error c → (c != 0) = true) (h : lineStep st l = .error e) : e ≠ 0 := by
  unfold lineStep at h
  split at h
  · cases h
  · split at h
    · split at h
      · cases h
      · rename_i hx; cases h; simpa using hh hx
    · split at h
      · cases h; decide
      · split at h
        · cases h
        · rename_i hx; cases h; simpa using hs hx

theorem fault_cases (t other : By) (ht : t.length ≤ 60000) (ho : other.length ≤ 60000) (hh : ∀ {ws : List By} {c : Int}, headOf ws = .error c → (c != 0) = true) (hs : ∀ {ws : List By} {c : Int}, stepOf ws = .error c → (c != 0) = true) :
    (∃ s c, parse t = (s, 0, c)) ∨ (∃ s n e, parse t = (s, ((n : Nat) : Int), e) ∧ FaultAt t other n e) := by
  have hp : parse t = parseL none 0 (linesOf t) := by unfold parse; rw [if_neg (by omega)]
  rcases parseL_cases (linesOf t) none 0 with ⟨st', _, h2⟩ | ⟨pre, l, rest, e, st', h1, h2, h3, h4⟩
  · left
    rw [hp, h2]
    cases st' <;> exact ⟨_, _, rfl⟩
  · right
    refine ⟨.zero, pre.length + 1, e, by rw [hp, h4]; simp, ?_⟩
    have hgl : pre.length + 1 ≤ (goLines t).length := by
      unfold goLines
      split
      · rename_i hl
        rw [List.length_dropLast, h1]
        rcases rest.eq_nil_or_concat with rfl | ⟨r, x, rfl⟩
        · rw [h1] at hl
          simp at hl
          exact absurd hl (lineStep_words h3)
        · simp
      · rw [h1]; simp
    have htake : (goLines t).take (pre.length + 1) = pre ++ [l] := by
      obtain ⟨s, hs'⟩ := goLines_prefix t
      have := congrArg (List.take (pre.length + 1)) hs'
      rw [List.take_append_of_le_length hgl, h1] at this
      rw [this, List.take_append, List.take_of_length_le (Nat.le_succ _)]
      simp
    have htake2 : (goLines t).take (pre.length + 1 - 1) = pre := by
      have := congrArg (List.take pre.length) htake
      rw [List.take_take] at this
      simpa using this
    have hno : ∀ x ∈ linesOf t, ∀ c ∈ x, c ≠ 10 := fun x hx => linesOf_no10 t x hx
    have hlen := textOf_linesOf t
    rw [h1] at hlen hno
    have hsm : (textOf (pre ++ [l])).length ≤ t.length + 1 := by
      rw [← hlen, show pre ++ l :: rest = (pre ++ [l]) ++ rest by simp, textOf_append (pre ++ [l]) rest, List.length_append]; omega
    have hsm2 : (textOf pre).length ≤ t.length + 1 := by
      rw [textOf_append, List.length_append] at hsm; omega
    refine ⟨by omega, lineStep_code hh hs h3, hgl, ⟨.zero, ?_⟩, ?_, by rw [htake]; exact hsm⟩
    · rw [htake]
      unfold parse
      rw [if_neg (by rw [List.length_append]; omega), linesOf_text _ _ (fun x hx => hno x (by rcases List.mem_append.1 hx with hx | hx; simp [hx]; simp at hx; simp [hx])), List.append_assoc, parseL_run pre none st' 0 _ h2, List.singleton_append, parseL_errc h3]
      simp
    · rw [htake2]
      have : parse (textOf pre) = endOf st' := by
        unfold parse
        have hl := linesOf_text pre [] (fun x hx => hno x (by simp [hx]))
        rw [List.append_nil] at hl
        rw [if_neg (by omega), hl, parseL_run pre none st' 0 _ h2]
        have : linesOf [] = [[]] := rfl
        rw [this, parseL_okc (st' := st') (by unfold lineStep; rw [if_pos (by rfl)]), parseL_nil]
      rw [this]
      cases st' with
      | none => exact ⟨_, _, rfl, Or.inr rfl⟩
      | some s => exact ⟨_, _, rfl, Or.inl rfl⟩
end Go.Proofs.Sc
