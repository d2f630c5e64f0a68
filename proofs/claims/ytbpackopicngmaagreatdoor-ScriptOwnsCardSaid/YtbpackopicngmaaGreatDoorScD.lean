/- Plain mathematics, part D: the writing of a script; there and back. No program here. -/
import Derived.Test.YtbpackopicngmaaGreatDoorScC
namespace Go.Proofs.Sc
open Go.Lib (itoa)

/-! ### words and lines -/

def wordOk (w : By) : Prop := w ≠ [] ∧ ∀ c ∈ w, c ≠ 35 ∧ ¬ isBlank c

theorem wordsAux_word : ∀ (w r cur : By), (∀ c ∈ w, c ≠ 35 ∧ ¬ isBlank c) → wordsAux (w ++ r) cur = wordsAux r (cur ++ w)
  | [], r, cur, _ => by simp
  | c :: w, r, cur, h => by
    have hc := h c (by simp)
    simp only [List.cons_append, wordsAux]
    rw [if_neg hc.1, if_neg hc.2, wordsAux_word w r _ (fun x hx => h x (by simp [hx]))]
    simp

theorem flush_ne {cur : By} (h : cur ≠ []) : flush cur = [cur] := by unfold flush; rw [if_neg h]

/-- Words with one blank between them are those words again. -/
def joinW : List By → By
  | [] => []
  | [w] => w
  | w :: ws => w ++ 32 :: joinW ws

theorem joinW_cons (w : By) (ws : List By) (h : ws ≠ []) : joinW (w :: ws) = w ++ 32 :: joinW ws := by
  cases ws with
  | nil => exact absurd rfl h
  | cons => rfl

theorem words_join : ∀ (ws : List By), (∀ w ∈ ws, wordOk w) → wordsAux (joinW ws) [] = ws
  | [], _ => by simp [joinW, wordsAux, flush]
  | [w], h => by
    have hw := h w (by simp)
    have := wordsAux_word w [] [] hw.2
    simp only [List.append_nil, List.nil_append] at this
    simp only [joinW, this, wordsAux]; exact flush_ne hw.1
  | w :: x :: ws, h => by
    have hw := h w (by simp)
    rw [joinW_cons _ _ (by simp), wordsAux_word w _ [] hw.2]
    simp only [List.nil_append, wordsAux]
    rw [if_neg (by decide), if_pos (by unfold isBlank; decide), flush_ne hw.1, words_join (x :: ws) (fun y hy => h y (by simp [hy]))]
    rfl

theorem words_joinW (ws : List By) (h : ∀ w ∈ ws, wordOk w) : wordsOf (joinW ws) = ws := words_join ws h

theorem joinW_mem : ∀ (ws : List By) (c : UInt8), c ∈ joinW ws → c = 32 ∨ ∃ w ∈ ws, c ∈ w
  | [], c, h => by simp [joinW] at h
  | [w], c, h => Or.inr ⟨w, by simp, h⟩
  | w :: x :: ws, c, h => by
    rw [joinW_cons _ _ (by simp)] at h
    rcases List.mem_append.1 h with h | h
    · exact Or.inr ⟨w, by simp, h⟩
    · rcases List.mem_cons.1 h with h | h
      · exact Or.inl h
      · rcases joinW_mem (x :: ws) c h with h | ⟨y, hy, hc⟩
        · exact Or.inl h
        · exact Or.inr ⟨y, by simp [hy], hc⟩

theorem linesOf_ne (t : By) : linesOf t ≠ [] := by
  cases t with
  | nil => simp [linesOf]
  | cons c r => simp only [linesOf]; split; simp; split <;> simp

theorem linesOf_line : ∀ (l r : By), (∀ c ∈ l, c ≠ 10) → linesOf (l ++ 10 :: r) = l :: linesOf r
  | [], r, _ => by simp [linesOf]
  | c :: l, r, h => by
    simp only [List.cons_append, linesOf]
    rw [if_neg (h c (by simp)), linesOf_line l r (fun x hx => h x (by simp [hx]))]

/-- Lines with a newline byte behind each. -/
def textOf (ls : List By) : By := (ls.map (· ++ [10])).flatten

theorem linesOf_textOf : ∀ (ls : List By), (∀ l ∈ ls, ∀ c ∈ l, c ≠ 10) → linesOf (textOf ls) = ls ++ [[]]
  | [], _ => by simp [textOf, linesOf]
  | l :: ls, h => by
    have e : textOf (l :: ls) = l ++ 10 :: textOf ls := by simp [textOf]
    rw [e, linesOf_line l _ (h l (by simp)), linesOf_textOf ls (fun x hx => h x (by simp [hx]))]
    rfl

/-! ### a step's words -/

def fieldWords (o : POp) (f : UInt8) : List By :=
  if f = 78 then [escape o.name] else if f = 84 then [escape o.text] else if f = 65 then [itoa o.a] else if f = 66 then [itoa o.b] else o.list.map itoa

def piecesOf (o : POp) : List By := wordOf o.kind :: (fieldsOf o.kind).flatMap (fieldWords o)

def lineOf (o : POp) : By := joinW (piecesOf o)

/-- Is a field set that the kind does not use? -/
def spare (o : POp) : Bool :=
  (!o.name.isEmpty && !(fieldsOf o.kind).contains 78) || (!o.text.isEmpty && !(fieldsOf o.kind).contains 84) || (o.a != 0 && !(fieldsOf o.kind).contains 65)
    || (o.b != 0 && !(fieldsOf o.kind).contains 66) || (!o.list.isEmpty && !(fieldsOf o.kind).contains 76)

def kindOk (k : Int) : Prop := 1 ≤ k ∧ k ≤ 19
instance (k : Int) : Decidable (kindOk k) := by unfold kindOk; infer_instance

def numsOk (o : POp) : Prop := bounded o.a ∧ bounded o.b ∧ ∀ n ∈ o.list, bounded n
instance (o : POp) : Decidable (numsOk o) := by unfold numsOk; infer_instance

/-- Why a step can't be written; 0: it can. -/
def faultOf (o : POp) : Int := if ¬ kindOk o.kind then 261 else if spare o then 271 else if ¬ numsOk o then 262 else 0

def faults : List POp → Int
  | [] => 0
  | o :: os => if faultOf o = 0 then faults os else faultOf o

def headLine (cap : Int) : By := headWord ++ 32 :: itoa cap

def body (s : PScript) : By := textOf (headLine s.cap :: s.ops.map lineOf)

/-- What is printed, and the error. -/
def print (s : PScript) : By × Int :=
  if ¬ bounded s.cap then ([], 262)
  else if 2000 < s.ops.length then ([], 264)
  else if faults s.ops ≠ 0 then ([], faults s.ops)
  else if 1048576 < (body s).length then ([], 264)
  else (body s, 0)

/-! ### kinds -/

theorem wordOf_nat {k : Int} (h : kindOk k) : ∃ i : Fin 19, k = (i.val : Int) + 1 := ⟨⟨(k - 1).toNat, by have := h.1; have := h.2; omega⟩, by have := h.1; show k = (((k - 1).toNat : Nat) : Int) + 1; omega⟩

theorem kindOf_wordOf {k : Int} (h : kindOk k) : kindOf (wordOf k) = k := by
  obtain ⟨i, rfl⟩ := wordOf_nat h
  have : ∀ i : Fin 19, kindOf (wordOf ((i.val : Int) + 1)) = (i.val : Int) + 1 := by decide +kernel
  exact this i

theorem wordOf_mem {k : Int} (h : kindOk k) : ∀ c ∈ wordOf k, 97 ≤ c.toNat ∧ c.toNat ≤ 122 := by
  obtain ⟨i, rfl⟩ := wordOf_nat h
  have : ∀ i : Fin 19, ∀ c ∈ wordOf ((i.val : Int) + 1), 97 ≤ c.toNat ∧ c.toNat ≤ 122 := by decide +kernel
  exact this i

theorem wordOf_ne {k : Int} (h : kindOk k) : wordOf k ≠ [] := by
  obtain ⟨i, rfl⟩ := wordOf_nat h
  have : ∀ i : Fin 19, wordOf ((i.val : Int) + 1) ≠ [] := by decide +kernel
  exact this i

theorem wordOf_none {k : Int} (h : ¬ kindOk k) : wordOf k = [] := by
  unfold kindOk at h; unfold wordOf; rw [if_pos (by omega)]

theorem kindFrom_spec (w : By) : ∀ (n : Nat) (k : Int), 1 ≤ k → k + n = 20 → (kindFrom w n k = 0 ∧ ∀ j, k ≤ j → j ≤ 19 → wordOf j ≠ w) ∨ (kindOk (kindFrom w n k) ∧ k ≤ kindFrom w n k ∧ wordOf (kindFrom w n k) = w)
  | 0, k, _, h2 => Or.inl ⟨rfl, fun j h3 h4 => by omega⟩
  | n + 1, k, h1, h2 => by
    unfold kindFrom
    split
    · rename_i h; exact Or.inr ⟨⟨h1, by omega⟩, by omega, h⟩
    · rename_i h
      rcases kindFrom_spec w n (k + 1) (by omega) (by omega) with ⟨h3, h4⟩ | ⟨h3, h4, h5⟩
      · refine Or.inl ⟨h3, fun j h6 h7 => ?_⟩
        rcases Int.lt_or_eq_of_le h6 with h8 | h8
        · exact h4 j (by omega) h7
        · subst h8; exact h
      · exact Or.inr ⟨h3, by omega, h5⟩

theorem kindOf_spec (w : By) : (kindOf w = 0 ∧ ∀ j, kindOk j → wordOf j ≠ w) ∨ (kindOk (kindOf w) ∧ wordOf (kindOf w) = w) := by
  rcases kindFrom_spec w 19 1 (by omega) (by omega) with ⟨h1, h2⟩ | ⟨h1, _, h2⟩
  · exact Or.inl ⟨h1, fun j h => h2 j h.1 h.2⟩
  · exact Or.inr ⟨h1, h2⟩

theorem kindOf_ok {w : By} (h : kindOf w ≠ 0) : kindOk (kindOf w) ∧ wordOf (kindOf w) = w := by
  rcases kindOf_spec w with h1 | h1
  · exact absurd h1.1 h
  · exact h1

/-! ### there and back, a step -/

theorem wordOk_escape (b : By) : wordOk (escape b) :=
  ⟨escape_ne b, fun c hc => by
    obtain ⟨h1, h2, h3⟩ := escape_ok b c hc
    refine ⟨h3, ?_⟩
    unfold isBlank; rintro (h | h) <;> subst h <;> revert h1 <;> decide⟩

theorem wordOk_itoa (n : Int) : wordOk (itoa n) :=
  ⟨itoa_ne n, fun c hc => by
    unfold isBlank
    rcases itoa_mem hc with h | h
    · subst h; decide
    · refine ⟨?_, ?_⟩
      · rintro rfl; revert h; decide
      · rintro (e | e) <;> subst e <;> revert h <;> decide⟩

theorem wordOk_kind {k : Int} (h : kindOk k) : wordOk (wordOf k) :=
  ⟨wordOf_ne h, fun c hc => by
    have := wordOf_mem h c hc
    unfold isBlank
    refine ⟨?_, ?_⟩
    · rintro rfl; revert this; decide
    · rintro (e | e) <;> subst e <;> revert this <;> decide⟩

theorem fieldWords_ok (o : POp) (f : UInt8) : ∀ w ∈ fieldWords o f, wordOk w := by
  intro w hw
  unfold fieldWords at hw
  repeat' split at hw
  all_goals simp only [List.mem_cons, List.not_mem_nil, or_false, List.mem_map] at hw
  · subst hw; exact wordOk_escape _
  · subst hw; exact wordOk_escape _
  · subst hw; exact wordOk_itoa _
  · subst hw; exact wordOk_itoa _
  · obtain ⟨n, _, rfl⟩ := hw; exact wordOk_itoa _

theorem pieces_ok {o : POp} (h : kindOk o.kind) : ∀ w ∈ piecesOf o, wordOk w := by
  intro w hw
  unfold piecesOf at hw
  rcases List.mem_cons.1 hw with rfl | hw
  · exact wordOk_kind h
  · obtain ⟨f, _, hf⟩ := List.mem_flatMap.1 hw
    exact fieldWords_ok o f w hf

theorem escape_nl (b : By) : ∀ c ∈ escape b, c ≠ 10 := fun c hc => by
  have := (escape_ok b c hc).1
  rintro rfl; revert this; decide
theorem itoa_nl (n : Int) : ∀ c ∈ itoa n, c ≠ 10 := fun c hc => by
  rcases itoa_mem hc with h | h
  · subst h; decide
  · rintro rfl; revert h; decide
theorem wordOf_nl {k : Int} (h : kindOk k) : ∀ c ∈ wordOf k, c ≠ 10 := fun c hc => by
  have := wordOf_mem h c hc
  rintro rfl; revert this; decide

theorem lineOf_nl {o : POp} (h : kindOk o.kind) : ∀ c ∈ lineOf o, c ≠ 10 := by
  intro c hc
  rcases joinW_mem _ _ hc with rfl | ⟨w, hw, hcw⟩
  · decide
  · unfold piecesOf at hw
    rcases List.mem_cons.1 hw with rfl | hw
    · exact wordOf_nl h c hcw
    · obtain ⟨f, _, hf⟩ := List.mem_flatMap.1 hw
      unfold fieldWords at hf
      repeat' split at hf
      all_goals simp only [List.mem_cons, List.not_mem_nil, or_false, List.mem_map] at hf
      · subst hf; exact escape_nl _ c hcw
      · subst hf; exact escape_nl _ c hcw
      · subst hf; exact itoa_nl _ c hcw
      · subst hf; exact itoa_nl _ c hcw
      · obtain ⟨n, _, rfl⟩ := hf; exact itoa_nl _ c hcw

theorem setList : ∀ (l : List Int) (o : POp), (∀ n ∈ l, bounded n) → setAll o [] (l.map itoa) = .ok { o with list := o.list ++ l }
  | [], o, _ => by simp [setAll]
  | n :: l, o, h => by
    have hn : numR (itoa n) = some n := numR_iff.2 ⟨rfl, h n (by simp)⟩
    have h1 : setF o 76 (itoa n) = .ok { o with list := o.list ++ [n] } := by
      unfold setF
      rw [if_neg (by decide), if_neg (by decide), hn]
      simp
    simp only [List.map_cons, setAll, h1]
    rw [setList l _ (fun x hx => h x (by simp [hx]))]
    simp

theorem setF78 (o : POp) (t : By) : setF o 78 (escape t) = .ok { o with name := t } := by
  simp [setF, unescape_escape]
theorem setF84 (o : POp) (t : By) : setF o 84 (escape t) = .ok { o with text := t } := by
  simp [setF, unescape_escape]
theorem setF65 (o : POp) {n : Int} (h : bounded n) : setF o 65 (itoa n) = .ok { o with a := n } := by
  simp [setF, numR_iff.2 ⟨rfl, h⟩]
theorem setF66 (o : POp) {n : Int} (h : bounded n) : setF o 66 (itoa n) = .ok { o with b := n } := by
  simp [setF, numR_iff.2 ⟨rfl, h⟩]

theorem stepOf_pieces {o : POp} (hf : faultOf o = 0) : stepOf (piecesOf o) = .ok o := by
  unfold faultOf at hf
  split at hf
  · cases hf
  rename_i hk
  have hk : kindOk o.kind := Classical.not_not.1 hk
  split at hf
  · cases hf
  rename_i hs
  split at hf
  · cases hf
  rename_i hn
  have hn : numsOk o := Classical.not_not.1 hn
  obtain ⟨ha, hb, hl⟩ := hn
  have hs : spare o = false := by simpa using hs
  obtain ⟨kind, a, b, name, text, list⟩ := o
  simp only at hk ha hb hl
  have hkk := kindOf_wordOf hk
  have hk0 : ¬ kind = 0 := by have := hk.1; omega
  obtain ⟨i, hi⟩ := wordOf_nat hk
  unfold stepOf piecesOf
  simp only
  rw [hkk, if_neg hk0]
  unfold spare at hs
  simp only at hs
  obtain ⟨i, hi19⟩ := i
  simp only at hi
  have cases : i = 0 ∨ i = 1 ∨ i = 2 ∨ i = 3 ∨ i = 4 ∨ i = 5 ∨ i = 6 ∨ i = 7 ∨ i = 8 ∨ i = 9 ∨ i = 10 ∨ i = 11 ∨ i = 12 ∨ i = 13 ∨ i = 14 ∨ i = 15 ∨ i = 16 ∨ i = 17 ∨ i = 18 := by omega
  rcases cases with h | h | h | h | h | h | h | h | h | h | h | h | h | h | h | h | h | h | h <;> subst h <;> subst hi <;>
    simp [fieldsOf, kindFields] at hs <;>
    simp [fieldsOf, kindFields, plain, hasList, fieldWords, setF78, setF84, setF65 _ ha, setF66 _ hb, setList _ _ hl, setAll, POp.zero, hs] <;>
    omega

end Go.Proofs.Sc
