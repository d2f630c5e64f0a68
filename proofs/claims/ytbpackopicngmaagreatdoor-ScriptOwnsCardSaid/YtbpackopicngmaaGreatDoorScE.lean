/- Plain mathematics, part E: the library's strings.Cut, FieldsFunc and Split, as they are used on a script's text. No program here. -/
import Derived.Test.YtbpackopicngmaaGreatDoorScC
import Derived.Test.YtbpackopicngmaaGreatDoorScD
import Derived.Lib.FieldsP
import Derived.Lib.FieldsU
import Derived.Lib.IndexMore
import Derived.Lib.IndexLaws
import Derived.Lib.SplitLaws
import Derived.Lib.FieldsLaws
import Derived.Lib.Split
import Derived.Lib.CutLaws
import Derived.Laws.RangeAny
import Derived.Laws.RangeString
namespace Go.Proofs.Sc
open Go.Lib

/-- The predicate that is handed to strings.FieldsFunc. -/
def blankR (x : Nat) : Bool := x == 32 || x == 9

theorem get_list (s : ByteArray) (i : Nat) (h : i < s.size) : s.data.toList[i]? = some (s.get! i) := by
  have h1 : s.data.toList[i]? = some (s[i]'h) := by rw [Array.getElem?_toList]; exact Array.getElem?_eq_getElem h
  rw [h1]; congr 1
  exact (Go.get_at s i h).symm

theorem decode_bytes (s : ByteArray) (pos : Nat) (h : pos < s.size) (ha : 128 ≤ (s.get! pos).toNat) (j : Nat) (hj : j < (Utf8.decode s pos).2) : 128 ≤ (s.get! (pos + j)).toNat ∧ pos + j < s.size := by
  have one : j < 1 → 128 ≤ (s.get! (pos + j)).toNat ∧ pos + j < s.size := fun h1 => by
    obtain rfl : j = 0 := by omega
    exact ⟨ha, h⟩
  have h0 : ¬ (s.get! (pos + 0)).toNat < 128 := by simpa using ha
  unfold Utf8.decode at hj
  simp only [h0, if_false, Bool.and_eq_true, decide_eq_true_eq, beq_iff_eq] at hj
  split at hj
  · rename_i hc
    split at hj
    · rcases (by simp at hj; omega : j = 0 ∨ j = 1) with rfl | rfl
      · exact ⟨ha, h⟩
      · exact ⟨by omega, by omega⟩
    · exact one (by simpa using hj)
  · split at hj
    · rename_i hc
      split at hj
      · rcases (by simp at hj; omega : j = 0 ∨ j = 1 ∨ j = 2) with rfl | rfl | rfl
        · exact ⟨ha, h⟩
        · exact ⟨by omega, by omega⟩
        · exact ⟨by omega, by omega⟩
      · exact one (by simpa using hj)
    · split at hj
      · rename_i hc
        split at hj
        · rcases (by simp at hj; omega : j = 0 ∨ j = 1 ∨ j = 2 ∨ j = 3) with rfl | rfl | rfl | rfl
          · exact ⟨ha, h⟩
          · exact ⟨by omega, by omega⟩
          · exact ⟨by omega, by omega⟩
          · exact ⟨by omega, by omega⟩
        · exact one (by simpa using hj)
      · exact one (by simpa using hj)

theorem take_high (s : ByteArray) (pos : Nat) (h : pos < s.size) (ha : 128 ≤ (s.get! pos).toNat) : ∀ c ∈ (s.data.toList.drop pos).take (Utf8.decode s pos).2, c ≠ 35 ∧ ¬ isBlank c := by
  intro c hc
  obtain ⟨j, hj, e⟩ := List.mem_iff_getElem.1 hc
  have hjk : j < (Utf8.decode s pos).2 := by rw [List.length_take] at hj; omega
  obtain ⟨h1, h2⟩ := decode_bytes s pos h ha j hjk
  have hg : s.data.toList[pos + j]? = some c := by
    rw [List.getElem_take, List.getElem_drop] at e
    rw [← e]; exact List.getElem?_eq_getElem _
  rw [get_list s _ h2] at hg
  have hcc := Option.some.inj hg
  rw [hcc] at h1
  unfold isBlank
  refine ⟨?_, ?_⟩
  · rintro rfl; revert h1; decide
  · rintro (e | e) <;> subst e <;> revert h1 <;> decide

theorem wordsAux_nil (cur : By) : wordsAux [] cur = flush cur := rfl

theorem fields_pass (s : ByteArray) (hno : ∀ c ∈ s.data.toList, c ≠ 35) : ∀ (f pos : Nat) (st : Option Nat) (acc : List (Nat × Nat)), s.size ≤ pos + f → pos ≤ s.size → (∀ a, st = some a → a < pos) →
    acc.map (fun p => pieceU s.data.toList p.1 p.2) ++ wordsAux (s.data.toList.drop pos) (openPiece s.data.toList st pos) = (closeSpans s (spansFromP blankR s f pos st acc)).map (fun p => pieceU s.data.toList p.1 p.2)
  | 0, pos, st, acc, h, hp, hst => by
    obtain rfl : pos = s.size := by omega
    have hd : s.data.toList.drop s.size = [] := List.drop_eq_nil_of_le (by rw [← size_eq]; exact Nat.le_refl _)
    rw [hd, wordsAux_nil]
    cases st with
    | none => simp [spansFromP, closeSpans, openPiece, flush]
    | some a =>
      have := pieceU_ne s.data.toList a s.size (hst a rfl) (by rw [← size_eq]; exact Nat.le_refl _)
      simp [spansFromP, closeSpans, openPiece, this, flush]
  | f + 1, pos, st, acc, h, hp, hst => by
    by_cases hlt : pos < s.size
    · have hw := width_pos s pos
      have hwn : pos + (Utf8.decode s pos).2 ≤ s.size := by
        have := decodeN_le_n' (s.size - pos) (s.get! pos).toNat (s.get! (pos + 1)).toNat (s.get! (pos + 2)).toNat (s.get! (pos + 3)).toNat (by omega)
        rw [← decode_at] at this
        omega
      have hgl := get_list s pos hlt
      have hcons : s.data.toList.drop pos = s.get! pos :: s.data.toList.drop (pos + 1) := drop_at hgl
      have hget : s.get! pos = s[pos]'hlt := Go.get_at s pos hlt
      have hmem : s.get! pos ≠ 35 := hno _ (List.mem_of_getElem? hgl)
      by_cases hb : isBlank (s.get! pos)
      · have hlo : (s.get! pos).toNat < 128 := by rcases hb with e | e <;> rw [e] <;> decide
        have hdec : Utf8.decode s pos = ((s.get! pos).toNat, 1) := by rw [hget]; exact Go.decode_ascii s pos hlt (by rw [← hget]; exact hlo)
        have hbr : blankR (Utf8.decode s pos).1 = true := by
          rw [hdec]; rcases hb with e | e <;> rw [e] <;> rfl
        simp only [spansFromP, if_pos hlt, hbr, if_true]
        rw [hcons]
        simp only [wordsAux, if_neg hmem, if_pos hb]
        rw [hdec]
        cases st with
        | none =>
          have ih := fields_pass s hno f (pos + 1) none acc (by omega) (by omega) (fun a h => by cases h)
          simpa [openPiece, flush] using ih
        | some a =>
          have hpn := pieceU_ne s.data.toList a pos (hst a rfl) (by rw [← size_eq]; omega)
          have ih := fields_pass s hno f (pos + 1) none (acc ++ [(a, pos)]) (by omega) (by omega) (fun a h => by cases h)
          simpa [openPiece, hpn, flush] using ih
      · have hall : ∀ c ∈ (s.data.toList.drop pos).take (Utf8.decode s pos).2, c ≠ 35 ∧ ¬ isBlank c := by
          by_cases hlo : (s.get! pos).toNat < 128
          · have hdec : Utf8.decode s pos = ((s.get! pos).toNat, 1) := by rw [hget]; exact Go.decode_ascii s pos hlt (by rw [← hget]; exact hlo)
            rw [hdec, hcons]
            intro c hc
            simp at hc; subst hc; exact ⟨hmem, hb⟩
          · exact take_high s pos hlt (by omega)
        have hbr : blankR (Utf8.decode s pos).1 = false := by
          by_cases hlo : (s.get! pos).toNat < 128
          · have hdec : Utf8.decode s pos = ((s.get! pos).toNat, 1) := by rw [hget]; exact Go.decode_ascii s pos hlt (by rw [← hget]; exact hlo)
            rw [hdec]
            unfold isBlank at hb
            unfold blankR
            have h1 : (s.get! pos).toNat ≠ 32 := fun e => hb (Or.inl (UInt8.toNat_inj.1 e))
            have h2 : (s.get! pos).toNat ≠ 9 := fun e => hb (Or.inr (UInt8.toNat_inj.1 e))
            simp [h1, h2]
          · have := (Go.decode_high s pos hlt (by rw [← hget]; omega)).1
            unfold blankR; simp; omega
        have hsplit : s.data.toList.drop pos = (s.data.toList.drop pos).take (Utf8.decode s pos).2 ++ s.data.toList.drop (pos + (Utf8.decode s pos).2) := by
          rw [← List.drop_drop]; exact (List.take_append_drop _ _).symm
        rw [hsplit, wordsAux_word _ _ _ hall]
        simp only [spansFromP, if_pos hlt, hbr, Bool.false_eq_true, if_false]
        cases st with
        | none =>
          have ih := fields_pass s hno f (pos + (Utf8.decode s pos).2) (some pos) acc (by omega) hwn (fun a h => by cases h; omega)
          have e : ([] : List UInt8) ++ (s.data.toList.drop pos).take (Utf8.decode s pos).2 = pieceU s.data.toList pos (pos + (Utf8.decode s pos).2) := by
            unfold pieceU
            rw [List.nil_append, Nat.add_sub_cancel_left]
          simp only [openPiece] at ih ⊢
          rw [e]
          exact ih
        | some a =>
          have ih := fields_pass s hno f (pos + (Utf8.decode s pos).2) (some a) acc (by omega) hwn (fun b h => by cases h; have := hst a rfl; omega)
          simp only [openPiece] at ih ⊢
          rw [pieceU_grow _ _ _ _ (Nat.le_of_lt (hst a rfl))]
          exact ih
    · obtain rfl : pos = s.size := by omega
      have hd : s.data.toList.drop s.size = [] := List.drop_eq_nil_of_le (by rw [← size_eq]; exact Nat.le_refl _)
      rw [hd, wordsAux_nil, spansFromP_end blankR s _ _ _ _ hlt]
      cases st with
      | none => simp [closeSpans, openPiece, flush]
      | some a =>
        have := pieceU_ne s.data.toList a s.size (hst a rfl) (by rw [← size_eq]; exact Nat.le_refl _)
        simp [closeSpans, openPiece, this, flush]

theorem fields_eq (s : ByteArray) (hno : ∀ c ∈ s.data.toList, c ≠ 35) : (goFieldsP blankR s).map (·.data.toList) = wordsOf s.data.toList := by
  have h := fields_pass s hno s.size 0 none [] (by omega) (by omega) (fun a h => by cases h)
  simp only [List.map_nil, List.nil_append, List.drop_zero, openPiece] at h
  unfold wordsOf goFieldsP spansOfP
  rw [h, List.map_map]
  refine List.map_congr_left fun x _ => ?_
  simp [pieceU]

/-- A line's words are those of what stands ahead of the first '#'. -/
theorem wordsAux_cut : ∀ (l cur : By), wordsAux l cur = wordsAux (l.takeWhile (· ≠ 35)) cur
  | [], _ => rfl
  | c :: r, cur => by
    by_cases h : c = 35
    · subst h; simp [wordsAux]
    · have ht : (c :: r).takeWhile (· ≠ 35) = c :: r.takeWhile (· ≠ 35) := by simp [h]
      rw [ht]
      simp only [wordsAux, if_neg h]
      rw [wordsAux_cut r [], wordsAux_cut r (cur ++ [c])]

theorem index_cons (b c : UInt8) (l : By) : index (b :: l) [c] = if b = c then 0 else if index l [c] == -1 then -1 else index l [c] + 1 := by
  simp only [index]
  have : ([c].isPrefixOf (b :: l)) = (c == b) := by simp [List.isPrefixOf]
  rw [this]
  by_cases h : b = c
  · subst h; simp
  · have h' : (c == b) = false := by simp; exact fun e => h e.symm
    rw [h', if_neg h]; rfl

theorem index_one : ∀ (l : By) (c : UInt8), index l [c] = if c ∈ l then ((l.takeWhile (· ≠ c)).length : Int) else -1
  | [], c => by simp [index]
  | b :: l, c => by
    rw [index_cons, index_one l c]
    by_cases h : b = c
    · subst h; simp
    · rw [if_neg h]
      by_cases hm : c ∈ l
      · have h1 : c ∈ b :: l := by simp [hm]
        rw [if_pos hm, if_pos h1]
        have h2 : (b :: l).takeWhile (· ≠ c) = b :: l.takeWhile (· ≠ c) := by simp [h]
        rw [h2]
        have h3 : (((l.takeWhile (· ≠ c)).length : Int) == -1) = false := by rw [beq_eq_false_iff_ne]; omega
        rw [h3]; simp
      · have h1 : ¬ c ∈ b :: l := by simp [hm]; exact fun e => h e.symm
        rw [if_neg hm, if_neg h1]; rfl

theorem tw_all {l : By} {c : UInt8} (h : ¬ c ∈ l) : l.takeWhile (· ≠ c) = l := by
  induction l with
  | nil => rfl
  | cons b l ih =>
    have h1 : b ≠ c := fun e => h (by simp [e])
    have h2 := ih (fun hm => h (by simp [hm]))
    simp only [ne_eq, decide_not, List.takeWhile_cons] at h2 ⊢
    simp [h1, h2]

theorem tw_take (l : By) (p : UInt8 → Bool) : l.take (l.takeWhile p).length = l.takeWhile p := by
  induction l with
  | nil => rfl
  | cons b l ih =>
    simp only [List.takeWhile_cons]
    split
    · simp [ih]
    · simp

theorem cut_one (l : By) (c : UInt8) : (cut l [c]).1 = l.takeWhile (· ≠ c) := by
  unfold cut
  rw [index_one]
  by_cases h : c ∈ l
  · rw [if_pos h, if_pos (by omega)]
    simp only [Int.toNat_natCast]
    exact tw_take l _
  · rw [if_neg h, if_neg (by decide)]
    exact (tw_all h).symm

theorem words_cut (l : By) : wordsOf (cut l [35]).1 = wordsOf l := by
  rw [cut_one]; exact (wordsAux_cut l []).symm

theorem tw_no (l : By) (c : UInt8) : ∀ x ∈ l.takeWhile (· ≠ c), x ≠ c := by
  induction l with
  | nil => intro x hx; simp at hx
  | cons b l ih =>
    intro x hx
    by_cases hb : b = c
    · subst hb; simp at hx
    · have h2 : (b :: l).takeWhile (· ≠ c) = b :: l.takeWhile (· ≠ c) := by simp [hb]
      rw [h2] at hx
      rcases List.mem_cons.1 hx with rfl | hx
      · exact hb
      · exact ih x hx

/-- strings.Cut, then strings.FieldsFunc: the words of a line. -/
theorem words_lib (l : By) : (goFieldsP blankR ⟨(cut l [35]).1.toArray⟩).map (·.data.toList) = wordsOf l := by
  rw [fields_eq]
  · exact words_cut l
  · rw [cut_one]; exact tw_no l 35

theorem linesOf_no : ∀ (l : By), ¬ (10 : UInt8) ∈ l → linesOf l = [l]
  | [], _ => rfl
  | c :: r, h => by
    have h1 : c ≠ 10 := fun e => h (by simp [e])
    simp only [linesOf, if_neg h1]
    rw [linesOf_no r (fun hm => h (by simp [hm]))]

theorem linesOf_cut : ∀ (l : By), (10 : UInt8) ∈ l → linesOf l = l.takeWhile (· ≠ 10) :: linesOf (l.drop ((l.takeWhile (· ≠ 10)).length + 1))
  | [], h => by simp at h
  | c :: r, h => by
    by_cases hc : c = 10
    · subst hc; simp [linesOf]
    · have hm : (10 : UInt8) ∈ r := by
        rcases List.mem_cons.1 h with e | e
        · exact absurd e.symm hc
        · exact e
      have h2 : (c :: r).takeWhile (· ≠ 10) = c :: r.takeWhile (· ≠ 10) := by simp [hc]
      rw [h2]
      simp only [linesOf, if_neg hc]
      rw [linesOf_cut r hm]
      simp

theorem count_tw {l : By} {c : UInt8} (h : c ∈ l) : l.count c = (l.drop ((l.takeWhile (· ≠ c)).length + 1)).count c + 1 := by
  induction l with
  | nil => simp at h
  | cons b l ih =>
    by_cases hb : b = c
    · subst hb; simp
    · have hm : c ∈ l := by
        rcases List.mem_cons.1 h with e | e
        · exact absurd e.symm hb
        · exact e
      have h2 : (b :: l).takeWhile (· ≠ c) = b :: l.takeWhile (· ≠ c) := by simp [hb]
      rw [h2, List.count_cons_of_ne hb, ih hm]
      simp

theorem split_lines : ∀ (k : Nat) (s : ByteArray), s.data.toList.count 10 = k → (splitB ⟨#[10]⟩ 0 k s).map (·.data.toList) = linesOf s.data.toList
  | 0, s, h => by
    rw [splitB_zero, linesOf_no _ (List.count_eq_zero.1 h)]; rfl
  | k + 1, s, h => by
    have hm : (10 : UInt8) ∈ s.data.toList := by
      apply Classical.byContradiction; intro hn; rw [List.count_eq_zero.2 hn] at h; cases h
    have hi : indexB s ⟨#[10]⟩ = ((s.data.toList.takeWhile (· ≠ 10)).length : Int) := by
      show index s.data.toList [10] = _
      rw [index_one, if_pos hm]
    unfold splitB
    have hne : (((s.data.toList.takeWhile (· ≠ 10)).length : Int) == -1) = false := by rw [beq_eq_false_iff_ne]; omega
    rw [hi, hne]
    simp only [Bool.false_eq_true, if_false, List.map_cons, Int.toNat_natCast, Nat.add_zero]
    rw [linesOf_cut _ hm]
    have h1 : (s.extract 0 (s.data.toList.takeWhile (· ≠ 10)).length).data.toList = s.data.toList.takeWhile (· ≠ 10) := by
      rw [Lib.extract_data]; simp only [List.drop_zero, Nat.sub_zero]; exact tw_take _ _
    have h2 : (s.extract ((s.data.toList.takeWhile (· ≠ 10)).length + (⟨#[10]⟩ : ByteArray).size) s.size).data.toList = s.data.toList.drop ((s.data.toList.takeWhile (· ≠ 10)).length + 1) := by
      rw [Lib.extract_data]
      have hs : (⟨#[10]⟩ : ByteArray).size = 1 := rfl
      rw [hs, size_eq]
      exact List.take_of_length_le (by rw [List.length_drop]; omega)
    rw [h1, split_lines k _ (by rw [h2]; have := count_tw hm; omega), h2]

theorem count_lib (s : ByteArray) : countB s ⟨#[10]⟩ = s.data.toList.count 10 := count_one 10 s.data.toList

theorem linesOf_len (l : By) : (linesOf l).length = l.count 10 + 1 := by
  induction l with
  | nil => rfl
  | cons c r ih =>
    by_cases hc : c = 10
    · subst hc; simp [linesOf, ih]
    · simp only [linesOf, if_neg hc, List.count_cons_of_ne hc]
      cases h : linesOf r with
      | nil => exact absurd h (linesOf_ne r)
      | cons a b => rw [h] at ih; simpa using ih

theorem line_le : ∀ (l : By), ∀ x ∈ linesOf l, x.length ≤ l.length
  | [], x, hx => by simp [linesOf] at hx; subst hx; simp
  | c :: r, x, hx => by
    simp only [linesOf] at hx
    split at hx
    · rcases List.mem_cons.1 hx with rfl | hx
      · simp
      · have := line_le r x hx; simp; omega
    · split at hx
      · rename_i h; exact absurd h (linesOf_ne r)
      · rename_i a b h
        rcases List.mem_cons.1 hx with rfl | hx
        · have := line_le r a (by rw [h]; simp); simp; omega
        · have := line_le r x (by rw [h]; simp [hx]); simp; omega

theorem word_le : ∀ (l cur : By), ∀ x ∈ wordsAux l cur, x.length ≤ cur.length + l.length
  | [], cur, x, hx => by
    simp only [wordsAux, flush] at hx
    split at hx
    · simp at hx
    · simp at hx; subst hx; simp
  | c :: r, cur, x, hx => by
    simp only [wordsAux] at hx
    split at hx
    · simp only [flush] at hx; split at hx
      · simp at hx
      · simp at hx; subst hx; simp
    · split at hx
      · rcases List.mem_append.1 hx with hx | hx
        · simp only [flush] at hx; split at hx
          · simp at hx
          · simp at hx; subst hx; simp
        · have := word_le r [] x hx; simp at this ⊢; omega
      · have := word_le r (cur ++ [c]) x hx; simp at this ⊢; omega

theorem words_count : ∀ (l cur : By), (wordsAux l cur).length ≤ l.length + 1
  | [], cur => by simp only [wordsAux, flush]; split <;> simp
  | c :: r, cur => by
    simp only [wordsAux]
    split
    · simp only [flush]; split <;> simp
    · split
      · have := words_count r []
        simp only [flush]; split <;> simp <;> omega
      · have := words_count r (cur ++ [c]); simp; omega

end Go.Proofs.Sc
