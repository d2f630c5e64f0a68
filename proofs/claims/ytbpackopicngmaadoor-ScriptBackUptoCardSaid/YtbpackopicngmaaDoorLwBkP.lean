/- Plain: what is printed is read as the same script; what is read is printed as a text that is read as the same, or is too long. -/
import Derived.Test.YtbpackopicngmaaDoorSwK
import Derived.Test.YtbpackopicngmaaDoorLwFaP
namespace Go.Proofs.Sc
open Go.Lib (itoa)

theorem faults_zero : ∀ os : List POp, faults os = 0 → ∀ o ∈ os, faultOf o = 0
  | [], _, o, ho => by cases ho
  | x :: os, h, o, ho => by
    unfold faults at h
    split at h
    · rename_i hx
      rcases List.mem_cons.1 ho with rfl | ho
      · exact hx
      · exact faults_zero os h o ho
    · rename_i hx; exact absurd h hx

theorem faults_of : ∀ os : List POp, (∀ o ∈ os, faultOf o = 0) → faults os = 0
  | [], _ => rfl
  | x :: os, h => by
    unfold faults
    rw [if_pos (h x (by simp))]
    exact faults_of os (fun o ho => h o (by simp [ho]))

theorem fault_kind {o : POp} (h : faultOf o = 0) : kindOk o.kind := by
  unfold faultOf at h
  split at h
  · cases h
  · rename_i hk; exact Classical.not_not.1 hk

theorem lineOf_words {o : POp} (h : faultOf o = 0) : wordsOf (lineOf o) = piecesOf o := words_joinW _ (pieces_ok (fault_kind h))

theorem lineStep_op {cap : Int} {done : List POp} {o : POp} (h : faultOf o = 0) (hl : done.length < 2000) : lineStep (some ⟨cap, done⟩) (lineOf o) = .ok (some ⟨cap, done ++ [o]⟩) := by
  unfold lineStep
  rw [lineOf_words h, if_neg (by unfold piecesOf; simp)]
  simp only
  rw [if_neg (by omega), stepOf_pieces h]

theorem parse_ops : ∀ (os done : List POp) (cap : Int) (no : Nat), (∀ o ∈ os, faultOf o = 0) → done.length + os.length ≤ 2000 → parseL (some ⟨cap, done⟩) no (os.map lineOf ++ [[]]) = (⟨cap, done ++ os⟩, 0, 0)
  | [], done, cap, no, _, _ => by
    rw [List.map_nil, List.nil_append, parseL_okc (lineStep_blank' rfl)]
    simp [parseL]
  | o :: os, done, cap, no, h, hl => by
    rw [List.length_cons] at hl
    rw [List.map_cons, List.cons_append, parseL_okc (lineStep_op (h o (by simp)) (by omega)), parse_ops os (done ++ [o]) cap (no + 1) (fun x hx => h x (by simp [hx])) (by rw [List.length_append, List.length_singleton]; omega)]
    simp
where lineStep_blank' {st : PSt} {l : By} (h : wordsOf l = []) : lineStep st l = .ok st := by unfold lineStep; rw [if_pos h]

theorem headLine_join (cap : Int) : headLine cap = joinW [headWord, itoa cap] := rfl

theorem headLine_nl (cap : Int) : ∀ c ∈ headLine cap, c ≠ 10 := by
  intro c hc
  unfold headLine at hc
  rcases List.mem_append.1 hc with hc | hc
  · exact (show ∀ c ∈ headWord, c ≠ 10 by decide) c hc
  · rcases List.mem_cons.1 hc with rfl | hc
    · decide
    · exact itoa_nl _ c hc

theorem lineStep_head {cap : Int} (h : bounded cap) : lineStep none (headLine cap) = .ok (some ⟨cap, []⟩) := by
  have hw : wordsOf (headLine cap) = [headWord, itoa cap] := by
    rw [headLine_join]
    refine words_joinW _ ?_
    intro w hw
    rcases List.mem_cons.1 hw with rfl | hw
    · exact ⟨by decide, by unfold isBlank; decide⟩
    · rw [List.mem_singleton.1 hw]; exact wordOk_itoa _
  unfold lineStep
  rw [hw, if_neg (by simp)]
  simp [headOf, numR_iff.2 ⟨rfl, h⟩]

theorem parse_body {s : PScript} (hc : bounded s.cap) (hn : s.ops.length ≤ 2000) (hf : ∀ o ∈ s.ops, faultOf o = 0) (hl : (body s).length ≤ 1048576) : parse (body s) = (s, 0, 0) := by
  obtain ⟨cap, ops⟩ := s
  have e : linesOf (body ⟨cap, ops⟩) = headLine cap :: (ops.map lineOf ++ [[]]) := by
    unfold body
    rw [linesOf_textOf]
    · rfl
    · intro l hl
      rcases List.mem_cons.1 hl with rfl | hl
      · exact headLine_nl _
      · obtain ⟨o, ho, rfl⟩ := List.mem_map.1 hl
        exact lineOf_nl (fault_kind (hf o ho))
  unfold parse
  rw [if_neg (by omega), e, parseL_okc (lineStep_head hc), parse_ops ops [] cap _ hf (by simpa using hn)]
  simp

/-- All that Print can answer. -/
theorem print_cases (s : PScript) : (∃ c, print s = ([], c) ∧ c ≠ 0) ∨ (print s = (body s, 0) ∧ (body s).length ≤ 1048576 ∧ parse (body s) = (s, 0, 0)) := by
  unfold print
  split
  · exact Or.inl ⟨_, rfl, by decide⟩
  rename_i h1
  split
  · exact Or.inl ⟨_, rfl, by decide⟩
  rename_i h2
  split
  · rename_i h3; exact Or.inl ⟨_, rfl, h3⟩
  rename_i h3
  split
  · exact Or.inl ⟨_, rfl, by decide⟩
  rename_i h4
  exact Or.inr ⟨rfl, by omega, parse_body (Classical.not_not.1 h1) (by omega) (faults_zero _ (Classical.not_not.1 h3)) (by omega)⟩

/-! ### what is read can be written -/

structure Good (o : POp) : Prop where
  nums : numsOk o
  name : o.name ≠ [] → 78 ∈ fieldsOf o.kind
  text : o.text ≠ [] → 84 ∈ fieldsOf o.kind
  a : o.a ≠ 0 → 65 ∈ fieldsOf o.kind
  b : o.b ≠ 0 → 66 ∈ fieldsOf o.kind
  list : o.list ≠ [] → 76 ∈ fieldsOf o.kind

theorem Good.spare {o : POp} (h : Good o) : spare o = false := by
  have h1 := h.name; have h2 := h.text; have h3 := h.a; have h4 := h.b; have h5 := h.list
  have key : ∀ {α : Type} (l : List α) (f : UInt8), (l ≠ [] → f ∈ fieldsOf o.kind) → (!l.isEmpty && !(fieldsOf o.kind).contains f) = false := by
    intro α l f hl
    cases l with
    | nil => rfl
    | cons x l => have := hl (by simp); simp [this]
  have key2 : ∀ (n : Int) (f : UInt8), (n ≠ 0 → f ∈ fieldsOf o.kind) → (n != 0 && !(fieldsOf o.kind).contains f) = false := by
    intro n f hl
    by_cases hn : n = 0
    · subst hn; rfl
    · have := hl hn; simp [this]
  unfold Sc.spare
  rw [key _ _ h1, key _ _ h2, key2 _ _ h3, key2 _ _ h4, key _ _ h5]
  rfl

theorem setF_good {o o' : POp} {f : UInt8} {w : By} (h : Good o) (hf : f ∈ fieldsOf o.kind) (h5 : f = 78 ∨ f = 84 ∨ f = 65 ∨ f = 66 ∨ f = 76) (hs : setF o f w = .ok o') : Good o' ∧ o'.kind = o.kind := by
  unfold setF at hs
  split at hs
  · rename_i e; subst e
    split at hs
    · cases hs; exact ⟨⟨h.nums, fun _ => hf, h.text, h.a, h.b, h.list⟩, rfl⟩
    · cases hs
  split at hs
  · rename_i e; subst e
    split at hs
    · cases hs; exact ⟨⟨h.nums, h.name, fun _ => hf, h.a, h.b, h.list⟩, rfl⟩
    · cases hs
  split at hs
  · cases hs
  rename_i n hn
  have hb := (numR_iff.1 hn).2
  split at hs
  · rename_i e; subst e
    cases hs; exact ⟨⟨⟨hb, h.nums.2.1, h.nums.2.2⟩, h.name, h.text, fun _ => hf, h.b, h.list⟩, rfl⟩
  split at hs
  · rename_i e; subst e
    cases hs; exact ⟨⟨⟨h.nums.1, hb, h.nums.2.2⟩, h.name, h.text, h.a, fun _ => hf, h.list⟩, rfl⟩
  · skip
    have e : f = 76 := by
      rcases h5 with e | e | e | e | e
      · exact absurd e (by assumption)
      · exact absurd e (by assumption)
      · exact absurd e (by assumption)
      · exact absurd e (by assumption)
      · exact e
    subst e
    cases hs
    refine ⟨⟨⟨h.nums.1, h.nums.2.1, ?_⟩, h.name, h.text, h.a, h.b, fun _ => hf⟩, rfl⟩
    intro x hx
    rcases List.mem_append.1 hx with hx | hx
    · exact h.nums.2.2 x hx
    · rw [List.mem_singleton.1 hx]; exact hb

theorem setAll_good : ∀ (ws fs : List _) (o o' : POp), Good o → (∀ f ∈ fs, f ∈ fieldsOf o.kind ∧ (f = 78 ∨ f = 84 ∨ f = 65 ∨ f = 66 ∨ f = 76)) → (fs.length < ws.length → 76 ∈ fieldsOf o.kind) → setAll o fs ws = .ok o' → Good o' ∧ o'.kind = o.kind
  | [], fs, o, o', h, _, _, hs => by
    cases fs <;> (simp only [setAll] at hs; cases hs; exact ⟨h, rfl⟩)
  | w :: ws, [], o, o', h, _, hL, hs => by
    simp only [setAll] at hs
    split at hs
    · rename_i o1 h1
      have hf := hL (by simp)
      obtain ⟨g, k⟩ := setF_good h hf (by simp) h1
      obtain ⟨g2, k2⟩ := setAll_good ws [] o1 o' g (by simp) (fun _ => by rw [k]; exact hf) hs
      exact ⟨g2, k2.trans k⟩
    · cases hs
  | w :: ws, f :: fs, o, o', h, hF, hL, hs => by
    simp only [setAll] at hs
    split at hs
    · rename_i o1 h1
      obtain ⟨hf, h5⟩ := hF f (by simp)
      obtain ⟨g, k⟩ := setF_good h hf h5 h1
      obtain ⟨g2, k2⟩ := setAll_good ws fs o1 o' g (fun x hx => by rw [k]; exact hF x (by simp [hx])) (fun hlt => by rw [k]; exact hL (by simp; exact hlt)) hs
      exact ⟨g2, k2.trans k⟩
    · cases hs

theorem fields_five {k : Int} (h : kindOk k) : ∀ f ∈ fieldsOf k, f = 78 ∨ f = 84 ∨ f = 65 ∨ f = 66 ∨ f = 76 := by
  obtain ⟨i, rfl⟩ := wordOf_nat h
  have : ∀ i : Fin 19, ∀ f ∈ fieldsOf ((i.val : Int) + 1), f = 78 ∨ f = 84 ∨ f = 65 ∨ f = 66 ∨ f = 76 := by decide +kernel
  exact this i

theorem plain_sub {fs : By} {f : UInt8} (h : f ∈ plain fs) : f ∈ fs := by
  unfold plain at h
  split at h
  · exact (List.dropLast_sublist fs).subset h
  · exact h

theorem stepOf_fault {ws : List By} {o : POp} (h : stepOf ws = .ok o) : faultOf o = 0 := by
  unfold stepOf at h
  split at h
  · cases h
  rename_i w r
  split at h
  · cases h
  rename_i hk
  split at h
  · cases h
  rename_i hl
  have hK := (kindOf_ok hk).1
  have hg : Good { POp.zero with kind := kindOf w } := ⟨⟨show bounded 0 by unfold bounded; decide, show bounded 0 by unfold bounded; decide, by simp [POp.zero]⟩, by simp [POp.zero], by simp [POp.zero], by simp [POp.zero], by simp [POp.zero], by simp [POp.zero]⟩
  obtain ⟨g, k⟩ := setAll_good r _ _ o hg (fun f hf => ⟨plain_sub hf, fields_five hK f (plain_sub hf)⟩) (fun hlt => by
    have : hasList (fieldsOf (kindOf w)) = true := by
      cases hh : hasList (fieldsOf (kindOf w)) with
      | true => rfl
      | false => exact absurd (Or.inr ⟨by rw [hh]; decide, hlt⟩) hl
    unfold hasList at this
    exact List.mem_of_getLast? (by simpa using this)) h
  have hko : kindOk o.kind := by rw [k]; exact hK
  unfold faultOf
  rw [if_neg (fun hn => hn hko), if_neg (by rw [g.spare]; decide), if_neg (fun hn => hn g.nums)]

/-- What may be in a step that was read from a text of at most n bytes. -/
structure Read (n : Nat) (o : POp) : Prop where
  fault : faultOf o = 0
  name : o.name.length ≤ n
  text : o.text.length ≤ n
  list : o.list.length ≤ n

theorem unescape_len {w t : By} (h : unescape w = some t) : t.length ≤ w.length := by
  have := (escape_len t).1
  rw [unescape_some h] at this; exact this

theorem setF_len {o o' : POp} {f : UInt8} {w : By} {n m : Nat} (h1 : o.name.length ≤ n) (h2 : o.text.length ≤ n) (h3 : o.list.length ≤ m) (hw : w.length ≤ n) (hs : setF o f w = .ok o') : o'.name.length ≤ n ∧ o'.text.length ≤ n ∧ o'.list.length ≤ m + 1 := by
  unfold setF at hs
  split at hs
  · split at hs
    · rename_i t ht; cases hs; exact ⟨Nat.le_trans (unescape_len ht) hw, h2, Nat.le_succ_of_le h3⟩
    · cases hs
  split at hs
  · split at hs
    · rename_i t ht; cases hs; exact ⟨h1, Nat.le_trans (unescape_len ht) hw, Nat.le_succ_of_le h3⟩
    · cases hs
  split at hs
  · cases hs
  split at hs
  · cases hs; exact ⟨h1, h2, Nat.le_succ_of_le h3⟩
  split at hs
  · cases hs; exact ⟨h1, h2, Nat.le_succ_of_le h3⟩
  · cases hs; exact ⟨h1, h2, by simp; exact h3⟩

theorem setAll_len : ∀ (ws : List By) (fs : By) (o o' : POp) (n m : Nat), o.name.length ≤ n → o.text.length ≤ n → o.list.length ≤ m → (∀ w ∈ ws, w.length ≤ n) → setAll o fs ws = .ok o' → o'.name.length ≤ n ∧ o'.text.length ≤ n ∧ o'.list.length ≤ m + ws.length
  | [], fs, o, o', n, m, h1, h2, h3, _, hs => by
    cases fs <;> (simp only [setAll] at hs; cases hs; exact ⟨h1, h2, h3⟩)
  | w :: ws, [], o, o', n, m, h1, h2, h3, hw, hs => by
    simp only [setAll] at hs
    split at hs
    · rename_i o1 ho
      obtain ⟨a1, a2, a3⟩ := setF_len h1 h2 h3 (hw w (by simp)) ho
      obtain ⟨b1, b2, b3⟩ := setAll_len ws [] o1 o' n (m + 1) a1 a2 a3 (fun x hx => hw x (by simp [hx])) hs
      exact ⟨b1, b2, by rw [List.length_cons]; omega⟩
    · cases hs
  | w :: ws, f :: fs, o, o', n, m, h1, h2, h3, hw, hs => by
    simp only [setAll] at hs
    split at hs
    · rename_i o1 ho
      obtain ⟨a1, a2, a3⟩ := setF_len h1 h2 h3 (hw w (by simp)) ho
      obtain ⟨b1, b2, b3⟩ := setAll_len ws fs o1 o' n (m + 1) a1 a2 a3 (fun x hx => hw x (by simp [hx])) hs
      exact ⟨b1, b2, by rw [List.length_cons]; omega⟩
    · cases hs

theorem flush_total (cur : By) : (flush cur).length + ((flush cur).map List.length).sum ≤ cur.length + 1 := by
  unfold flush
  split
  · simp
  · simp; omega

theorem flush_total' (cur : By) : (flush cur).length + ((flush cur).map List.length).sum ≤ 2 * cur.length := by
  unfold flush
  split
  · simp
  · rename_i h
    have : 0 < cur.length := List.length_pos_iff.2 h
    simp; omega

theorem wordsAux_total : ∀ (l cur : By), (wordsAux l cur).length + ((wordsAux l cur).map List.length).sum ≤ 2 * (l.length + cur.length)
  | [], cur => by simp only [wordsAux]; have := flush_total' cur; simpa using this
  | c :: l, cur => by
    simp only [wordsAux]
    split
    · have := flush_total' cur; simp only [List.length_cons]; omega
    split
    · have h1 := flush_total' cur
      have h2 := wordsAux_total l []
      simp only [List.length_append, List.map_append, List.sum_append, List.length_cons, List.length_nil] at h2 ⊢
      omega
    · have h2 := wordsAux_total l (cur ++ [c])
      simp only [List.length_append, List.length_cons, List.length_nil] at h2 ⊢
      omega

theorem sum_mem : ∀ (l : List By) (w : By), w ∈ l → w.length ≤ (l.map List.length).sum
  | x :: l, w, h => by
    rcases List.mem_cons.1 h with rfl | h
    · simp
    · have := sum_mem l w h; simp; omega

theorem wordsOf_len (l : By) : (wordsOf l).length ≤ 2 * l.length ∧ ∀ w ∈ wordsOf l, w.length ≤ 2 * l.length := by
  have h := wordsAux_total l []
  unfold wordsOf
  simp only [List.length_nil, Nat.add_zero] at h
  exact ⟨by omega, fun w hw => by have := sum_mem _ w hw; omega⟩

theorem stepOf_len {ws : List By} {o : POp} {n : Nat} (h : stepOf ws = .ok o) (hw : ∀ w ∈ ws, w.length ≤ n) (hn : ws.length ≤ n) : o.name.length ≤ n ∧ o.text.length ≤ n ∧ o.list.length ≤ n := by
  unfold stepOf at h
  split at h
  · cases h
  rename_i w r
  split at h
  · cases h
  split at h
  · cases h
  obtain ⟨a1, a2, a3⟩ := setAll_len r _ _ o n 0 (by simp [POp.zero]) (by simp [POp.zero]) (by simp [POp.zero]) (fun x hx => hw x (by simp [hx])) h
  rw [List.length_cons] at hn
  exact ⟨a1, a2, by omega⟩

/-- What stands in what has been read. -/
def StOk (n : Nat) : PSt → Prop
  | none => True
  | some s => bounded s.cap ∧ s.ops.length ≤ 2000 ∧ ∀ o ∈ s.ops, Read n o

theorem headOf_bounded {ws : List By} {c : Int} (h : headOf ws = .ok c) : bounded c := by
  unfold headOf at h
  split at h
  · cases h
  split at h
  · cases h
  split at h
  · split at h
    · rename_i n hn; cases h; exact (numR_iff.1 hn).2
    · cases h
  · cases h

theorem lineStep_st {n : Nat} {st st' : PSt} {l : By} (h : StOk n st) (hl : 2 * l.length ≤ n) (hs : lineStep st l = .ok st') : StOk n st' := by
  unfold lineStep at hs
  split at hs
  · cases hs; exact h
  split at hs
  · split at hs
    · rename_i c hc; cases hs; exact ⟨headOf_bounded hc, by simp, by simp⟩
    · cases hs
  · rename_i s
    split at hs
    · cases hs
    rename_i hne
    split at hs
    · rename_i o ho; cases hs
      obtain ⟨h1, h2, h3⟩ := h
      obtain ⟨w1, w2⟩ := wordsOf_len l
      refine ⟨h1, by rw [List.length_append, List.length_singleton]; omega, ?_⟩
      intro x hx
      rcases List.mem_append.1 hx with hx | hx
      · exact h3 x hx
      · rw [List.mem_singleton.1 hx]
        obtain ⟨a1, a2, a3⟩ := stepOf_len ho (fun w hw => Nat.le_trans (w2 w hw) hl) (Nat.le_trans w1 hl)
        exact ⟨stepOf_fault ho, a1, a2, a3⟩
    · cases hs

theorem parseL_st (n : Nat) (hh : ∀ {ws : List By} {c : Int}, headOf ws = .error c → (c != 0) = true) (hk : ∀ {ws : List By} {c : Int}, stepOf ws = .error c → (c != 0) = true) : ∀ (ls : List By) (st : PSt) (no : Nat), StOk n st → (∀ l ∈ ls, 2 * l.length ≤ n) →
    (∃ s, parseL st no ls = (s, 0, 0) ∧ StOk n (some s)) ∨ ∃ l c, parseL st no ls = (.zero, l, c) ∧ c ≠ 0
  | [], none, no, _, _ => Or.inr ⟨_, _, rfl, by decide⟩
  | [], some s, no, h, _ => Or.inl ⟨s, rfl, h⟩
  | l :: ls, st, no, h, hl => by
    cases hs : lineStep st l with
    | ok st' =>
      rw [parseL_okc hs]
      exact parseL_st n hh hk ls st' (no + 1) (lineStep_st h (hl l (by simp)) hs) (fun x hx => hl x (by simp [hx]))
    | error e => exact Or.inr ⟨_, _, parseL_errc hs, lineStep_code hh hk hs⟩

theorem linesOf_le : ∀ (t l : By), l ∈ linesOf t → l.length ≤ t.length
  | [], l, h => by simp [linesOf] at h; subst h; simp
  | c :: r, l, h => by
    simp only [linesOf] at h
    split at h
    · rcases List.mem_cons.1 h with rfl | h
      · simp
      · have := linesOf_le r l h; simp; omega
    · have ih := fun l => linesOf_le r l
      split at h
      · rw [List.mem_singleton.1 h]; simp
      · rename_i x xs hx
        rw [hx] at ih
        rcases List.mem_cons.1 h with rfl | h
        · have := ih x (by simp); simp; exact this
        · have := ih l (by simp [h]); simp; omega

/-- What is read of a text: no fault and a script that can be written, but for its length; or nothing. -/
theorem parse_st (t : By) (hh : ∀ {ws : List By} {c : Int}, headOf ws = .error c → (c != 0) = true) (hk : ∀ {ws : List By} {c : Int}, stepOf ws = .error c → (c != 0) = true) : (∃ s, parse t = (s, 0, 0) ∧ (∀ o ∈ s.ops, Read 2097152 o) ∧ ((print s = (body s, 0) ∧ parse (body s) = (s, 0, 0) ∧ (body s).length ≤ 1048576) ∨ print s = ([], 264))) ∨ ∃ l c, parse t = (.zero, l, c) ∧ c ≠ 0 := by
  have e : parse t = if 1048576 < t.length then (.zero, 0, 264) else parseL none 0 (linesOf t) := rfl
  by_cases ht : 1048576 < t.length
  · rw [if_pos ht] at e
    exact Or.inr ⟨_, _, e, by decide⟩
  rw [if_neg ht] at e
  rw [e]
  rcases parseL_st 2097152 hh hk (linesOf t) none 0 trivial (fun l hl => by have := linesOf_le t l hl; omega) with ⟨s, h1, h2, h3, h4⟩ | h
  · refine Or.inl ⟨s, h1, h4, ?_⟩
    have hf : faults s.ops = 0 := faults_of _ fun o ho => (h4 o ho).fault
    by_cases hb : 1048576 < (body s).length
    · right
      unfold print
      rw [if_neg (fun hn => hn h2), if_neg (by omega), if_neg (fun hn => hn hf), if_pos hb]
    · left
      refine ⟨?_, parse_body h2 h3 (faults_zero _ hf) (by omega), by omega⟩
      unfold print
      rw [if_neg (fun hn => hn h2), if_neg (by omega), if_neg (fun hn => hn hf), if_neg hb]
  · exact Or.inr h
end Go.Proofs.Sc
