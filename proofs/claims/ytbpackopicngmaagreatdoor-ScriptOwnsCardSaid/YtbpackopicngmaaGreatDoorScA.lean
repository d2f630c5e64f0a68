/- Plain mathematics for the chapter on scripts, part A: bytes as a word and back (escape, unescape). No program here. -/
namespace Go.Proofs.Sc

abbrev By := List UInt8

def hexd (n : Nat) : UInt8 := if n < 10 then UInt8.ofNat (48 + n) else UInt8.ofNat (87 + n)

def escOne (c : UInt8) : By :=
  if c = 10 then [92, 110] else if c = 9 then [92, 116] else if c = 32 then [92, 115] else if c = 35 then [92, 104] else if c = 92 then [92, 92]
  else if 33 ≤ c.toNat ∧ c.toNat ≤ 126 then [c] else [92, 120, hexd (c.toNat / 16), hexd (c.toNat % 16)]

def escBody (b : By) : By := b.flatMap escOne

def escape (b : By) : By := if b = [] then [45] else if b = [45] then [92, 120, 50, 100] else escBody b

def digv (c : UInt8) : Option Nat :=
  if 97 ≤ c.toNat ∧ c.toNat ≤ 102 then some (c.toNat - 87) else if 48 ≤ c.toNat ∧ c.toNat ≤ 57 then some (c.toNat - 48) else none

/-- What an escape at the beginning of a text says, and what follows. -/
def unEsc : By → Option (UInt8 × By)
  | _ :: c :: r =>
    if c = 110 then some (10, r) else if c = 116 then some (9, r) else if c = 115 then some (32, r) else if c = 104 then some (35, r)
    else if c = 120 then
      match r with
      | h :: l :: r' =>
        match digv h, digv l with
        | some x, some y => some (UInt8.ofNat (x * 16 + y), r')
        | _, _ => none
      | _ => none
    else if c = 92 then some (92, r) else none
  | _ => none

theorem unEsc_len {w r : By} {c : UInt8} (h : unEsc w = some (c, r)) : r.length < w.length := by
  match w, h with
  | a :: b :: r0, h =>
    simp only [unEsc] at h
    repeat' split at h
    all_goals first | (simp only [Option.some.injEq, Prod.mk.injEq] at h; obtain ⟨_, rfl⟩ := h; simp; try omega) | cases h

/-- A word read, byte for byte. -/
def dec (w : By) : Option By :=
  match w with
  | [] => some []
  | c :: r =>
    if c ≠ 92 then (dec r).map (c :: ·)
    else match h : unEsc (c :: r) with
      | none => none
      | some p => have _h := unEsc_len (c := p.1) h; (dec p.2).map (p.1 :: ·)
termination_by w.length
decreasing_by
  · simp
  · assumption

theorem dec_nil : dec [] = some [] := by rw [dec]
theorem dec_plain {c : UInt8} (r : By) (h : c ≠ 92) : dec (c :: r) = (dec r).map (c :: ·) := by rw [dec, if_pos h]
theorem dec_bad {r : By} (h : unEsc (92 :: r) = none) : dec (92 :: r) = none := by
  rw [dec, if_neg (by decide)]; split
  · rfl
  · rename_i p hp; rw [h] at hp; cases hp
theorem dec_esc {r r' : By} {x : UInt8} (h : unEsc (92 :: r) = some (x, r')) : dec (92 :: r) = (dec r').map (x :: ·) := by
  rw [dec, if_neg (by decide)]; split
  · rename_i hp; rw [h] at hp; cases hp
  · rename_i p hp; rw [h] at hp; cases hp; rfl

theorem digv_hexd : ∀ n : Fin 16, digv (hexd n.val) = some n.val := by decide +kernel

theorem dec_escOne (c : UInt8) (r : By) : dec (escOne c ++ r) = (dec r).map (c :: ·) := by
  unfold escOne
  split
  · rename_i h; subst h; exact dec_esc (by simp [unEsc])
  split
  · rename_i h; subst h; exact dec_esc (by simp [unEsc])
  split
  · rename_i h; subst h; exact dec_esc (by simp [unEsc])
  split
  · rename_i h; subst h; exact dec_esc (by simp [unEsc])
  split
  · rename_i h; subst h; exact dec_esc (by simp [unEsc])
  split
  · rename_i h _; exact dec_plain r h
  · have h1 := digv_hexd ⟨c.toNat / 16, by have := UInt8.toNat_lt c; omega⟩
    have h2 := digv_hexd ⟨c.toNat % 16, by omega⟩
    simp only at h1 h2
    refine dec_esc (x := c) (r' := r) ?_
    have h3 : UInt8.ofNat (c.toNat / 16 * 16 + c.toNat % 16) = c := by
      rw [show c.toNat / 16 * 16 + c.toNat % 16 = c.toNat by omega]; simp
    show unEsc (92 :: 120 :: hexd (c.toNat / 16) :: hexd (c.toNat % 16) :: r) = some (c, r)
    simp [unEsc, h1, h2, -UInt8.ofNat_add, -UInt8.ofNat_mul]
    exact h3

theorem dec_body (b r : By) : dec (escBody b ++ r) = (dec r).map (b ++ ·) := by
  induction b with
  | nil => simp [escBody]
  | cons c b ih =>
    have : escBody (c :: b) = escOne c ++ escBody b := by simp [escBody]
    rw [this, List.append_assoc, dec_escOne, ih]
    cases dec r <;> simp

theorem dec_escBody (b : By) : dec (escBody b) = some b := by
  have := dec_body b []
  simpa [dec_nil] using this

/-- The bytes whose word is just that. -/
def unescape (w : By) : Option By :=
  if w = [45] then some [] else match dec w with
    | none => none
    | some t => if escape t = w then some t else none

theorem dec_dash : dec [45] = some [45] := by rw [dec_plain _ (by decide), dec_nil]; rfl

theorem unescape_escape (b : By) : unescape (escape b) = some b := by
  unfold escape
  split
  · rename_i h; subst h; rfl
  split
  · rename_i h; subst h
    have : dec [92, 120, 50, 100] = some [45] := by
      rw [dec_esc (x := 45) (r' := []) (by decide), dec_nil]; rfl
    unfold unescape
    rw [if_neg (by decide), this]
    rfl
  · rename_i h0 h1
    unfold unescape
    have hd := dec_escBody b
    rw [if_neg, hd]
    · show (if escape b = escBody b then _ else _) = _
      rw [if_pos]; unfold escape; rw [if_neg h0, if_neg h1]
    · intro he; rw [he, dec_dash] at hd; exact h1 (Option.some.inj hd).symm

theorem unescape_some {w t : By} (h : unescape w = some t) : escape t = w := by
  unfold unescape at h
  split at h
  · rename_i hw; cases h; rw [hw]; rfl
  · split at h
    · cases h
    · split at h
      · rename_i he; cases h; exact he
      · cases h

theorem unescape_iff (w t : By) : unescape w = some t ↔ escape t = w :=
  ⟨unescape_some, fun h => h ▸ unescape_escape t⟩

theorem unescape_none {w : By} (h : unescape w = none) (t : By) : escape t ≠ w := by
  intro he; rw [← he, unescape_escape] at h; cases h

theorem escape_inj {a b : By} (h : escape a = escape b) : a = b := by
  have := unescape_escape a; rw [h, unescape_escape] at this; exact (Option.some.inj this).symm

/-- A byte that a word of escaped bytes may have. -/
def wordByte (c : UInt8) : Prop := 33 ≤ c.toNat ∧ c.toNat ≤ 126 ∧ c ≠ 35

theorem hexd_ok : ∀ n : Fin 16, 33 ≤ (hexd n.val).toNat ∧ (hexd n.val).toNat ≤ 126 ∧ hexd n.val ≠ 35 := by decide +kernel

theorem escOne_ok (c x : UInt8) (h : x ∈ escOne c) : wordByte x := by
  have h1 := hexd_ok ⟨c.toNat / 16, by have := UInt8.toNat_lt c; omega⟩
  have h2 := hexd_ok ⟨c.toNat % 16, by omega⟩
  simp only at h1 h2
  unfold escOne at h
  repeat' split at h
  all_goals simp only [List.mem_cons, List.not_mem_nil, or_false] at h
  all_goals first
    | (rcases h with rfl | rfl | rfl | rfl <;> first | exact h1 | exact h2 | (unfold wordByte; decide))
    | (rcases h with rfl | rfl <;> (unfold wordByte; decide))
    | (subst h; exact ⟨by omega, by omega, by assumption⟩)

theorem escOne_ne (c : UInt8) : escOne c ≠ [] := by
  unfold escOne; repeat' split
  all_goals simp

theorem escape_ok (b : By) (x : UInt8) (h : x ∈ escape b) : wordByte x := by
  unfold escape at h
  split at h
  · simp at h; subst h; unfold wordByte; decide
  split at h
  · simp only [List.mem_cons, List.not_mem_nil, or_false] at h
    rcases h with rfl | rfl | rfl | rfl <;> (unfold wordByte; decide)
  · simp only [escBody, List.mem_flatMap] at h
    obtain ⟨c, _, hc⟩ := h
    exact escOne_ok c x hc

theorem escOne_len (c : UInt8) : 1 ≤ (escOne c).length ∧ (escOne c).length ≤ 4 := by
  unfold escOne; repeat' split
  all_goals simp

theorem escBody_len (b : By) : b.length ≤ (escBody b).length ∧ (escBody b).length ≤ 4 * b.length := by
  induction b with
  | nil => simp [escBody]
  | cons c b ih =>
    have e : escBody (c :: b) = escOne c ++ escBody b := by simp [escBody]
    have := escOne_len c
    rw [e]; simp; omega

theorem escape_len (b : By) : b.length ≤ (escape b).length ∧ 1 ≤ (escape b).length ∧ (escape b).length ≤ 4 * b.length + 4 := by
  unfold escape
  split
  · rename_i h; subst h; simp
  split
  · rename_i h; subst h; simp
  · rename_i h _
    have := escBody_len b
    cases b with
    | nil => exact absurd rfl h
    | cons c b => simp at this ⊢; omega

theorem escape_ne (b : By) : escape b ≠ [] := by
  intro h; have := escape_len b; rw [h] at this; simp at this

end Go.Proofs.Sc
