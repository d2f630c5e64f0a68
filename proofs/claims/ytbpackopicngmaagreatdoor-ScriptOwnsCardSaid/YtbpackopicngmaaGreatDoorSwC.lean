/- Walks, part C: script.Unescape. -/
import Derived.Test.YtbpackopicngmaaGreatDoorSwB
namespace Go.Proofs.YtbpackopicngmaaGreatDoor
open Go.RowKit Go.Proofs.Sc

def BldF (B b : Nat) (l : List UInt8) (w : World) : Prop := Lib.IsBuilderF 87 5 B b (Lib.byteCells l) w

theorem dec_len : ∀ (n : Nat) (w t : By), w.length ≤ n → dec w = some t → t.length ≤ w.length
  | 0, w, t, hn, h => by
    have : w = [] := List.eq_nil_of_length_eq_zero (by omega)
    subst this; rw [dec_nil] at h; cases h; simp
  | n + 1, [], t, _, h => by rw [dec_nil] at h; cases h; simp
  | n + 1, c :: r, t, hn, h => by
    by_cases hc : c = 92
    · subst hc
      cases hu : unEsc (92 :: r) with
      | none => rw [dec_bad hu] at h; cases h
      | some p =>
        obtain ⟨x, r'⟩ := p
        have hl := unEsc_len hu
        rw [dec_esc hu] at h
        cases hd : dec r' with
        | none => rw [hd] at h; cases h
        | some t' =>
          rw [hd] at h; cases h
          have := dec_len n r' t' (by simp at hn hl; omega) hd
          simp at hl ⊢; omega
    · rw [dec_plain _ hc] at h
      cases hd : dec r with
      | none => rw [hd] at h; cases h
      | some t' =>
        rw [hd] at h; cases h
        have := dec_len n r t' (by simp at hn; omega) hd
        simp; omega

/-- What is under way in Unescape's loop: 'rest' is still to be read, 'acc' stands. -/
def UnRel (s : ByteArray) (b : Nat) (B : Nat) (w : World) (rest : By) (w' : World) : Prop :=
  ∃ acc : By, Bld B b acc w' ∧ Below B w w' ∧ dec s.data.toList = (dec rest).map (acc ++ ·) ∧ acc.length + rest.length ≤ s.size

def unRes (w : By) : Value := match unescape w with | some t => .tuple #[.string ⟨t.toArray⟩, .int .i64 0] | none => .tuple #[.string ⟨#[]⟩, .int .i64 265]

theorem unRes_some {w t : By} (h : unescape w = some t) : unRes w = .tuple #[.string ⟨t.toArray⟩, .int .i64 0] := by unfold unRes; rw [h]
theorem unRes_none {w : By} (h : unescape w = none) : unRes w = .tuple #[.string ⟨#[]⟩, .int .i64 265] := by unfold unRes; rw [h]

theorem below_drewN {B : Nat} (w : World) (n : Nat) : Below B w (w.drewN n) := ⟨rfl, rfl, rfl, Nat.le_refl _, fun _ _ => rfl⟩

theorem BuilderAtF_below {T e : TypeId} {B b : Nat} {p : Value} {bs : List Value} {w w' : World} (h : Lib.BuilderAtF T e B b p bs w) (hb : Below w.heap.size w w') : Lib.BuilderAtF T e B b p bs w' := by
  obtain ⟨hB, v, hbk, hown, hne⟩ := h
  have hlt : b < w.heap.size := (Array.getElem?_eq_some_iff.1 hbk).1
  exact ⟨hB, v, (hb.block b hlt).trans hbk, hown.kept (row := none) ⟨hb.os, hb.tape, hb.output, hb.size, fun i hi _ => hb.block i hi⟩ (by rcases hv : v.ownBlock with _ | k; exact Or.inl rfl; exact Or.inr (by simp)), hne⟩

theorem BldF.below {B b : Nat} {l : List UInt8} {w w' : World} (h : BldF B b l w) (hb : Below w.heap.size w w') : BldF B b l w' := by
  rcases h with h | h
  · exact Or.inl (BuilderAtF_below h hb)
  · exact Or.inr (BuilderAtF_below h hb)

def strSize : Value → Nat | .string t => t.size | _ => 0
theorem strSize_lt {a b : ByteArray} (h : a.size < b.size) : strSize (.string a) < strSize (.string b) := h
theorem mk_size (l : List UInt8) : (⟨l.toArray⟩ : ByteArray).size = l.length := by rw [size_list]

set_option maxHeartbeats 2000000 in
theorem Unescape_any (s : ByteArray) (w : World) (hs : s.size ≤ 33554432) :
    Calls Tryz.prog 19 #[.string s] w fun e w' => e = .returned (unRes s.data.toList) ∧ Below w.heap.size w w' := by
  by_cases h0 : s.data.toList = [45]
  · rw [unRes_some (t := []) (by rw [h0]; rfl)]
    obtain rfl := byteEq h0
    go_enter Tryz.func19, Tryz.ntmps19
    go_wp2_with fail
    go_ret2
    exact ⟨rfl, Below.refl _ _⟩
  have e1 : (s.toList == [45]) = false := by rw [Lib.toList_data]; simpa using h0
  go_enter Tryz.func19, Tryz.ntmps19
  go_wp2_with fail
  go_loopw [5] (fun v w' => ∃ rs : ByteArray, v = .string rs ∧ UnRel s w.heap.size w.heap.size w rs.data.toList w') (fun v _ => strSize v)
  case atStart => exact ⟨s, rfl, [], Bld.fresh w, (Below.refl _ _).alloc (Nat.le_refl _) _, by simp, by rw [size_list]; exact Nat.le_of_eq (Nat.zero_add _)⟩
  case round =>
    obtain ⟨rs, rfl, acc, hB, hW, hdec, hlen⟩ := hrel
    have hrs := size_list rs
    have HDEC := Lib.hid hdec
    clear hdec
    by_cases hz : rs.size = 0
    · have hr0 : rs.data.toList = [] := List.eq_nil_of_length_eq_zero (by omega)
      obtain rfl := byteEq hr0
      have HD := Lib.hid (show dec s.data.toList = some acc by rw [HDEC.out, dec_nil]; simp)
      clear hrs hr0 hz HDEC
      have hla : acc.length ≤ 33554432 := by simp at hlen; omega
      clear hlen
      by_cases he : escape acc = s.data.toList
      · have HR := Lib.hid (show unRes s.data.toList = .tuple #[.string ⟨acc.toArray⟩, .int .i64 0] from unRes_some (by
          unfold unescape; rw [if_neg h0, HD.out]; simp [he]))
        have HN : (escape acc == s.toList) = true := by rw [Lib.toList_data, ← he]; simp
        clear he HD
        go_wp2_with fail
        refine (Tryz.Builder_String_any_f _ _ acc _ (Lib.IsBuilderF.of hB) hW.size).mono ?_
        rintro e w1 ⟨rfl, hB1, hW1⟩
        go_wp2_with fail
        refine (escape_any _ _ (by simp [ByteArray.size]; omega)).mono ?_
        rintro e w2 ⟨rfl, hW2⟩
        go_wp2_with fail
        refine (Tryz.Builder_String_any_f _ _ acc _ (BldF.below hB1 hW2) (Nat.le_trans (hW.trans hW1).size hW2.size)).mono ?_
        rintro e w3 ⟨rfl, _, hW3⟩
        go_wp2_with fail
        go_ret2
        exact ⟨ret_val HR.out.symm, ((hW.trans hW1).trans (hW2.mono (hW.trans hW1).size)).trans hW3⟩
      · have HR := Lib.hid (show unRes s.data.toList = .tuple #[.string ⟨#[]⟩, .int .i64 265] from unRes_none (by
          unfold unescape; rw [if_neg h0, HD.out]; simp [he]))
        have HN : (escape acc == s.toList) = false := by rw [Lib.toList_data]; simpa using he
        clear he HD
        go_wp2_with fail
        refine (Tryz.Builder_String_any_f _ _ acc _ (Lib.IsBuilderF.of hB) hW.size).mono ?_
        rintro e w1 ⟨rfl, hB1, hW1⟩
        go_wp2_with fail
        refine (escape_any _ _ (by simp [ByteArray.size]; omega)).mono ?_
        rintro e w2 ⟨rfl, hW2⟩
        go_wp2_with fail
        go_ret2
        exact ⟨ret_val HR.out.symm, (hW.trans hW1).trans (hW2.mono (hW.trans hW1).size)⟩
    · have hz' : (0 : Int) < (rs.size : Int) := by omega
      have e2 : rs.toList.isEmpty = false := by rw [Lib.toList_data, List.isEmpty_eq_false_iff]; intro e; rw [e] at hrs; exact hz hrs
      obtain ⟨c, r, hcr⟩ : ∃ c r, rs.data.toList = c :: r := by
        match h : rs.data.toList with
        | [] => rw [h] at hrs; exact absurd hrs hz
        | c :: r => exact ⟨c, r, rfl⟩
      have h0c : ∀ h : 0 < rs.size, rs[0]'h = c := fun h => list_at rs 0 c (by rw [hcr]; rfl) h
      have hex : rs.extract 1 rs.size = ⟨r.toArray⟩ := by apply byteEq; rw [Lib.extract_data, hcr]; simp [hrs, hcr]
      have HEX := Lib.hid hex
      have HCR := Lib.hid hcr
      have H0C := Lib.hid h0c
      have HRS := Lib.hid hrs
      clear hex hcr h0c hrs hz
      have hl : acc.length + 1 ≤ 33554432 := by have := HRS.out; rw [HCR.out] at hlen; simp at hlen; omega
      by_cases hc : c = 92
      · have hn : (((rs[0]'(by omega)).toNat : Int) != 92) = false := by rw [H0C.out]; subst hc; rfl
        subst hc
        have hrl : rs.size ≤ 33554432 := by have := HRS.out; omega
        cases hu : unEsc (92 :: r) with
        | none =>
          have HR := Lib.hid (show unRes s.data.toList = .tuple #[.string ⟨#[]⟩, .int .i64 265] from unRes_none (by
            unfold unescape; rw [if_neg h0, HDEC.out, HCR.out, dec_bad hu]; rfl))
          have HU := Lib.hid ((congrArg unTuple HCR.out).trans (unTuple_none hu))
          clear hu
          go_wp2_with fail
          refine (unescape_any _ rs hrl).mono ?_
          rw [HU.out]
          rintro e w1 ⟨rfl, n1, rfl⟩
          go_wp2_with fail
          go_ret2
          exact ⟨ret_val HR.out.symm, hW.trans (below_drewN _ _)⟩
        | some p =>
          obtain ⟨x, r'⟩ := p
          have hl' := unEsc_len hu
          have HD := Lib.hid (show dec s.data.toList = (dec r').map (acc ++ [x] ++ ·) by rw [HDEC.out, HCR.out, dec_esc hu]; cases dec r' <;> simp)
          have HU := Lib.hid ((congrArg unTuple HCR.out).trans (unTuple_some hu))
          clear hu HDEC
          go_wp2_with fail
          refine (unescape_any _ rs hrl).mono ?_
          rw [HU.out]
          rintro e w1 ⟨rfl, n1, rfl⟩
          go_wp2_with fail
          refine (wb_any w.heap.size w.heap.size acc x _ rfl _ (Bld.below hB (below_drewN _ _)) (by omega) hW.size).mono ?_
          rintro e w1 ⟨rfl, hB1, hW1⟩
          go_wp2_with fail
          go_roundw
          case rel => exact ⟨⟨r'.toArray⟩, rfl, acc ++ [x], hB1, (hW.trans (below_drewN _ n1)).trans hW1, HD.out, by rw [HCR.out] at hlen; simp at hlen hl' ⊢; omega⟩
          case measure => exact strSize_lt (by have := HRS.out; rw [HCR.out] at this; rw [mk_size]; simp at hl' this; omega)
      · have hn : (((rs[0]'(by omega)).toNat : Int) != 92) = true := by rw [H0C.out]; exact congrArg Bool.not (toNat_ne (d := 92) hc)
        go_wp2_with fail
        refine (wb_any w.heap.size w.heap.size acc c _ (by rw [H0C.out]) _ hB (by omega) hW.size).mono ?_
        rintro e w1 ⟨rfl, hB1, hW1⟩
        go_wp2_with fail
        go_roundw
        case rel => exact ⟨rs.extract 1 rs.size, rfl, acc ++ [c], hB1, hW.trans hW1, by rw [HDEC.out, HEX.out, HCR.out, dec_plain r hc]; cases dec r <;> simp, by rw [HEX.out]; rw [HCR.out] at hlen; simp at hlen ⊢; omega⟩
        case measure => exact strSize_lt (by have := HRS.out; rw [HCR.out] at this; rw [HEX.out, mk_size]; simp at this; omega)
end Go.Proofs.YtbpackopicngmaaGreatDoor
