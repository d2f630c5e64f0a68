/- The document's first line. -/
import Derived.Test.YtbpackopicngmaaGreatDoorRfNum
import Derived.Test.YtbpackopicngmaaGreatDoorSwN
import Derived.Test.YtbpackopicngmaaGreatDoorPrR
namespace Go.Proofs.YtbpackopicngmaaGreatDoor
open Go.RowKit Go.Proofs.Sc Go.Proofs.YtbpackopicngmaaGreatDoorW.PrintWords

theorem extract_by (l : By) (f i : Nat) : (⟨l.toArray⟩ : ByteArray).extract f i = ⟨((l.drop f).take (i - f)).toArray⟩ := by
  apply byteEq
  rw [Lib.extract_data]

def mkB (l : By) : ByteArray := ⟨l.toArray⟩

/-- The word that is under way at i. -/
def Way (l : By) (i : Nat) (fr : Int) (cur : By) : Prop := (fr = -1 ∧ cur = []) ∨ ∃ f : Nat, fr = (f : Int) ∧ f < i ∧ cur = (l.drop f).take (i - f)

theorem Way.more {l : By} {i : Nat} {fr : Int} {cur : By} {c : UInt8} (h : Way l i fr cur) (hc : l[i]? = some c) : Way l (i + 1) (if fr < 0 then (i : Int) else fr) (cur ++ [c]) := by
  rcases h with ⟨rfl, rfl⟩ | ⟨f, rfl, hf, rfl⟩
  · rw [if_pos (by decide)]
    refine Or.inr ⟨i, rfl, by omega, ?_⟩
    rw [show i + 1 - i = 0 + 1 by omega, List.take_add_one, List.getElem?_drop, Nat.add_zero, hc]; rfl
  · rw [if_neg (by omega)]
    refine Or.inr ⟨f, rfl, by omega, ?_⟩
    rw [show i + 1 - f = (i - f) + 1 by omega, List.take_add_one, List.getElem?_drop, show f + (i - f) = i by omega, hc]; rfl

/-- Behind the third test. -/
theorem words_j3 (l : By) (k i : Nat) (fr : Int) (cur : By) (acc : List ByteArray) (x6 : Bool) (hi : i ≤ l.length) (hacc : acc.length ≤ 33554432) (hw : Way l i fr cur) :
    PrR.pithref26_words.j3 (k + 1) (mkB l) acc fr (i : Int) x6 true (decide (fr ≥ 0)) = PrR.pithref26_words.j4 k (mkB l) (acc ++ (flush cur).map mkB) (-1) (i : Int) x6 true := by
  have hsz : (mkB l).size = l.length := mk_size l
  rcases hw with ⟨rfl, rfl⟩ | ⟨f, rfl, hf, rfl⟩
  · simp only [PrR.pithref26_words.j3]
    rw [if_neg (by decide)]; simp [flush]
  · have hne : (l.drop f).take (i - f) ≠ [] := by
      intro e; have := congrArg List.length e; rw [List.length_take, List.length_drop] at this; simp at this; omega
    simp only [PrR.pithref26_words.j3]
    rw [if_pos (by simp), if_pos (by omega), if_pos (by omega), if_pos (by rw [hsz]; omega), if_pos (by omega), flush_ne hne, Int.toNat_natCast, Int.toNat_natCast, show (mkB l).extract f i = _ from extract_by l f i]
    rfl

theorem words_l0 (l : By) (hs : l.length ≤ 33554432) : ∀ (d k i : Nat) (fr : Int) (cur : By) (acc : List ByteArray), i + d = l.length → 6 * (d + 1) ≤ k → acc.length ≤ i → Way l i fr cur →
    PrR.pithref26_words.l0 k (mkB l) acc fr (i : Int) = some (acc ++ (wordsAux (l.drop i) cur).map mkB)
  | 0, k, i, fr, cur, acc, hi, hk, ha, hw => by
    obtain ⟨k, rfl⟩ : ∃ q, k = q + 6 := ⟨k - 6, by omega⟩
    have hsz : (mkB l).size = l.length := mk_size l
    simp only [PrR.pithref26_words.l0]
    rw [if_pos (by rw [hsz]; omega), if_pos (by rw [hsz]; omega)]
    simp only [PrR.pithref26_words.j1, if_true, PrR.pithref26_words.j2]
    rw [words_j3 l (k + 2) i fr cur acc true (by omega) (by omega) hw]
    simp only [PrR.pithref26_words.j4, if_true, PrR.pithref26_words.j5, Bool.false_eq_true, if_false]
    rw [List.drop_of_length_le (by omega)]
    rfl
  | d + 1, k, i, fr, cur, acc, hi, hk, ha, hw => by
    obtain ⟨k, rfl⟩ : ∃ q, k = q + 6 := ⟨k - 6, by omega⟩
    have hsz : (mkB l).size = l.length := mk_size l
    obtain ⟨c, hc⟩ : ∃ c, l[i]? = some c := ⟨l[i]'(by omega), List.getElem?_eq_getElem _⟩
    have hb : bt (mkB l) (i : Int) = (c.toNat : Int) := by
      have hi2 : (i : Int).toNat < (mkB l).size := by rw [hsz]; omega
      unfold bt
      rw [dif_pos hi2]
      have hps : i < (⟨l.toArray⟩ : ByteArray).size := by rw [mk_size]; omega
      have := list_at _ i c hc hps
      simp only [Int.toNat_natCast]
      unfold mkB
      rw [this]
    have hdl : l.drop i = c :: l.drop (i + 1) := Lib.drop_at hc
    have hn32 : (c.toNat : Int) = 32 ↔ c = 32 := ⟨fun e => UInt8.toNat_inj.1 (by have : (32 : UInt8).toNat = 32 := rfl; omega), fun e => by subst e; rfl⟩
    have hn9 : (c.toNat : Int) = 9 ↔ c = 9 := ⟨fun e => UInt8.toNat_inj.1 (by have : (9 : UInt8).toNat = 9 := rfl; omega), fun e => by subst e; rfl⟩
    have hn35 : (c.toNat : Int) = 35 ↔ c = 35 := ⟨fun e => UInt8.toNat_inj.1 (by have : (35 : UInt8).toNat = 35 := rfl; omega), fun e => by subst e; rfl⟩
    simp only [PrR.pithref26_words.l0]
    rw [if_pos (by rw [hsz]; omega), if_neg (by rw [hsz]; omega), if_pos (by omega), if_pos (by rw [hsz]; omega), hb, hdl]
    simp only [wordsAux]
    by_cases h35 : c = 35
    · rw [if_pos h35, show ((c.toNat : Int) == 35) = true by rw [h35]; rfl]
      simp only [PrR.pithref26_words.j1, if_true, PrR.pithref26_words.j2]
      rw [words_j3 l (k + 2) i fr cur acc true (by omega) (by omega) hw]
      simp only [PrR.pithref26_words.j4, if_true, PrR.pithref26_words.j5, Bool.false_eq_true, if_false]
    · rw [if_neg h35, show ((c.toNat : Int) == 35) = false by rw [beq_eq_false_iff_ne]; intro e; exact h35 (hn35.1 e)]
      simp only [PrR.pithref26_words.j1, Bool.false_eq_true, if_false]
      rw [if_pos (by omega), if_pos (by rw [hsz]; omega), hb]
      by_cases hbl : isBlank c
      · rw [if_pos hbl]
        have step : PrR.pithref26_words.j3 (k + 3) (mkB l) acc fr (i : Int) false true (decide (fr ≥ 0)) = some (acc ++ (flush cur ++ wordsAux (l.drop (i + 1)) []).map mkB) := by
          rw [words_j3 l (k + 2) i fr cur acc false (by omega) (by omega) hw]
          simp only [PrR.pithref26_words.j4, if_true, PrR.pithref26_words.j5, Bool.false_eq_true, if_false]
          rw [wrap_nat i (by omega)]
          have hfl : (flush cur).length ≤ 1 := by unfold flush; split <;> simp
          rw [words_l0 l hs d k (i + 1) (-1) [] _ (by omega) (by omega) (by simp; omega) (Or.inl ⟨rfl, rfl⟩)]
          simp
        by_cases h32 : c = 32
        · rw [if_pos (hn32.2 h32)]
          simp only [PrR.pithref26_words.j2, if_true]
          exact step
        · have h9 : c = 9 := by rcases hbl with h | h; exact absurd h h32; exact h
          rw [if_neg (fun e => h32 (hn32.1 e)), show ((c.toNat : Int) == 9) = true by rw [h9]; rfl]
          simp only [PrR.pithref26_words.j2, if_true]
          exact step
      · rw [if_neg hbl]
        have h32 : c ≠ 32 := fun e => hbl (Or.inl e)
        have h9 : c ≠ 9 := fun e => hbl (Or.inr e)
        rw [if_neg (fun e => h32 (hn32.1 e)), show ((c.toNat : Int) == 9) = false by rw [beq_eq_false_iff_ne]; intro e; exact h9 (hn9.1 e)]
        simp only [PrR.pithref26_words.j2, PrR.pithref26_words.j3, PrR.pithref26_words.j4, PrR.pithref26_words.j5, Bool.false_eq_true, if_false]
        have hm := hw.more hc
        rw [wrap_nat i (by omega)]
        by_cases hfr : fr < 0
        · rw [if_pos hfr] at hm
          rw [if_pos (decide_eq_true hfr)]
          exact words_l0 l hs d k (i + 1) _ _ acc (by omega) (by omega) (by omega) hm
        · rw [if_neg hfr] at hm
          rw [if_neg (by simpa using hfr)]
          exact words_l0 l hs d k (i + 1) _ _ acc (by omega) (by omega) (by omega) hm

theorem refWords_any (l : By) (hs : l.length ≤ 33554432) (w : World) : Calls Tryz.prog 26 #[.string (mkB l)] w fun e w' => ∃ v, e = .returned v ∧ Kd.R Kd.string 9 w' w.heap.size (fun _ => True) v ((wordsOf l).map mkB) ∧ Below w.heap.size w w' :=
  PrR.pithref26_words.calls (6 * (l.length + 1)) (mkB l) _ w (by
    unfold PrR.pithref26_words.f
    exact words_l0 l hs l.length _ 0 (-1) [] [] (by omega) (Nat.le_refl _) (Nat.zero_le _) (Or.inl ⟨rfl, rfl⟩))
theorem refNumber_bad (s : ByteArray) (hs : s.size ≤ 33554432) (h : numR s.data.toList = none) (w : World) :
    Calls Tryz.prog 59 #[.string s] w fun e w' => (∃ v, e = .returned (.tuple #[.int .i64 v, .bool false])) ∧ Below w.heap.size w w' := by
  refine (refNumber_any s w hs).mono ?_
  rintro e w' ⟨⟨v, b, rfl, hr⟩, rfl⟩
  rcases hr with ⟨rfl, hn⟩ | ⟨rfl, _⟩
  · rw [h] at hn; cases hn
  · exact ⟨⟨v, rfl⟩, Below.refl _ _⟩

theorem refNumber_ok (s : ByteArray) (hs : s.size ≤ 33554432) (v : Int) (h : numR s.data.toList = some v) (w : World) :
    Calls Tryz.prog 59 #[.string s] w fun e w' => e = .returned (.tuple #[.int .i64 v, .bool true]) ∧ Below w.heap.size w w' := by
  refine (refNumber_any s w hs).mono ?_
  rintro e w' ⟨⟨v', b, rfl, hr⟩, rfl⟩
  rcases hr with ⟨rfl, hn⟩ | ⟨rfl, hn⟩
  · rw [h] at hn; cases hn; exact ⟨rfl, Below.refl _ _⟩
  · rw [h] at hn; cases hn

theorem refNumber_fail (s : ByteArray) (hs : s.size ≤ 33554432) (h : numR s.data.toList = none) (w : World) :
    Calls Tryz.prog 59 #[.string s] w fun e w' => (∃ v, e = .returned (.tuple #[.int .i64 v, .bool false])) ∧ w = w' := by
  refine (refNumber_any s w hs).mono ?_
  rintro e w' ⟨⟨v, b, rfl, hr⟩, rfl⟩
  rcases hr with ⟨rfl, hn⟩ | ⟨rfl, _⟩
  · rw [h] at hn; cases hn
  · exact ⟨⟨v, rfl⟩, rfl⟩

theorem refNumber_good (s : ByteArray) (hs : s.size ≤ 33554432) (v : Int) (h : numR s.data.toList = some v) (w : World) :
    Calls Tryz.prog 59 #[.string s] w fun e w' => e = .returned (.tuple #[.int .i64 v, .bool true]) ∧ w = w' := by
  refine (refNumber_any s w hs).mono ?_
  rintro e w' ⟨⟨v', b, rfl, hr⟩, rfl⟩
  rcases hr with ⟨rfl, hn⟩ | ⟨rfl, hn⟩
  · rw [h] at hn; cases hn; exact ⟨rfl, rfl⟩
  · rw [h] at hn; cases hn

/-- Words as the document's words() hands them out. -/
theorem words_of_R {w : World} {base : Nat} {v : Value} {ws : List By} (h : Kd.R Kd.string 9 w base (fun _ => True) v (ws.map mkB)) (hne : ws ≠ []) : Words w.heap.size w v ws := by
  have hpos : 0 < (ws.map mkB).length := by rw [List.length_map]; exact List.length_pos_iff.2 hne
  obtain ⟨g, c, rfl, _, hg, _⟩ := Kd.R_form h hpos
  obtain ⟨A, c', hv, hlc, hC⟩ := Kd.R_reads h
  obtain ⟨rfl, rfl⟩ : A = some ⟨g, 0, none⟩ ∧ c' = c := by cases hv; exact ⟨rfl, rfl⟩
  have hmx : c' ≤ 9223372036854775807 := by
    obtain ⟨inner, ho⟩ := Kd.R_own h
    have hml : maxLen ≤ 9223372036854775807 := by decide
    rcases ho.2 with ⟨e, _⟩ | ⟨g', cap, cur, e, _, _, _, hm, _⟩
    · cases e
    · cases e; omega
  refine ⟨g, c', by rw [List.length_map], hg, by rw [List.length_map] at hlc; exact hlc, hmx, fun j x hx => ?_⟩
  have hj : j < (ws.map mkB).length := by rw [List.length_map]; exact (List.getElem?_eq_some_iff.1 hx).1
  obtain ⟨ad, hAd, hcell⟩ := Kd.at_string hC (j : Int) (by omega) (by omega)
  obtain rfl := Option.some.inj hAd
  rw [Int.toNat_natCast, add_plain] at hcell
  rw [hcell]
  simp [rdOf, List.getElem?_map, hx, mkB]

set_option maxHeartbeats 1000000 in
theorem refHead_any (ws : List By) (hne : ws ≠ []) (hsz : ∀ x ∈ ws, x.length ≤ 33554432) (v : Value) (w : World) {B' : Nat} (hv : Words B' w v ws) :
    Calls Tryz.prog 27 #[v] w fun e w' => e = .returned (headRes ws) ∧ Below w.heap.size w w' := by
  obtain ⟨g, c, rfl, hg, hc1, hc2, hcell⟩ := hv
  match ws, hne with
  | x :: r, _ =>
    have c0 := hcell 0 x rfl
    have hx := hsz x (by simp)
    obtain ⟨n, hn⟩ : ∃ n, n = (x :: r).length := ⟨_, rfl⟩
    rw [← hn] at hc1 ⊢
    have hn1 : 1 ≤ n := by rw [hn]; simp
    have HN := Lib.hid hn
    have HC := Lib.hid hcell
    have HS := Lib.hid hsz
    clear hn hcell hsz
    have n1 : (0 : Int) < (n : Int) := by omega
    by_cases hh : x = headWord
    · have k1 : (x == [112, 105, 116, 104]) = true := by rw [hh]; rfl
      have HH := Lib.hid hh
      clear hh
      by_cases h2 : n = 2
      · obtain ⟨y, rfl⟩ : ∃ y, r = [y] := by
          have := HN.out
          match r with
          | [] => simp at this; omega
          | [y] => exact ⟨y, rfl⟩
          | _ :: _ :: _ => simp at this; omega
        subst h2
        have c1 := HC.out 1 y rfl
        have hy := HS.out y (by simp)
        cases hm : numR y with
        | none =>
          have HR := Lib.hid (show headRes [x, y] = .tuple #[.int .i64 0, .int .i64 262] by simp [headRes, headOf, HH.out, hm])
          have HM := Lib.hid hm
          clear hm
          go_enter Tryz.func27, Tryz.ntmps27
          go_wp2_with fail
          refine (refNumber_bad ⟨y.toArray⟩ (by rw [mk_size]; exact hy) HM.out _).mono ?_
          rintro e w1 ⟨⟨v, rfl⟩, hw1⟩
          go_wp2_with fail
          go_ret2
          exact ⟨ret_val HR.out.symm, hw1⟩
        | some m =>
          have HR := Lib.hid (show headRes [x, y] = .tuple #[.int .i64 m, .int .i64 0] by simp [headRes, headOf, HH.out, hm])
          have HM := Lib.hid hm
          clear hm
          go_enter Tryz.func27, Tryz.ntmps27
          go_wp2_with fail
          refine (refNumber_ok ⟨y.toArray⟩ (by rw [mk_size]; exact hy) m HM.out _).mono ?_
          rintro e w1 ⟨rfl, hw1⟩
          go_wp2_with fail
          go_ret2
          exact ⟨ret_val HR.out.symm, hw1⟩
      · have k2 : ((n : Int) != 2) = true := by rw [bne_iff_ne]; omega
        have HR := Lib.hid (show headRes (x :: r) = .tuple #[.int .i64 0, .int .i64 263] by
          have := HN.out
          match r with
          | [] => simp [headRes, headOf, HH.out]
          | [y] => simp at this; omega
          | _ :: _ :: _ => simp [headRes, headOf, HH.out])
        clear h2
        go_enter Tryz.func27, Tryz.ntmps27
        go_wp2_with fail
        go_ret2
        exact ⟨ret_val HR.out.symm, Below.refl _ _⟩
    · have k1 : (x == [112, 105, 116, 104]) = false := by rw [beq_eq_false_iff_ne]; exact hh
      have HR := Lib.hid (show headRes (x :: r) = .tuple #[.int .i64 0, .int .i64 260] by simp [headRes, headOf, hh])
      clear hh
      go_enter Tryz.func27, Tryz.ntmps27
      go_wp2_with fail
      go_ret2
      exact ⟨ret_val HR.out.symm, Below.refl _ _⟩
end Go.Proofs.YtbpackopicngmaaGreatDoor
