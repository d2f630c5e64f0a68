/- The document's Parse (written by gen/mkRefParse.py). -/
import Derived.Test.YtbpackopicngmaaGreatDoorRfS
namespace Go.Proofs.Sc

/-- What is left to read when the reading stands at f. -/
def LeftOf (l : By) (f : Nat) (st : PSt) (n : Nat) (tot : PScript × Int × Int) : Prop := ∃ RL, parseL st n RL = tot ∧ ((f ≤ l.length ∧ RL = linesOf (l.drop f)) ∨ (l.length < f ∧ RL = []))
/-- The line from f to K. -/
structure IsLine (l : By) (f K : Nat) (X : By) : Prop where
  eq : X = (l.drop f).take (K - f)
  no : ∀ c ∈ X, c ≠ 10
  le : f ≤ K
  end_ : K = l.length ∨ l[K]? = some 10
theorem linesOf_flat' : ∀ (l : By), (∀ c ∈ l, c ≠ 10) → linesOf l = [l]
  | [], _ => rfl
  | c :: l, h => by
    simp only [linesOf]
    rw [if_neg (h c (by simp)), linesOf_flat' l (fun x hx => h x (by simp [hx]))]
theorem rest_line {l X : By} {f K n : Nat} {st : PSt} {tot : PScript × Int × Int} (h : LeftOf l f st n tot) (hX : IsLine l f K X) (hf : f < l.length) : ∃ RL, parseL st n (X :: RL) = tot ∧ ((K + 1 ≤ l.length ∧ RL = linesOf (l.drop (K + 1))) ∨ (l.length < K + 1 ∧ RL = [])) := by
  obtain ⟨RL, h1, h2⟩ := h
  rcases h2 with ⟨_, rfl⟩ | ⟨h3, _⟩
  · rcases hX.end_ with hK | hK
    · refine ⟨[], ?_, Or.inr ⟨by omega, rfl⟩⟩
      have e : X = l.drop f := by rw [hX.eq, List.take_of_length_le (by rw [List.length_drop]; omega)]
      rw [← h1, linesOf_flat' (l.drop f) (by rw [← e]; exact hX.no), e]
    · refine ⟨_, ?_, Or.inl ⟨(List.getElem?_eq_some_iff.1 hK).1, rfl⟩⟩
      have hle := hX.le
      have hd : l.drop f = X ++ 10 :: l.drop (K + 1) := by
        have h1 := (List.take_append_drop (K - f) (l.drop f)).symm
        have h2 : l.drop K = 10 :: l.drop (K + 1) := Go.Lib.drop_at hK
        rw [List.drop_drop, show f + (K - f) = K by omega, h2, ← hX.eq] at h1
        exact h1
      rw [← h1, hd, linesOf_line X _ hX.no]
  · omega
theorem rest_ok {l X : By} {f K n : Nat} {st st' : PSt} {tot : PScript × Int × Int} (h : LeftOf l f st n tot) (hX : IsLine l f K X) (hf : f < l.length) (hs : lineStep st X = .ok st') : LeftOf l (K + 1) st' (n + 1) tot := by
  obtain ⟨RL, h1, h2⟩ := rest_line h hX hf
  refine ⟨RL, ?_, h2⟩
  rw [← h1]; cases st <;> simp only [parseL, hs]
theorem rest_err {l X : By} {f K n : Nat} {st : PSt} {tot : PScript × Int × Int} {e : Int} (h : LeftOf l f st n tot) (hX : IsLine l f K X) (hf : f < l.length) (hs : lineStep st X = .error e) : tot = (.zero, (n : Int) + 1, e) := by
  obtain ⟨RL, h1, _⟩ := rest_line h hX hf
  rw [← h1]; cases st <;> simp only [parseL, hs]
def endSt : PSt → PScript × Int × Int
  | none => (.zero, 0, 260)
  | some s => (s, 0, 0)
theorem rest_end {l : By} {f n : Nat} {st : PSt} {tot : PScript × Int × Int} (h : LeftOf l f st n tot) (hf : l.length ≤ f) : tot = endSt st := by
  obtain ⟨RL, h1, h2⟩ := h
  rcases h2 with ⟨h3, rfl⟩ | ⟨_, rfl⟩
  · rw [List.drop_of_length_le hf] at h1
    rw [← h1]
    cases st <;> simp [linesOf, parseL, lineStep, wordsOf, wordsAux, flush, endSt]
  · rw [← h1]; cases st <;> rfl
/-- Where the line from f ends. -/
theorem line_from (l : By) (f : Nat) (hf : f ≤ l.length) : ∃ K, f ≤ K ∧ K ≤ l.length ∧ (∀ j, f ≤ j → j < K → l[j]? ≠ some 10) ∧ (K = l.length ∨ l[K]? = some 10) := by
  obtain ⟨d, hd⟩ : ∃ d, d = l.length - f := ⟨_, rfl⟩
  induction d generalizing f with
  | zero => exact ⟨f, Nat.le_refl _, hf, fun j h1 h2 => by omega, Or.inl (by omega)⟩
  | succ d ih =>
    by_cases h : l[f]? = some 10
    · exact ⟨f, Nat.le_refl _, hf, fun j h1 h2 => by omega, Or.inr h⟩
    · obtain ⟨K, h1, h2, h3, h4⟩ := ih (f + 1) (by omega) (by omega)
      refine ⟨K, by omega, h2, fun j h5 h6 => ?_, h4⟩
      by_cases e : j = f
      · rw [e]; exact h
      · exact h3 j (by omega) h6
theorem isLine_of {l : By} {f K : Nat} (h1 : f ≤ K) (h3 : ∀ j, f ≤ j → j < K → l[j]? ≠ some 10) (h4 : K = l.length ∨ l[K]? = some 10) : IsLine l f K ((l.drop f).take (K - f)) := by
  refine ⟨rfl, fun c hc => ?_, h1, h4⟩
  obtain ⟨i, hi⟩ := List.getElem?_of_mem hc
  have hlt := (List.getElem?_eq_some_iff.1 hi).1
  rw [List.length_take, List.length_drop] at hlt
  rw [List.getElem?_take, if_pos (by omega), List.getElem?_drop] at hi
  rintro rfl
  exact h3 (f + i) (by omega) (by omega) hi
end Go.Proofs.Sc
namespace Go.Proofs.YtbpackopicngmaaGreatDoor
open Go.RowKit Go.Proofs.Sc Go.Proofs.YtbpackopicngmaaGreatDoorW.PrintWords

/-- What has been read so far. -/
structure RP (w : World) (st : PSt) (W : World) : Prop where
  zero : W.heap[w.heap.size]? = some (.cells #[.int .i64 0, .slice none 0 0] 25 (0, 0))
  s : ∃ v, W.heap[w.heap.size + 1]? = some (.cells #[.int .i64 (capOf st), v] 25 (0, 0)) ∧ kOp.R 44 W w.heap.size (fun _ => True) v (opsOf st)
  below : Below w.heap.size w W
  few : (opsOf st).length ≤ 2000

theorem RP.later {w : World} {st : PSt} {wr w1 : World} (h : RP w st wr) (hb : Below wr.heap.size wr w1) : RP w st w1 := by
  obtain ⟨hz, ⟨v, hs, hv⟩, hbw, hf⟩ := h
  exact ⟨(hb.block _ (blk_lt hz)).trans hz, ⟨v, (hb.block _ (blk_lt hs)).trans hs, Kd.R_below hv hb⟩, hbw.trans (hb.mono hbw.size), hf⟩

theorem RP.start (w : World) : RP w none ((w.alloc (.cells #[.int .i64 0, .slice none 0 0] 25)).alloc (.cells #[.int .i64 0, .slice none 0 0] 25)) :=
  ⟨(Below.heap_alloc _ _ _ (by simp)).trans (heap_alloc_new w _), ⟨_, new_at _ _ _ (by simp), Kd.R_nil _ _ _ _ _⟩, ((Below.refl _ _).alloc (Nat.le_refl _) _).alloc (by simp) _, Nat.zero_le _⟩

theorem RP.head {w : World} {wr : World} {n : Int} (h : RP w none wr) : RP w (some ⟨n, []⟩) (wr.setCell ⟨w.heap.size + 1, 0, none⟩ (.int .i64 n)) := by
  obtain ⟨hz, ⟨v, hs, hv⟩, hbw, hf⟩ := h
  exact ⟨blk_far hz (p := ⟨w.heap.size + 1, 0, none⟩) (by simp) _, ⟨v, (blk_set hs 0 _).trans (by simp [capOf]), Kd.R_set hv hs (kOp_types _ (by decide) (by decide)) 0 _⟩, hbw.setCell (p := ⟨w.heap.size + 1, 0, none⟩) (by simp) _, Nat.zero_le _⟩

theorem RP.push {w : World} {sc : PScript} {w2 : World} {v : Value} {o : POp} (h : RP w (some sc) w2) (hs2 : w2.heap[w.heap.size + 1]? = some (.cells #[.int .i64 sc.cap, v] 25 (0, 0))) (hv : kOp.R 44 w2 w.heap.size (fun _ => True) v sc.ops)
    (hlen : sc.ops.length + 1 ≤ 2000) {ob : Obj} {w3 : World} {v1 : Value} (hg : (w2.alloc ob).grownBy w3 v.ownBlock) (hR : kOp.R 44 w3 w.heap.size (fun _ => True) v1 (sc.ops ++ [o])) (hB : Below w.heap.size w w3) :
    RP w (some ⟨sc.cap, sc.ops ++ [o]⟩) (w3.setCell ⟨w.heap.size + 1, 1, none⟩ v1) ∧ w3.heap[w.heap.size + 1]? = some (.cells #[.int .i64 sc.cap, v] 25 (0, 0)) := by
  obtain ⟨hz, _, hbw, hf⟩ := h
  have up : ∀ {g t : Nat} {cs : Array Value}, w2.heap[g]? = some (.cells cs t (0, 0)) → 44 ≠ t → w3.heap[g]? = some (.cells cs t (0, 0)) := fun hb ht =>
    blk_grown ((Below.heap_alloc _ _ _ (blk_lt hb)).trans hb) hg (Kd.R_ne hv hb ht)
  have hs3 := up hs2 (by decide)
  exact ⟨⟨blk_far (up hz (by decide)) (p := ⟨w.heap.size + 1, 1, none⟩) (by simp) _, ⟨v1, (blk_set hs3 1 _).trans (by simp [capOf]), Kd.R_set hR hs3 (kOp_types _ (by decide) (by decide)) 1 _⟩, hB.setCell (p := ⟨w.heap.size + 1, 1, none⟩) (by simp) _, by simpa [opsOf] using hlen⟩, hs3⟩

set_option maxHeartbeats 16000000 in
set_option maxRecDepth 100000 in
theorem refParse_any (l : By) (hs : l.length ≤ 33554432) (w : World) :
    Calls Tryz.prog 8 #[.string (mkB l)] w (ParsePost l w) := by
  have hsz : (mkB l).size = l.length := mk_size l
  obtain ⟨n, hn⟩ : ∃ n, n = l.length := ⟨_, rfl⟩
  rw [← hn] at hsz
  by_cases hbig : 1048576 < n
  · have HR := Lib.hid (show parse l = (PScript.zero, 0, 264) by unfold parse; rw [if_pos (by rw [← hn]; exact hbig)])
    have k1 : (1048576 : Int) < (n : Int) := by omega
    clear hn hbig
    go_enter Tryz.func8, Tryz.ntmps8
    go_wp2_with fail
    exact bodyPost_ret (v := .tuple #[.agg #[.int .i64 0, .slice none 0 0], .int .i64 0, .int .i64 264]) (by simp [results, Tryz.results8, go_sem]) rfl (ParsePost.error HR.out ((Below.refl _ _).alloc (Nat.le_refl _) _))
  · obtain ⟨tot, htot⟩ : ∃ tot, tot = parseL none 0 (linesOf l) := ⟨_, rfl⟩
    have HPAR := Lib.hid (show parse l = tot by unfold parse; rw [if_neg (by omega), htot])
    have HST := Lib.hid (RP.start w)
    have HRS := Lib.hid (show LeftOf l 0 none 0 tot from ⟨_, htot.symm, Or.inl ⟨Nat.zero_le _, rfl⟩⟩)
    have HN := Lib.hid hn
    have HAT := Lib.hid (show ∀ i (h : i < n), ∃ c, l[i]? = some c ∧ ∀ h', (mkB l)[i]'h' = c from fun i h => by
      obtain ⟨c, hc⟩ : ∃ c, l[i]? = some c := ⟨l[i]'(by omega), List.getElem?_eq_getElem _⟩
      exact ⟨c, hc, fun h' => list_at _ i c hc h'⟩)
    have hn20 : n ≤ 1048576 := by omega
    obtain ⟨S, hS⟩ : ∃ S, S = mkB l := ⟨_, rfl⟩
    rw [← hS] at hsz HAT ⊢
    have HEX := Lib.hid (show ∀ f K, S.extract f K = mkB ((l.drop f).take (K - f)) from fun f K => by rw [hS]; exact extract_by l f K)
    clear hn hbig htot hS
    go_enter Tryz.func8, Tryz.ntmps8
    go_wp2_with fail
    go_loopw [6, 7, 8] (fun b no fr wr => ∃ (st : PSt) (bg : Bool) (nn f : Nat), b = .bool bg ∧ no = .int .i64 (nn : Int) ∧ fr = .int .i64 (f : Int) ∧ f ≤ n + 1 ∧ nn ≤ f ∧ Hid (bg = st.isSome) ∧ Hid (RP w st wr) ∧ Hid (LeftOf l f st nn tot)) (fun _ _ f _ => n + 1 - (intOf f).toNat)
    case atStart => exact ⟨none, false, 0, 0, rfl, rfl, rfl, by omega, Nat.le_refl _, Lib.hid rfl, HST, HRS⟩
    case round =>
    clear HST HRS
    obtain ⟨st, bg, nn, f, rfl, rfl, rfl, hf, hnn, hbg, hRP, hRS⟩ := hrel
    by_cases hlt : f < n
    · obtain ⟨K, hK1, hK2, hK3, hK4⟩ := line_from l f (by have := HN.out; omega)
      rw [← HN.out] at hK2 hK4
      obtain ⟨X, hX⟩ : ∃ X, X = (l.drop f).take (K - f) := ⟨_, rfl⟩
      have HIL := Lib.hid (show IsLine l f K X by rw [hX]; exact isLine_of hK1 hK3 (by rw [← HN.out]; exact hK4))
      have hxt : S.extract f K = mkB X := by rw [hX]; exact HEX.out f K
      have HXL := Lib.hid (show X.length ≤ 1048576 by rw [hX, List.length_take, List.length_drop]; have := HN.out; omega)
      have HK3 := Lib.hid hK3
      have HFL := Lib.hid (show f < l.length by rw [← HN.out]; exact hlt)
      clear hX hK3
      by_cases hKn : K < n
      · obtain ⟨c, hc, hcb⟩ := HAT.out K hKn
        have hc10 : c = 10 := by
          rcases hK4 with e | e
          · omega
          · rw [hc] at e; exact Option.some.inj e
        have p1 : ((c.toNat : Int) != 10) = false := by rw [hc10]; rfl
        clear hc hc10 hK4
        go_wp2_with fail
        go_loopw [9] (fun t w' => ∃ k : Nat, wr = w' ∧ t = .int .i64 (k : Int) ∧ f ≤ k ∧ k ≤ K) (fun t _ => K - (intOf t).toNat)
        case atStart => exact ⟨f, rfl, rfl, Nat.le_refl _, hK1⟩
        case round =>
        obtain ⟨k, rfl, rfl, hk1, hk2⟩ := hrel
        by_cases hkK : k < K
        · obtain ⟨d, hd, hdb⟩ := HAT.out k (by omega)
          have p2 : ((d.toNat : Int) != 10) = true := by
            rw [bne_iff_ne]; intro e
            have : d = 10 := UInt8.toNat_inj.1 (by have : (10 : UInt8).toNat = 10 := rfl; omega)
            exact HK3.out k hk1 hkK (by rw [hd, this])
          have hkn : k < n := by omega
          clear hd
          go_wp2_with fail
          go_roundw
          case rel => exact ⟨k + 1, trivial, by go_num, by omega, hkK⟩
          case measure => simp [intOf]; omega
        obtain rfl : k = K := by omega
        clear hkK hk2
        go_wp2_with fail
        refine (refWords_any X (by have := HXL.out; omega) _).mono ?_
        rintro e w1 ⟨v, rfl, hRw, hB1⟩
        obtain ⟨hwl1, hwl2⟩ := word_len X HXL.out
        have HWL := Lib.hid hwl1
        have HWC := Lib.hid hwl2
        have HRW := Lib.hid hRw
        have HRP1 := Lib.hid (hRP.out.later hB1)
        obtain ⟨Aw, cw, rfl⟩ := Kd.R_slice hRw
        rw [List.length_map]
        obtain ⟨q, hq⟩ : ∃ q, q = (wordsOf X).length := ⟨_, rfl⟩
        rw [List.length_map, ← hq] at HRW
        rw [← hq]
        have HQ := Lib.hid hq
        clear hRw hB1 hRP hwl1 hwl2 hq
        by_cases hq0 : q = 0
        · have hwx : wordsOf X = [] := List.eq_nil_of_length_eq_zero (by rw [← HQ.out]; exact hq0)
          have k2 : ((q : Int) == 0) = true := by rw [beq_iff_eq]; omega
          have HRS2 := Lib.hid (rest_ok hRS.out HIL.out HFL.out (st' := st) (by unfold lineStep; rw [if_pos hwx]))
          clear hwx hq0 hRS
          go_wp2_with fail
          go_roundw
          case rel => exact ⟨st, bg, nn + 1, k + 1, rfl, by go_num, by go_num, by omega, by omega, hbg, HRP1, HRS2⟩
          case measure => simp [intOf]; omega
        have hwx : wordsOf X ≠ [] := fun e => hq0 (by rw [HQ.out, e]; rfl)
        have k2 : ((q : Int) == 0) = false := by rw [beq_eq_false_iff_ne]; omega
        have HNE := Lib.hid hwx
        have HWV := Lib.hid (words_of_R HRW.out hwx)
        clear hq0 hwx
        cases st with
        | none =>
          obtain rfl : bg = false := hbg.out
          cases hh : headOf (wordsOf X) with
          | ok cp =>
            have HRES := Lib.hid (show headRes (wordsOf X) = .tuple #[.int .i64 cp, .int .i64 0] by unfold headRes; rw [hh])
            have HRS2 := Lib.hid (rest_ok hRS.out HIL.out HFL.out (lineStep_head HNE.out hh))
            clear hh hRS
            go_wp2_with fail
            refine (refHead_any (wordsOf X) HNE.out HWL.out _ _ HWV.out).mono ?_
            rw [HRES.out]
            rintro e w2 ⟨rfl, hw2⟩
            have hR2 := HRP1.out.later hw2
            have HR3 := Lib.hid (hR2.head (n := cp))
            obtain ⟨v, hs2, _⟩ := hR2.s
            obtain ⟨c0, c1, f0, f1⟩ := script_cells hs2
            clear hs2 hR2 HRP1
            go_wp2_with fail
            go_roundw
            case rel => exact ⟨some ⟨cp, []⟩, true, nn + 1, k + 1, rfl, by go_num, by go_num, by omega, by omega, Lib.hid rfl, HR3, HRS2⟩
            case measure => simp [intOf]; omega
          | error cc =>
            have HRES := Lib.hid (show headRes (wordsOf X) = .tuple #[.int .i64 0, .int .i64 cc] by unfold headRes; rw [hh])
            have hcn := headOf_codes hh
            have HF := Lib.hid (show parse l = (.zero, (nn : Int) + 1, cc) from HPAR.out.trans (rest_err hRS.out HIL.out HFL.out (lineStep_headE HNE.out hh)))
            clear hh hRS
            go_wp2_with fail
            refine (refHead_any (wordsOf X) HNE.out HWL.out _ _ HWV.out).mono ?_
            rw [HRES.out]
            rintro e w2 ⟨rfl, hw2⟩
            have hR2 := HRP1.out.later hw2
            obtain ⟨c0, c1, f0, f1⟩ := script_cells hR2.zero
            have hbw := hR2.below
            clear hR2 HRP1
            go_wp2_with fail
            exact bodyPost_ret (v := .tuple #[.agg #[.int .i64 0, .slice none 0 0], .int .i64 ((nn : Int) + 1), .int .i64 cc]) (by simp [results, Tryz.results8, go_sem, c0, c1]) rfl (ParsePost.error HF.out (two_below hbw (Nat.le_refl _) _ _))
        | some sc =>
          obtain rfl : bg = true := hbg.out
          have hfew : sc.ops.length ≤ 2000 := HRP1.out.few
          obtain ⟨v, hs1, hv1⟩ := HRP1.out.s
          have hs1 : w1.heap[w.heap.size + 1]? = some (.cells #[.int .i64 sc.cap, v] 25 (0, 0)) := hs1
          have hv1 : kOp.R 44 w1 w.heap.size (fun _ => True) v sc.ops := hv1
          obtain ⟨A1, cA, rfl⟩ := Kd.R_slice hv1
          obtain ⟨b0, b1, g0, g1⟩ := script_cells hs1
          by_cases hmany : sc.ops.length = 2000
          · have k3 : ((sc.ops.length : Int) == 2000) = true := by rw [beq_iff_eq]; omega
            have HF := Lib.hid (show parse l = (.zero, (nn : Int) + 1, 264) from HPAR.out.trans (rest_err hRS.out HIL.out HFL.out (lineStep_many HNE.out hmany)))
            obtain ⟨c0, c1, f0, f1⟩ := script_cells HRP1.out.zero
            have hbw := HRP1.out.below
            clear HRP1 hs1 hv1 hmany hRS
            go_wp2_with fail
            exact bodyPost_ret (v := .tuple #[.agg #[.int .i64 0, .slice none 0 0], .int .i64 ((nn : Int) + 1), .int .i64 264]) (by simp [results, Tryz.results8, go_sem, c0, c1]) rfl (ParsePost.error HF.out (two_below hbw (Nat.le_refl _) _ _))
          have k3 : ((sc.ops.length : Int) == 2000) = false := by rw [beq_eq_false_iff_ne]; omega
          have HMANY := Lib.hid hmany
          obtain ⟨x0, r0, hxr⟩ : ∃ x0 r0, wordsOf X = x0 :: r0 := by
            cases h : wordsOf X with
            | nil => exact absurd h HNE.out
            | cons a b => exact ⟨a, b, rfl⟩
          have HXR := Lib.hid hxr
          have HWV2 := Lib.hid (show Words w1.heap.size w1 (.slice Aw q cw) (x0 :: r0) by rw [← hxr]; exact HWV.out)
          have HR0 := Lib.hid (show ∀ y ∈ r0, y.length ≤ 33554432 from fun y hy => HWL.out y (by rw [hxr]; simp [hy]))
          have HR1 := Lib.hid (show r0.length ≤ 33554431 by have := HWC.out; rw [hxr, List.length_cons] at this; omega)
          have HV1 := Lib.hid hv1
          have HS1 := Lib.hid hs1
          clear hmany hxr hs1 hv1
          go_wp2_with fail
          refine (refStep_any x0 r0 HR0.out HR1.out _ _ HWV2.out).mono ?_
          rintro e w2 ⟨o, A2, cB, nz, rfl, hres, hown, hw2⟩
          rcases hres with ⟨hh, rfl⟩ | ⟨hh, hne⟩
          · have HRS2 := Lib.hid (rest_ok hRS.out HIL.out HFL.out (lineStep_step HNE.out HMANY.out (by rw [HXR.out]; exact hh)))
            have hR2 := HRP1.out.later hw2
            have hv2 := Kd.R_below HV1.out hw2
            have hs2 := (hw2.block _ (blk_lt HS1.out)).trans HS1.out
            obtain ⟨d0, d1, q0, q1⟩ := script_cells hs2
            have hlt2 := Kd.R_lt HV1.out
            have hlt3 : w.heap.size + 1 < w2.heap.size := blk_lt hs2
            have HRR := Lib.hid hR2
            have HMM := Lib.hid (show kOp.M w2 w.heap.size (fun k => w1.heap.size ≤ k) o [.int .i64 o.kind, .int .i64 o.a, .int .i64 o.b, .string ⟨o.name.toArray⟩, .string ⟨o.text.toArray⟩, .slice A2 o.list.length cB] from
              kOp_mkM _ _ _ _ (Kd.R_lower (Kd.R_of_own hown (fun k hk => own_base hown k hk)) (HRP1.out.below.size)))
            have HV2 := Lib.hid hv2
            have HS2 := Lib.hid hs2
            have HL2 := Lib.hid hlt2
            have hbs := hR2.below
            have hlen4 : sc.ops.length + 1 ≤ 2000 := by have := HMANY.out; omega
            have HLEN4 := Lib.hid hlen4
            clear hh hRS hR2 hv2 hs2 hlt2 hown b0 b1 g0 g1 HV1 HS1 HRP1 hlen4
            go_wp2_with (at_builtin; go_must (refine Kd.R_append kOp (w0 := w) w.heap.size rfl (.tmp 80) (.tmp 82) 23 44 (.agg zeroOp) 80 rfl Tryz.underlying23 info_op rfl (by decide) (by omega) (.slice A1 sc.ops.length cA) sc.ops o [.int .i64 o.kind, .int .i64 o.a, .int .i64 o.b, .string ⟨o.name.toArray⟩, .string ⟨o.text.toArray⟩, .slice A2 o.list.length cB] (fun _ => True) (fun k => w1.heap.size ≤ k) rfl ?hx ?hp ?hokp (fun _ _ => trivial) ?HO ?HB ?hbase ?hl ?_))
            case hx => show Value.slice (some ⟨w2.heap.size + 1, 0, none⟩) 1 1 = _; simp
            case hp => exact Kd.M_alloc HMM.out _
            case hokp => exact fun k hk => ⟨trivial, fun e => by have := HL2.out k e.symm; omega⟩
            case HO => exact Kd.R_alloc HV2.out _
            case HB => exact hbs.alloc hbs.size _
            case hbase => have := hbs.size; simp; omega
            case hl => have := HLEN4.out; omega
            intro v1 w3 hR3 hBw hg hat
            obtain ⟨hPR, hs3⟩ := RP.push HRR.out HS2.out HV2.out HLEN4.out hg hR3 hBw
            have HPR := Lib.hid hPR
            obtain ⟨A3, cC, hvv⟩ := Kd.R_slice hR3
            rw [List.length_append, List.length_singleton] at hvv
            subst hvv
            obtain ⟨d0', d1', q0', q1'⟩ := script_cells hs3
            clear hR3 hBw hg hat hPR hs3 d0 d1 q0 q1
            go_wp2_with fail
            go_roundw
            case rel => exact ⟨_, true, nn + 1, k + 1, rfl, by go_num, by go_num, by omega, by omega, Lib.hid rfl, HPR, HRS2⟩
            case measure => simp [intOf]; omega
          · have hcn : (nz != 0) = true := by rw [bne_iff_ne]; exact hne
            have HF := Lib.hid (show parse l = (.zero, (nn : Int) + 1, nz) from HPAR.out.trans (rest_err hRS.out HIL.out HFL.out (lineStep_stepE HNE.out HMANY.out (by rw [HXR.out]; exact hh))))
            obtain ⟨c0, c1, f0, f1⟩ := script_cells (HRP1.out.later hw2).zero
            have hbw := (HRP1.out.later hw2).below
            have hsz2 := hw2.size
            have hzlt := blk_lt (HRP1.out.later hw2).zero
            clear hh hne hRS hown b0 b1 g0 g1 HV1 HS1 HRP1
            go_wp2_with fail
            exact bodyPost_ret (v := .tuple #[.agg #[.int .i64 0, .slice none 0 0], .int .i64 ((nn : Int) + 1), .int .i64 nz]) (by simp [results, Tryz.results8, go_sem, c0, c1, hzlt]) rfl (ParsePost.error HF.out ((two_below hbw (Nat.le_refl _) _ _).alloc (by simp [World.setCell]; omega) _))
      · have p0 : decide (K < n) = false := decide_eq_false hKn
        have p1 : decide ((K : Int) < (n : Int)) = false := decide_eq_false (by omega)
        clear hKn hK4
        go_wp2_with fail
        go_loopw [9] (fun t w' => ∃ k : Nat, wr = w' ∧ t = .int .i64 (k : Int) ∧ f ≤ k ∧ k ≤ K) (fun t _ => K - (intOf t).toNat)
        case atStart => exact ⟨f, rfl, rfl, Nat.le_refl _, hK1⟩
        case round =>
        obtain ⟨k, rfl, rfl, hk1, hk2⟩ := hrel
        by_cases hkK : k < K
        · obtain ⟨d, hd, hdb⟩ := HAT.out k (by omega)
          have p2 : ((d.toNat : Int) != 10) = true := by
            rw [bne_iff_ne]; intro e
            have : d = 10 := UInt8.toNat_inj.1 (by have : (10 : UInt8).toNat = 10 := rfl; omega)
            exact HK3.out k hk1 hkK (by rw [hd, this])
          have hkn : k < n := by omega
          clear hd
          go_wp2_with fail
          go_roundw
          case rel => exact ⟨k + 1, trivial, by go_num, by omega, hkK⟩
          case measure => simp [intOf]; omega
        obtain rfl : k = K := by omega
        clear hkK hk2
        go_wp2_with fail
        refine (refWords_any X (by have := HXL.out; omega) _).mono ?_
        rintro e w1 ⟨v, rfl, hRw, hB1⟩
        obtain ⟨hwl1, hwl2⟩ := word_len X HXL.out
        have HWL := Lib.hid hwl1
        have HWC := Lib.hid hwl2
        have HRW := Lib.hid hRw
        have HRP1 := Lib.hid (hRP.out.later hB1)
        obtain ⟨Aw, cw, rfl⟩ := Kd.R_slice hRw
        rw [List.length_map]
        obtain ⟨q, hq⟩ : ∃ q, q = (wordsOf X).length := ⟨_, rfl⟩
        rw [List.length_map, ← hq] at HRW
        rw [← hq]
        have HQ := Lib.hid hq
        clear hRw hB1 hRP hwl1 hwl2 hq
        by_cases hq0 : q = 0
        · have hwx : wordsOf X = [] := List.eq_nil_of_length_eq_zero (by rw [← HQ.out]; exact hq0)
          have k2 : ((q : Int) == 0) = true := by rw [beq_iff_eq]; omega
          have HRS2 := Lib.hid (rest_ok hRS.out HIL.out HFL.out (st' := st) (by unfold lineStep; rw [if_pos hwx]))
          clear hwx hq0 hRS
          go_wp2_with fail
          go_roundw
          case rel => exact ⟨st, bg, nn + 1, k + 1, rfl, by go_num, by go_num, by omega, by omega, hbg, HRP1, HRS2⟩
          case measure => simp [intOf]; omega
        have hwx : wordsOf X ≠ [] := fun e => hq0 (by rw [HQ.out, e]; rfl)
        have k2 : ((q : Int) == 0) = false := by rw [beq_eq_false_iff_ne]; omega
        have HNE := Lib.hid hwx
        have HWV := Lib.hid (words_of_R HRW.out hwx)
        clear hq0 hwx
        cases st with
        | none =>
          obtain rfl : bg = false := hbg.out
          cases hh : headOf (wordsOf X) with
          | ok cp =>
            have HRES := Lib.hid (show headRes (wordsOf X) = .tuple #[.int .i64 cp, .int .i64 0] by unfold headRes; rw [hh])
            have HRS2 := Lib.hid (rest_ok hRS.out HIL.out HFL.out (lineStep_head HNE.out hh))
            clear hh hRS
            go_wp2_with fail
            refine (refHead_any (wordsOf X) HNE.out HWL.out _ _ HWV.out).mono ?_
            rw [HRES.out]
            rintro e w2 ⟨rfl, hw2⟩
            have hR2 := HRP1.out.later hw2
            have HR3 := Lib.hid (hR2.head (n := cp))
            obtain ⟨v, hs2, _⟩ := hR2.s
            obtain ⟨c0, c1, f0, f1⟩ := script_cells hs2
            clear hs2 hR2 HRP1
            go_wp2_with fail
            go_roundw
            case rel => exact ⟨some ⟨cp, []⟩, true, nn + 1, k + 1, rfl, by go_num, by go_num, by omega, by omega, Lib.hid rfl, HR3, HRS2⟩
            case measure => simp [intOf]; omega
          | error cc =>
            have HRES := Lib.hid (show headRes (wordsOf X) = .tuple #[.int .i64 0, .int .i64 cc] by unfold headRes; rw [hh])
            have hcn := headOf_codes hh
            have HF := Lib.hid (show parse l = (.zero, (nn : Int) + 1, cc) from HPAR.out.trans (rest_err hRS.out HIL.out HFL.out (lineStep_headE HNE.out hh)))
            clear hh hRS
            go_wp2_with fail
            refine (refHead_any (wordsOf X) HNE.out HWL.out _ _ HWV.out).mono ?_
            rw [HRES.out]
            rintro e w2 ⟨rfl, hw2⟩
            have hR2 := HRP1.out.later hw2
            obtain ⟨c0, c1, f0, f1⟩ := script_cells hR2.zero
            have hbw := hR2.below
            clear hR2 HRP1
            go_wp2_with fail
            exact bodyPost_ret (v := .tuple #[.agg #[.int .i64 0, .slice none 0 0], .int .i64 ((nn : Int) + 1), .int .i64 cc]) (by simp [results, Tryz.results8, go_sem, c0, c1]) rfl (ParsePost.error HF.out (two_below hbw (Nat.le_refl _) _ _))
        | some sc =>
          obtain rfl : bg = true := hbg.out
          have hfew : sc.ops.length ≤ 2000 := HRP1.out.few
          obtain ⟨v, hs1, hv1⟩ := HRP1.out.s
          have hs1 : w1.heap[w.heap.size + 1]? = some (.cells #[.int .i64 sc.cap, v] 25 (0, 0)) := hs1
          have hv1 : kOp.R 44 w1 w.heap.size (fun _ => True) v sc.ops := hv1
          obtain ⟨A1, cA, rfl⟩ := Kd.R_slice hv1
          obtain ⟨b0, b1, g0, g1⟩ := script_cells hs1
          by_cases hmany : sc.ops.length = 2000
          · have k3 : ((sc.ops.length : Int) == 2000) = true := by rw [beq_iff_eq]; omega
            have HF := Lib.hid (show parse l = (.zero, (nn : Int) + 1, 264) from HPAR.out.trans (rest_err hRS.out HIL.out HFL.out (lineStep_many HNE.out hmany)))
            obtain ⟨c0, c1, f0, f1⟩ := script_cells HRP1.out.zero
            have hbw := HRP1.out.below
            clear HRP1 hs1 hv1 hmany hRS
            go_wp2_with fail
            exact bodyPost_ret (v := .tuple #[.agg #[.int .i64 0, .slice none 0 0], .int .i64 ((nn : Int) + 1), .int .i64 264]) (by simp [results, Tryz.results8, go_sem, c0, c1]) rfl (ParsePost.error HF.out (two_below hbw (Nat.le_refl _) _ _))
          have k3 : ((sc.ops.length : Int) == 2000) = false := by rw [beq_eq_false_iff_ne]; omega
          have HMANY := Lib.hid hmany
          obtain ⟨x0, r0, hxr⟩ : ∃ x0 r0, wordsOf X = x0 :: r0 := by
            cases h : wordsOf X with
            | nil => exact absurd h HNE.out
            | cons a b => exact ⟨a, b, rfl⟩
          have HXR := Lib.hid hxr
          have HWV2 := Lib.hid (show Words w1.heap.size w1 (.slice Aw q cw) (x0 :: r0) by rw [← hxr]; exact HWV.out)
          have HR0 := Lib.hid (show ∀ y ∈ r0, y.length ≤ 33554432 from fun y hy => HWL.out y (by rw [hxr]; simp [hy]))
          have HR1 := Lib.hid (show r0.length ≤ 33554431 by have := HWC.out; rw [hxr, List.length_cons] at this; omega)
          have HV1 := Lib.hid hv1
          have HS1 := Lib.hid hs1
          clear hmany hxr hs1 hv1
          go_wp2_with fail
          refine (refStep_any x0 r0 HR0.out HR1.out _ _ HWV2.out).mono ?_
          rintro e w2 ⟨o, A2, cB, nz, rfl, hres, hown, hw2⟩
          rcases hres with ⟨hh, rfl⟩ | ⟨hh, hne⟩
          · have HRS2 := Lib.hid (rest_ok hRS.out HIL.out HFL.out (lineStep_step HNE.out HMANY.out (by rw [HXR.out]; exact hh)))
            have hR2 := HRP1.out.later hw2
            have hv2 := Kd.R_below HV1.out hw2
            have hs2 := (hw2.block _ (blk_lt HS1.out)).trans HS1.out
            obtain ⟨d0, d1, q0, q1⟩ := script_cells hs2
            have hlt2 := Kd.R_lt HV1.out
            have hlt3 : w.heap.size + 1 < w2.heap.size := blk_lt hs2
            have HRR := Lib.hid hR2
            have HMM := Lib.hid (show kOp.M w2 w.heap.size (fun k => w1.heap.size ≤ k) o [.int .i64 o.kind, .int .i64 o.a, .int .i64 o.b, .string ⟨o.name.toArray⟩, .string ⟨o.text.toArray⟩, .slice A2 o.list.length cB] from
              kOp_mkM _ _ _ _ (Kd.R_lower (Kd.R_of_own hown (fun k hk => own_base hown k hk)) (HRP1.out.below.size)))
            have HV2 := Lib.hid hv2
            have HS2 := Lib.hid hs2
            have HL2 := Lib.hid hlt2
            have hbs := hR2.below
            have hlen4 : sc.ops.length + 1 ≤ 2000 := by have := HMANY.out; omega
            have HLEN4 := Lib.hid hlen4
            clear hh hRS hR2 hv2 hs2 hlt2 hown b0 b1 g0 g1 HV1 HS1 HRP1 hlen4
            go_wp2_with (at_builtin; go_must (refine Kd.R_append kOp (w0 := w) w.heap.size rfl (.tmp 80) (.tmp 82) 23 44 (.agg zeroOp) 80 rfl Tryz.underlying23 info_op rfl (by decide) (by omega) (.slice A1 sc.ops.length cA) sc.ops o [.int .i64 o.kind, .int .i64 o.a, .int .i64 o.b, .string ⟨o.name.toArray⟩, .string ⟨o.text.toArray⟩, .slice A2 o.list.length cB] (fun _ => True) (fun k => w1.heap.size ≤ k) rfl ?hx ?hp ?hokp (fun _ _ => trivial) ?HO ?HB ?hbase ?hl ?_))
            case hx => show Value.slice (some ⟨w2.heap.size + 1, 0, none⟩) 1 1 = _; simp
            case hp => exact Kd.M_alloc HMM.out _
            case hokp => exact fun k hk => ⟨trivial, fun e => by have := HL2.out k e.symm; omega⟩
            case HO => exact Kd.R_alloc HV2.out _
            case HB => exact hbs.alloc hbs.size _
            case hbase => have := hbs.size; simp; omega
            case hl => have := HLEN4.out; omega
            intro v1 w3 hR3 hBw hg hat
            obtain ⟨hPR, hs3⟩ := RP.push HRR.out HS2.out HV2.out HLEN4.out hg hR3 hBw
            have HPR := Lib.hid hPR
            obtain ⟨A3, cC, hvv⟩ := Kd.R_slice hR3
            rw [List.length_append, List.length_singleton] at hvv
            subst hvv
            obtain ⟨d0', d1', q0', q1'⟩ := script_cells hs3
            clear hR3 hBw hg hat hPR hs3 d0 d1 q0 q1
            go_wp2_with fail
            go_roundw
            case rel => exact ⟨_, true, nn + 1, k + 1, rfl, by go_num, by go_num, by omega, by omega, Lib.hid rfl, HPR, HRS2⟩
            case measure => simp [intOf]; omega
          · have hcn : (nz != 0) = true := by rw [bne_iff_ne]; exact hne
            have HF := Lib.hid (show parse l = (.zero, (nn : Int) + 1, nz) from HPAR.out.trans (rest_err hRS.out HIL.out HFL.out (lineStep_stepE HNE.out HMANY.out (by rw [HXR.out]; exact hh))))
            obtain ⟨c0, c1, f0, f1⟩ := script_cells (HRP1.out.later hw2).zero
            have hbw := (HRP1.out.later hw2).below
            have hsz2 := hw2.size
            have hzlt := blk_lt (HRP1.out.later hw2).zero
            clear hh hne hRS hown b0 b1 g0 g1 HV1 HS1 HRP1
            go_wp2_with fail
            exact bodyPost_ret (v := .tuple #[.agg #[.int .i64 0, .slice none 0 0], .int .i64 ((nn : Int) + 1), .int .i64 nz]) (by simp [results, Tryz.results8, go_sem, c0, c1, hzlt]) rfl (ParsePost.error HF.out ((two_below hbw (Nat.le_refl _) _ _).alloc (by simp [World.setCell]; omega) _))
    · have hfn : n ≤ f := by omega
      have HE := Lib.hid (rest_end hRS.out (by rw [← HN.out]; exact hfn))
      clear hlt hf hnn hRS
      cases st with
      | none =>
        obtain rfl : bg = false := hbg.out
        have HF := Lib.hid (show parse l = (PScript.zero, 0, 260) from HPAR.out.trans HE.out)
        obtain ⟨c0, c1, f0, f1⟩ := script_cells hRP.out.zero
        have hbw := hRP.out.below
        clear hRP hbg HE
        go_wp2_with fail
        exact bodyPost_ret (v := .tuple #[.agg #[.int .i64 0, .slice none 0 0], .int .i64 0, .int .i64 260]) (by simp [results, Tryz.results8, go_sem, c0, c1]) rfl (ParsePost.error HF.out (two_below hbw (Nat.le_refl _) _ _))
      | some sc =>
        obtain rfl : bg = true := hbg.out
        have HF := Lib.hid (show parse l = (sc, 0, 0) from HPAR.out.trans HE.out)
        obtain ⟨c0, c1, f0, f1⟩ := script_cells hRP.out.zero
        have hbw := hRP.out.below
        have hz := hRP.out.zero
        obtain ⟨v, hs1, hv1⟩ := hRP.out.s
        have hv1 : kOp.R 44 wr w.heap.size (fun _ => True) v sc.ops := hv1
        have hs1 : wr.heap[w.heap.size + 1]? = some (.cells #[.int .i64 sc.cap, v] 25 (0, 0)) := hs1
        obtain ⟨A1, cA, rfl⟩ := Kd.R_slice hv1
        obtain ⟨b0, b1, g0, g1⟩ := script_cells hs1
        have HV := Lib.hid (show ∀ u0 u1 : Value, kOp.R 44 ((wr.setCell ⟨w.heap.size, 0, none⟩ u0).setCell ⟨w.heap.size, 1, none⟩ u1) w.heap.size (fun _ => True) (.slice A1 sc.ops.length cA) sc.ops from
          fun u0 u1 => Kd.R_set (Kd.R_set hv1 hz (kOp_types _ (by decide) (by decide)) 0 u0) (blk_set hz 0 u0) (kOp_types _ (by decide) (by decide)) 1 u1)
        clear hRP hbg HE hv1 hs1 hz
        go_wp2_with fail
        exact bodyPost_ret (v := .tuple #[.agg #[.int .i64 sc.cap, .slice A1 sc.ops.length cA], .int .i64 0, .int .i64 0]) (by simp [results, Tryz.results8, go_sem, c0, c1]) rfl (ParsePost.mk' HF.out (HV.out _ _) (two_below hbw (Nat.le_refl _) _ _))
end Go.Proofs.YtbpackopicngmaaGreatDoor
