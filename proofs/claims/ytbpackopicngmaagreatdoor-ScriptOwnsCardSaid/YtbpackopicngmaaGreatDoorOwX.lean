/- ScriptOwns: OwP OwS OwA OwB OwC OwD OwE OwF OwG OwH, merged by gen/merge2.py. -/
import Derived.Test.YtbpackopicngmaaGreatDoorScE
import Derived.Test.YtbpackopicngmaaGreatDoorSwH
import Derived.Test.YtbpackopicngmaaGreatDoorWApart
import Derived.Test.YtbpackopicngmaaGreatDoorScA
import Derived.Maps.AppendAt
import Derived.Test.YtbpackopicngmaaGreatDoorProg
import Derived.BigQuiet
import Derived.WalkSpells
import Derived.WalkLawsBesides
import Derived.Lib.Hide
import Derived.Test.YtbpackopicngmaaGreatDoorSwM
import Derived.Deep.RegionHeld3
namespace Go.Proofs.Sc

theorem setF_len {o o' : POp} {f : UInt8} {w : By} (h : setF o f w = .ok o') : o'.list.length ≤ o.list.length + 1 := by
  unfold setF at h
  repeat' split at h
  all_goals first | (cases h; simp) | cases h

theorem setAll_len : ∀ (fs : By) (ws : List By) (o o' : POp), setAll o fs ws = .ok o' → o'.list.length ≤ o.list.length + ws.length
  | fs, [], o, o', h => by
    cases fs <;> simp only [setAll] at h <;> cases h <;> simp
  | [], w :: ws, o, o', h => by
    simp only [setAll] at h
    split at h
    · rename_i o1 h1
      have := setF_len h1
      have := setAll_len [] ws o1 o' h
      simp; omega
    · cases h
  | f :: fs, w :: ws, o, o', h => by
    simp only [setAll] at h
    split at h
    · rename_i o1 h1
      have := setF_len h1
      have := setAll_len fs ws o1 o' h
      simp; omega
    · cases h

theorem stepOf_len {ws : List By} {o : POp} (h : stepOf ws = .ok o) : o.list.length ≤ ws.length := by
  unfold stepOf at h
  split at h
  · cases h
  · split at h
    · cases h
    · split at h
      · cases h
      · have := setAll_len _ _ _ _ h
        simp [POp.zero] at this ⊢
        omega

def stOps (st : PSt) : List POp := match st with | some s => s.ops | none => []

theorem lineStep_lists {N : Nat} {st st' : PSt} {x : By} (h : lineStep st x = .ok st') (hx : x.length ≤ N) (hs : ∀ o ∈ stOps st, o.list.length ≤ N + 1) : ∀ o ∈ stOps st', o.list.length ≤ N + 1 := by
  unfold lineStep at h
  split at h
  · cases h; exact hs
  · cases st with
    | none =>
      simp only at h
      split at h
      · cases h; intro o ho; simp [stOps] at ho
      · cases h
    | some s =>
      simp only at h
      split at h
      · cases h
      · split at h
        · rename_i o1 h1
          cases h
          intro o ho
          rcases List.mem_append.1 (show o ∈ s.ops ++ [o1] from ho) with ho | ho
          · exact hs o ho
          · obtain rfl : o = o1 := by simpa using ho
            have := stepOf_len h1
            have := words_count x []
            unfold wordsOf at *
            omega
        · cases h

theorem parseL_lists {N : Nat} : ∀ (ls : List By) (st : PSt) (no : Nat), (∀ x ∈ ls, x.length ≤ N) → (∀ o ∈ stOps st, o.list.length ≤ N + 1) → ∀ o ∈ (parseL st no ls).1.ops, o.list.length ≤ N + 1
  | [], none, no, _, _ => by intro o ho; simp [parseL, PScript.zero] at ho
  | [], some s, no, _, hs => by intro o ho; exact hs o ho
  | x :: ls, st, no, hl, hs => by
    have key : parseL st no (x :: ls) = match lineStep st x with | .ok st' => parseL st' (no + 1) ls | .error e => (.zero, (no : Int) + 1, e) := by cases st <;> rfl
    rw [key]
    split
    · rename_i st' h
      exact parseL_lists ls st' (no + 1) (fun y hy => hl y (by simp [hy])) (lineStep_lists h (hl x (by simp)) hs)
    · intro o ho; simp [PScript.zero] at ho

theorem parse_lists (t : By) : ∀ o ∈ (parse t).1.ops, o.list.length ≤ t.length + 1 := by
  unfold parse
  split
  · intro o ho; simp [PScript.zero] at ho
  · exact parseL_lists _ _ _ (line_le t) (by intro o ho; simp [stOps] at ho)
end Go.Proofs.Sc
namespace Go.Proofs.YtbpackopicngmaaGreatDoor
open Go.RowKit Go.Proofs.Sc Go.Proofs.YtbpackopicngmaaGreatDoorW.PrintWords

structure PRS (w : World) (ls : List By) (tot : PScript × Int × Int) (i : Nat) (st : PSt) (wr : World) : Prop where
  zero : wr.heap[w.heap.size]? = some (.cells #[.int .i64 0, .slice none 0 0] 25 (0, 0))
  s : ∃ v, wr.heap[w.heap.size + 1]? = some (.cells #[.int .i64 (capOf st), v] 25 (0, 0)) ∧ Kd.S kOp 44 wr w.heap.size (fun _ => True) v (opsOf st)
  lines : wr.heap[w.heap.size + 2]? = some (.cells (lineCells ls) 9 (0, 0))
  below : Below w.heap.size w wr
  res : parseL st i (ls.drop i) = tot
  le : i ≤ ls.length
  few : (opsOf st).length ≤ 2000


def ParsePostS (t : By) (w : World) (e : Ending) (w' : World) : Prop :=
  ∃ v, e = .returned (.tuple #[.agg #[.int .i64 (parse t).1.cap, v], .int .i64 (parse t).2.1, .int .i64 (parse t).2.2]) ∧ Kd.S kOp 44 w' w.heap.size (fun _ => True) v (parse t).1.ops ∧ Below w.heap.size w w'


theorem ParsePostS.mk' {t : By} {w w' : World} {v : Value} {s : PScript} {l c : Int} (h : parse t = (s, l, c)) (hv : Kd.S kOp 44 w' w.heap.size (fun _ => True) v s.ops) (hb : Below w.heap.size w w') :
    ParsePostS t w (.returned (.tuple #[.agg #[.int .i64 s.cap, v], .int .i64 l, .int .i64 c])) w' := by
  unfold ParsePostS; rw [h]; exact ⟨v, rfl, hv, hb⟩


theorem ParsePostS.error {t : By} {w w' : World} {l c : Int} (h : parse t = (PScript.zero, l, c)) (hb : Below w.heap.size w w') :
    ParsePostS t w (.returned (.tuple #[.agg #[.int .i64 0, .slice none 0 0], .int .i64 l, .int .i64 c])) w' :=
  ParsePostS.mk' (s := PScript.zero) h (Kd.S_nil _ _ _ _ _) hb


theorem PRS.later {w : World} {ls : List By} {tot : PScript × Int × Int} {i : Nat} {st : PSt} {wr w1 : World} (h : PRS w ls tot i st wr) (hb : Below wr.heap.size wr w1) : PRS w ls tot i st w1 := by
  obtain ⟨hz, ⟨v, hs, hv⟩, hl, hbw, hr, hle, hf⟩ := h
  exact ⟨(hb.block _ (blk_lt hz)).trans hz, ⟨v, (hb.block _ (blk_lt hs)).trans hs, Kd.S_below hv hb⟩, (hb.block _ (blk_lt hl)).trans hl, hbw.trans (hb.mono hbw.size), hr, hle, hf⟩


theorem PRS.next {w : World} {ls : List By} {tot : PScript × Int × Int} {i : Nat} {st : PSt} {wr : World} {x : By} (h : PRS w ls tot i st wr) (hx : ls[i]? = some x) (hw : wordsOf x = []) : PRS w ls tot (i + 1) st wr := by
  obtain ⟨hz, hs, hl, hbw, hr, hle, hf⟩ := h
  refine ⟨hz, hs, hl, hbw, ?_, (List.getElem?_eq_some_iff.1 hx).1, hf⟩
  rw [Lib.drop_at hx, parseL_ok (st' := st) (by unfold lineStep; rw [if_pos hw])] at hr
  exact hr


theorem PRS.cell {w : World} {ls : List By} {tot : PScript × Int × Int} {i : Nat} {st : PSt} {wr : World} {x : By} (h : PRS w ls tot i st wr) {j : Nat} (hx : ls[j]? = some x) : wr.cell? ⟨w.heap.size + 2, j, none⟩ = some (.string ⟨x.toArray⟩) := by
  rw [blk_cell h.lines]; simp [lineCells, hx]


theorem PRS.errors {w : World} {ls : List By} {tot : PScript × Int × Int} {i : Nat} {st : PSt} {wr : World} {x : By} {c : Int} (h : PRS w ls tot i st wr) (hx : ls[i]? = some x) (hl : lineStep st x = .error c) : tot = (.zero, (i : Int) + 1, c) := by
  rw [← h.res, Lib.drop_at hx, parseL_error hl]


theorem PRS.head {w : World} {ls : List By} {tot : PScript × Int × Int} {i : Nat} {wr : World} {x : By} {n : Int} (h : PRS w ls tot i none wr) (hx : ls[i]? = some x) (hl : lineStep none x = .ok (some ⟨n, []⟩)) : PRS w ls tot (i + 1) (some ⟨n, []⟩) (wr.setCell ⟨w.heap.size + 1, 0, none⟩ (.int .i64 n)) := by
  obtain ⟨hz, ⟨v, hs, hv⟩, hlr, hbw, hr, hle, hf⟩ := h
  refine ⟨blk_far hz (p := ⟨w.heap.size + 1, 0, none⟩) (by simp) _, ⟨v, (blk_set hs 0 _).trans (by simp [capOf]), Kd.S_set hv hs (kOp_types _ (by decide) (by decide)) 0 _⟩, blk_far hlr (p := ⟨w.heap.size + 1, 0, none⟩) (by simp) _, hbw.setCell (p := ⟨w.heap.size + 1, 0, none⟩) (by simp) _, ?_, (List.getElem?_eq_some_iff.1 hx).1, Nat.zero_le _⟩
  rw [Lib.drop_at hx, parseL_ok hl] at hr
  exact hr


theorem PRS.push {w : World} {ls : List By} {tot : PScript × Int × Int} {i : Nat} {sc : PScript} {w2 : World} {v : Value} {x : By} {o : POp} (h : PRS w ls tot i (some sc) w2) (hs2 : w2.heap[w.heap.size + 1]? = some (.cells #[.int .i64 sc.cap, v] 25 (0, 0))) (hv : Kd.S kOp 44 w2 w.heap.size (fun _ => True) v sc.ops)
    (hx : ls[i]? = some x) (hl : lineStep (some sc) x = .ok (some ⟨sc.cap, sc.ops ++ [o]⟩)) (hlen : sc.ops.length + 1 ≤ 2000) {ob : Obj} {w3 : World} {v1 : Value} (hg : (w2.alloc ob).grownBy w3 v.ownBlock) (hR : Kd.S kOp 44 w3 w.heap.size (fun _ => True) v1 (sc.ops ++ [o])) (hB : Below w.heap.size w w3) :
    PRS w ls tot (i + 1) (some ⟨sc.cap, sc.ops ++ [o]⟩) (w3.setCell ⟨w.heap.size + 1, 1, none⟩ v1) ∧ w3.heap[w.heap.size + 1]? = some (.cells #[.int .i64 sc.cap, v] 25 (0, 0)) := by
  obtain ⟨hz, _, hlr, hbw, hr, hle, hf⟩ := h
  have up : ∀ {g t : Nat} {cs : Array Value}, w2.heap[g]? = some (.cells cs t (0, 0)) → 44 ≠ t → w3.heap[g]? = some (.cells cs t (0, 0)) := fun hb ht =>
    blk_grown ((Below.heap_alloc _ _ _ (blk_lt hb)).trans hb) hg (Kd.S_ne hv hb ht)
  have hs3 := up hs2 (by decide)
  refine ⟨⟨blk_far (up hz (by decide)) (p := ⟨w.heap.size + 1, 1, none⟩) (by simp) _, ⟨v1, (blk_set hs3 1 _).trans (by simp [capOf]), Kd.S_set hR hs3 (kOp_types _ (by decide) (by decide)) 1 _⟩, blk_far (up hlr (by decide)) (p := ⟨w.heap.size + 1, 1, none⟩) (by simp) _, hB.setCell (p := ⟨w.heap.size + 1, 1, none⟩) (by simp) _, ?_, (List.getElem?_eq_some_iff.1 hx).1, by simpa [opsOf] using hlen⟩, hs3⟩
  rw [Lib.drop_at hx, parseL_ok hl] at hr
  exact hr


set_option maxHeartbeats 4000000 in
set_option maxRecDepth 100000 in
theorem Parse_anyS (s : ByteArray) (hs : s.size ≤ 33554432) (w : World) {B : Nat} (hE : Env B w) :
    Calls Tryz.prog 7 #[.string s] w (ParsePostS s.data.toList w) := by
  by_cases hbig : 1048576 < s.size
  · have HR := Lib.hid (show parse s.data.toList = (PScript.zero, 0, 264) by unfold parse; rw [if_pos (by rw [← size_list]; exact hbig)])
    have k1 : (1048576 : Int) < (s.size : Int) := by omega
    clear hbig
    go_enter Tryz.func7, Tryz.ntmps7
    go_wp2_with fail
    exact bodyPost_ret (v := .tuple #[.agg #[.int .i64 0, .slice none 0 0], .int .i64 0, .int .i64 264]) (by simp [results, Tryz.results7, go_sem]) rfl (ParsePostS.error HR.out ((Below.refl _ _).alloc (Nat.le_refl _) _))
  · have k1 : ¬ (1048576 : Int) < (s.size : Int) := by omega
    have hpar := Lib.hid (show parse s.data.toList = parseL none 0 (linesOf s.data.toList) by unfold parse; rw [if_neg (by rw [← size_list]; exact hbig)])
    have hsz : s.size ≤ 1048576 := by omega
    have hll : (linesOf s.data.toList).length ≤ 1048577 := by
      rw [linesOf_len]; have := List.count_le_length (a := (10 : UInt8)) (l := s.data.toList); rw [← size_list] at this; omega
    have hle : ∀ x ∈ linesOf s.data.toList, x.length ≤ 1048576 := fun x hx => by have := line_le _ x hx; rw [← size_list] at this; omega
    have HLE := Lib.hid hle
    have SP := fun W (hE' : Env B W) => split_any s hs W hE'
    obtain ⟨ls, hls⟩ : ∃ ls, ls = linesOf s.data.toList := ⟨_, rfl⟩
    rw [← hls] at hpar HLE hll SP
    obtain ⟨n, hn⟩ : ∃ n, n = ls.length := ⟨_, rfl⟩
    rw [← hn] at SP hll
    obtain ⟨tot, htot⟩ : ∃ tot, tot = parseL none 0 ls := ⟨_, rfl⟩
    rw [← htot] at hpar
    have HN := Lib.hid hn
    have HT := Lib.hid htot
    have HSP := Lib.hid SP
    clear hls hle hn htot hbig SP
    go_enter Tryz.func7, Tryz.ntmps7
    go_wp2_with fail
    refine (HSP.out _ ((hE.below ((Below.refl _ _).alloc (Nat.le_refl _) _)).below ((Below.refl _ _).alloc (Nat.le_refl _) _))).mono ?_
    rintro e w1 ⟨rfl, rfl⟩
    have HP0 := Lib.hid (show PRS w ls tot 0 none (((w.alloc (.cells #[.int .i64 0, .slice none 0 0] 25)).alloc (.cells #[.int .i64 0, .slice none 0 0] 25)).alloc (.cells (lineCells ls) 9)) from
      ⟨by rw [Below.heap_alloc _ _ _ (by simp; omega), Below.heap_alloc _ _ _ (by simp)]; exact heap_alloc_new w _,
       ⟨.slice none 0 0, by rw [Below.heap_alloc _ _ _ (by simp)]; have := heap_alloc_new (w.alloc (.cells #[.int .i64 0, .slice none 0 0] 25)) (.cells #[.int .i64 0, .slice none 0 0] 25); simpa [capOf] using this, Kd.S_nil _ _ _ _ _⟩,
       by have := heap_alloc_new ((w.alloc (.cells #[.int .i64 0, .slice none 0 0] 25)).alloc (.cells #[.int .i64 0, .slice none 0 0] 25)) (.cells (lineCells ls) 9); simpa using this,
       (((Below.refl _ _).alloc (Nat.le_refl _) _).alloc (by simp) _).alloc (by simp; omega) _, HT.out.symm, Nat.zero_le _, Nat.zero_le _⟩)
    have hEW : Env w.heap.size w := hE.up hE.le (Nat.le_refl _)
    clear hE HT HSP
    go_wp2_with fail
    go_loopw [6, 21] (fun b v wr => ∃ (i : Nat) (st : PSt), b = .bool st.isSome ∧ v = .int .i64 (i : Int) ∧ PRS w ls tot i st wr) (fun _ v _ => n - (intOf v).toNat)
    case atStart => exact ⟨0, none, rfl, rfl, HP0.out⟩
    case round =>
      obtain ⟨i, st, rfl, rfl, hR⟩ := hrel
      have hil := hR.le
      by_cases hlt : i < n
      · obtain ⟨x, hx⟩ : ∃ x, ls[i]? = some x := ⟨ls[i]'(by have := HN.out; omega), List.getElem?_eq_getElem _⟩
        have hxc := hR.cell hx
        have hxl := HLE.out x (List.mem_of_getElem? hx)
        obtain ⟨hwl1, hwl2⟩ := word_len x hxl
        have HX := Lib.hid hx
        have HWL := Lib.hid hwl1
        clear hx hwl1
        go_wp2_with fail
        refine (words_any ⟨x.toArray⟩ (by rw [mk_size]; omega) _ (hEW.belowB hR.below)).mono ?_
        rintro e w1 ⟨⟨wv, rfl, hW⟩, hw1⟩
        have hW : Words w1.heap.size w1 wv (wordsOf x) := hW
        have hR1 := hR.later hw1
        have HWV := Lib.hid hW
        obtain ⟨g, c, rfl, hrest⟩ := hW
        obtain ⟨k, hk⟩ : ∃ k, k = (wordsOf x).length := ⟨_, rfl⟩
        rw [← hk] at HWV ⊢
        have HK := Lib.hid hk
        clear hk hrest hxc
        by_cases hk0 : k = 0
        · have hwx : wordsOf x = [] := List.eq_nil_of_length_eq_zero (by rw [← HK.out]; exact hk0)
          have HR2 := Lib.hid (hR1.next HX.out hwx)
          have k2 : ((k : Int) == 0) = true := by rw [beq_iff_eq]; omega
          clear hwx hR1 hR hw1 hk0
          go_wp2_with fail
          go_roundw
          case rel => exact ⟨i + 1, st, rfl, by go_num, HR2.out⟩
          case measure => simp [intOf]; omega
        · have hwx : wordsOf x ≠ [] := fun e => hk0 (by rw [HK.out, e]; rfl)
          have k2 : ((k : Int) == 0) = false := by rw [beq_eq_false_iff_ne]; omega
          have HNE := Lib.hid hwx
          clear hk0 hwx hR
          cases st with
          | none =>
            cases hh : headOf (wordsOf x) with
            | ok nn =>
              have hres : headRes (wordsOf x) = .tuple #[.int .i64 nn, .int .i64 0] := by unfold headRes; rw [hh]
              have HRES := Lib.hid hres
              have HST := Lib.hid (lineStep_head HNE.out hh)
              clear hh hres
              go_wp2_with fail
              refine (first_any (wordsOf x) HNE.out HWL.out _ _ (hEW.belowB hR1.below) HWV.out).mono ?_
              rw [HRES.out]
              rintro e w2 ⟨rfl, hw2⟩
              have hR2 := hR1.later hw2
              have HR3 := Lib.hid (hR2.head HX.out HST.out)
              obtain ⟨v, hs2, _⟩ := hR2.s
              obtain ⟨c0, c1, f0, f1⟩ := script_cells hs2
              clear hs2 hR1 hR2
              go_wp2_with fail
              go_roundw
              case rel => exact ⟨i + 1, some ⟨nn, []⟩, rfl, by go_num, HR3.out⟩
              case measure => simp [intOf]; omega
            | error cc =>
              have hres : headRes (wordsOf x) = .tuple #[.int .i64 0, .int .i64 cc] := by unfold headRes; rw [hh]
              have HRES := Lib.hid hres
              have hcn := headOf_codes hh
              have HST := Lib.hid (lineStep_headE HNE.out hh)
              clear hh hres
              go_wp2_with fail
              refine (first_any (wordsOf x) HNE.out HWL.out _ _ (hEW.belowB hR1.below) HWV.out).mono ?_
              rw [HRES.out]
              rintro e w2 ⟨rfl, hw2⟩
              have hR2 := hR1.later hw2
              have HF := Lib.hid (show parse s.data.toList = (.zero, (i : Int) + 1, cc) from hpar.out.trans (hR2.errors HX.out HST.out))
              obtain ⟨c0, c1, f0, f1⟩ := script_cells hR2.zero
              have hbw := hR2.below
              clear hR1 hR2
              go_wp2_with fail
              exact bodyPost_ret (v := .tuple #[.agg #[.int .i64 0, .slice none 0 0], .int .i64 ((i : Int) + 1), .int .i64 cc]) (by simp [results, Tryz.results7, go_sem, c0, c1]) rfl (ParsePostS.error HF.out (two_below hbw (Nat.le_refl _) _ _))
          | some sc =>
            have hfew := hR1.few
            obtain ⟨v, hs1, hv1⟩ := hR1.s
            have hv1 : Kd.S kOp 44 w1 w.heap.size (fun _ => True) v sc.ops := hv1
            obtain ⟨A1, cA, rfl⟩ := Kd.S_slice hv1
            obtain ⟨b0, b1, g0, g1⟩ := script_cells hs1
            by_cases hmany : sc.ops.length = 2000
            · have k3 : ((sc.ops.length : Int) == 2000) = true := by rw [beq_iff_eq]; omega
              have HF := Lib.hid (show parse s.data.toList = (.zero, (i : Int) + 1, 264) from hpar.out.trans (hR1.errors HX.out (lineStep_many HNE.out hmany)))
              obtain ⟨c0, c1, f0, f1⟩ := script_cells hR1.zero
              have hbw := hR1.below
              clear hR1 hs1 hv1 hmany
              go_wp2_with fail
              exact bodyPost_ret (v := .tuple #[.agg #[.int .i64 0, .slice none 0 0], .int .i64 ((i : Int) + 1), .int .i64 264]) (by simp [results, Tryz.results7, go_sem, c0, c1]) rfl (ParsePostS.error HF.out (two_below hbw (Nat.le_refl _) _ _))
            · have k3 : ((sc.ops.length : Int) == 2000) = false := by rw [beq_eq_false_iff_ne]; omega
              have hfew : sc.ops.length ≤ 2000 := hfew
              cases hh : stepOf (wordsOf x) with
              | ok o =>
                have HST := Lib.hid (lineStep_step HNE.out hmany hh)
                have hlen4 : sc.ops.length + 1 ≤ 2000 := by omega
                have HH := Lib.hid hh
                clear hh hmany
                go_wp2_with fail
                refine (step_any (wordsOf x) HNE.out HWL.out hwl2 _ _ (hEW.belowB hR1.below) HWV.out (Nat.le_refl _)).mono ?_
                rintro e w2 hS
                obtain ⟨⟨lv, rfl, hown⟩, hw2⟩ := StepPost.of_ok hS HH.out
                have hR2 := hR1.later hw2
                have hv2 := Kd.S_mono (Kd.S_old hv1 hw2) (fun k hk => (⟨trivial, Nat.not_le.2 hk.2⟩ : True ∧ ¬ w1.heap.size ≤ k))
                have hs2 := (hw2.block _ (blk_lt hs1)).trans hs1
                obtain ⟨A2, cB, rfl⟩ := own_slice hown
                obtain ⟨d0, d1, q0, q1⟩ := script_cells hs2
                have hlt2 := Kd.S_lt hv1
                have hlt3 : w.heap.size + 1 < w2.heap.size := blk_lt hs2
                have HRR := Lib.hid hR2
                have hM : kOp.M w2 w.heap.size (fun k => w1.heap.size ≤ k) o [.int .i64 o.kind, .int .i64 o.a, .int .i64 o.b, .string ⟨o.name.toArray⟩, .string ⟨o.text.toArray⟩, .slice A2 o.list.length cB] :=
                  kOp_mkM _ _ _ _ (Kd.R_lower (Kd.R_of_own hown (fun k hk => own_base hown k hk)) (hR1.below.size))
                have HMM := Lib.hid hM
                have HV2 := Lib.hid hv2
                have HS2 := Lib.hid hs2
                have HL2 := Lib.hid hlt2
                have HW2 := Lib.hid hw2
                have hbs := hR2.below
                clear hS hs1 hR1 b0 b1 g0 g1 hM hv2 hs2 hlt2 hR2 hown hv1
                go_wp2_with (at_builtin; go_must (refine Kd.S_append kOp (w0 := w) w.heap.size rfl (.tmp 68) (.tmp 70) 23 44 (.agg zeroOp) 80 rfl Tryz.underlying23 info_op rfl (by decide) (by omega) (.slice A1 sc.ops.length cA) sc.ops o [.int .i64 o.kind, .int .i64 o.a, .int .i64 o.b, .string ⟨o.name.toArray⟩, .string ⟨o.text.toArray⟩, .slice A2 o.list.length cB] (fun _ => True) (fun k => w1.heap.size ≤ k) rfl ?hx ?hp ?hokp (fun _ _ => trivial) ?HO ?HB ?hbase ?hl ?_))
                case hx => show Value.slice (some ⟨w2.heap.size + 1, 0, none⟩) 1 1 = _; simp
                case hp => exact Kd.M_alloc HMM.out _
                case hokp => exact fun k hk => ⟨trivial, fun e => by have := HL2.out k e.symm; omega⟩
                case HO => exact Kd.S_alloc HV2.out _
                case HB => exact hbs.alloc hbs.size _
                case hbase => have := hbs.size; simp; omega
                case hl => omega
                intro v1 w3 hR3 hBw hg hat
                obtain ⟨hPR, hs3⟩ := PRS.push HRR.out HS2.out (Kd.S_mono HV2.out (fun _ _ => trivial)) HX.out HST.out hlen4 hg hR3 hBw
                have HPR := Lib.hid hPR
                obtain ⟨A3, cC, hvv⟩ := Kd.S_slice hR3
                rw [List.length_append, List.length_singleton] at hvv
                subst hvv
                obtain ⟨d0', d1', q0', q1'⟩ := script_cells hs3
                clear hR3 hBw hg hat hPR hs3 d0 d1 q0 q1
                go_wp2_with fail
                go_roundw
                case rel => exact ⟨i + 1, _, rfl, by go_num, HPR.out⟩
                case measure => simp [intOf]; omega
              | error cc =>
                have hcn := stepOf_codes hh
                have HF := Lib.hid (show parse s.data.toList = (.zero, (i : Int) + 1, cc) from hpar.out.trans (hR1.errors HX.out (lineStep_stepE HNE.out hmany hh)))
                have HH := Lib.hid hh
                clear hh hmany
                go_wp2_with fail
                refine (step_any (wordsOf x) HNE.out HWL.out hwl2 _ _ (hEW.belowB hR1.below) HWV.out (Nat.le_refl _)).mono ?_
                rintro e w2 hS
                obtain ⟨rfl, hw2⟩ := StepPost.of_error hS HH.out
                obtain ⟨c0, c1, f0, f1⟩ := script_cells (hR1.later hw2).zero
                have hbw := (hR1.later hw2).below
                have hsz2 := hw2.size
                have hzlt := blk_lt (hR1.later hw2).zero
                unfold zeroOp
                clear hS hs1 hR1 hv1 b0 b1 g0 g1
                go_wp2_with fail
                exact bodyPost_ret (v := .tuple #[.agg #[.int .i64 0, .slice none 0 0], .int .i64 ((i : Int) + 1), .int .i64 cc]) (by simp [results, Tryz.results7, go_sem, c0, c1, hzlt]) rfl (ParsePostS.error HF.out ((two_below hbw (Nat.le_refl _) _ _).alloc (by simp [World.setCell]; omega) _))
      · obtain rfl : i = n := by have := HN.out; omega
        have hfin := hR.res
        rw [List.drop_of_length_le (by have := HN.out; omega)] at hfin
        cases st with
        | none =>
          have HF := Lib.hid (show parse s.data.toList = (PScript.zero, 0, 260) from hpar.out.trans hfin.symm)
          obtain ⟨c0, c1, f0, f1⟩ := script_cells hR.zero
          have hbw := hR.below
          clear hR hfin
          go_wp2_with fail
          exact bodyPost_ret (v := .tuple #[.agg #[.int .i64 0, .slice none 0 0], .int .i64 0, .int .i64 260]) (by simp [results, Tryz.results7, go_sem, c0, c1]) rfl (ParsePostS.error HF.out (two_below hbw (Nat.le_refl _) _ _))
        | some sc =>
          have HF := Lib.hid (show parse s.data.toList = (sc, 0, 0) from hpar.out.trans hfin.symm)
          obtain ⟨c0, c1, f0, f1⟩ := script_cells hR.zero
          have hbw := hR.below
          have hz := hR.zero
          obtain ⟨v, hs1, hv1⟩ := hR.s
          have hv1 : Kd.S kOp 44 wr w.heap.size (fun _ => True) v sc.ops := hv1
          have hs1 : wr.heap[w.heap.size + 1]? = some (.cells #[.int .i64 sc.cap, v] 25 (0, 0)) := hs1
          obtain ⟨A1, cA, rfl⟩ := Kd.S_slice hv1
          obtain ⟨b0, b1, g0, g1⟩ := script_cells hs1
          have HV := Lib.hid (show ∀ u0 u1 : Value, Kd.S kOp 44 ((wr.setCell ⟨w.heap.size, 0, none⟩ u0).setCell ⟨w.heap.size, 1, none⟩ u1) w.heap.size (fun _ => True) (.slice A1 sc.ops.length cA) sc.ops from
            fun u0 u1 => Kd.S_set (Kd.S_set hv1 hz (kOp_types _ (by decide) (by decide)) 0 u0) (blk_set hz 0 u0) (kOp_types _ (by decide) (by decide)) 1 u1)
          clear hR hfin hv1 hs1 hz
          go_wp2_with fail
          exact bodyPost_ret (v := .tuple #[.agg #[.int .i64 sc.cap, .slice A1 sc.ops.length cA], .int .i64 0, .int .i64 0]) (by simp [results, Tryz.results7, go_sem, c0, c1]) rfl (ParsePostS.mk' HF.out (HV.out _ _) (two_below hbw (Nat.le_refl _) _ _))
end Go.Proofs.YtbpackopicngmaaGreatDoor
namespace Go.Proofs.YtbpackopicngmaaGreatDoor
open Go.RowKit Go.Proofs.Sc Go.Proofs.YtbpackopicngmaaGreatDoorW.PrintWords

/-- A row of cells (sz of them an element, of type t) in a block of owner o, or nil. -/
abbrev Row (B : Nat) (f : Nat → Nat) (o sz t : Nat) (W : World) (v : Value) (l : List (List Value)) : Prop := (Kd.raw sz).R t W B (fun k => f k = o) v l

theorem raw_of {α : Type} {d : Kd α} {e base : Nat} {ok : Nat → Prop} {W : World} {v : Value} {xs : List α} (h : d.R e W base ok v xs) : ∃ rows, rows.length = xs.length ∧ (Kd.raw d.sz).R e W base ok v rows := by
  obtain ⟨h0, inner, ho, hr⟩ := h
  have hlen : ((List.range xs.length).map fun j => (inner.drop (j * d.sz)).take d.sz).length = xs.length := by rw [List.length_map, List.length_range]
  refine ⟨(List.range xs.length).map fun j => (inner.drop (j * d.sz)).take d.sz, hlen, h0, inner, by rw [hlen]; exact ho, by rw [hlen]; exact hr.1, fun j p hj => ?_⟩
  rw [List.getElem?_map] at hj
  obtain ⟨j', hj', rfl⟩ := Option.map_eq_some_iff.1 hj
  obtain ⟨hl, he⟩ := List.getElem?_eq_some_iff.1 hj'
  rw [List.getElem_range] at he
  subst he
  rw [List.length_range] at hl
  have hm := d.K_of_M (hr.2 j _ (List.getElem?_eq_getElem hl))
  exact ⟨rfl, d.K_len hm, d.K_one hm⟩
theorem raw_tight {sz e base : Nat} {ok : Nat → Prop} {W : World} {v : Value} {rows : List (List Value)} (h : (Kd.raw sz).R e W base ok v rows) : (Kd.raw sz).R e W base (fun k => some k = v.ownBlock) v rows := Kd.R_tight rfl h

theorem R_owner {α : Type} {d : Kd α} {e base : Nat} {P : Nat → Prop} {f f' : Nat → Nat} {W : World} {v : Value} {xs : List α} (h : d.R e W base (fun k => P (f k)) v xs) (hf : ∀ k, k < W.heap.size → f' k = f k) : d.R e W base (fun k => P (f' k)) v xs :=
  Kd.R_mono (Kd.R_bound h) (fun k hk => by rw [hf k hk.2.2.1]; exact hk.1)
theorem R_stays {α : Type} {d : Kd α} {e base : Nat} {P : Nat → Prop} {f : Nat → Nat} {W W1 : World} {v : Value} {xs : List α} (h : d.R e W base (fun k => P (f k)) v xs) (hm : ∀ k, k < W.heap.size → P (f k) → W1.heap[k]? = W.heap[k]?) : d.R e W1 base (fun k => P (f k)) v xs :=
  Kd.R_step h (fun k ho hk => hm k hk ho)

section
variable {B o sz t : Nat} {f f' : Nat → Nat} {W W1 : World} {v : Value} {l : List (List Value)}
theorem Row.owner (h : Row B f o sz t W v l) (hf : ∀ k, k < W.heap.size → f' k = f k) : Row B f' o sz t W v l := R_owner (P := fun x => x = o) h hf
theorem Row.stays (h : Row B f o sz t W v l) (hm : ∀ k, k < W.heap.size → f k = o → W1.heap[k]? = W.heap[k]?) : Row B f o sz t W1 v l := R_stays (P := fun x => x = o) h hm
theorem Row.move (h : Row B f o sz t W v l) (he : ∀ k, k < W.heap.size → f' k = f k) (hm : ∀ k, k < W.heap.size → f k = o → W1.heap[k]? = W.heap[k]?) : Row B f' o sz t W1 v l :=
  (h.owner he).stays (fun k hk ho => hm k hk ((he k hk).symm.trans ho))
theorem R_moved {α : Type} {d : Kd α} {e base : Nat} {P : Nat → Prop} {f f' : Nat → Nat} {W W1 : World} {v : Value} {xs : List α} (h : d.R e W base (fun k => P (f k)) v xs) (he : ∀ k, k < W.heap.size → f' k = f k) (hm : ∀ k, k < W.heap.size → P (f k) → W1.heap[k]? = W.heap[k]?) : d.R e W1 base (fun k => P (f' k)) v xs :=
  R_stays (R_owner h he) (fun k hk ho => hm k hk (by rw [← he k hk]; exact ho))
theorem snoc_at {α : Type} {vs : List α} {v x : α} {i : Nat} (h : (vs ++ [v])[i]? = some x) : vs[i]? = some x ∨ (i = vs.length ∧ x = v) := by
  by_cases hi : i < vs.length
  · rw [List.getElem?_append_left hi] at h; exact Or.inl h
  · have := (List.getElem?_eq_some_iff.1 h).1
    simp at this
    obtain rfl : i = vs.length := by omega
    rw [List.getElem?_append_right (Nat.le_refl _), Nat.sub_self] at h
    exact Or.inr ⟨rfl, (Option.some.inj h).symm⟩
theorem Row.nil : Row B f o sz t W (.slice none 0 0) [] := Kd.R_nil _ _ _ _ _
theorem Row.slice (h : Row B f o sz t W v l) : ∃ A c, v = .slice A l.length c ∧ l.length ≤ c ∧ c ≤ 9223372036854775807 := by
  obtain ⟨A, c, rfl, hc, _⟩ := Kd.R_reads h
  refine ⟨A, c, rfl, hc, ?_⟩
  obtain ⟨_, inner, ho, _⟩ := h
  have hml : maxLen ≤ 9223372036854775807 := by decide
  rcases ho.2 with ⟨e, _⟩ | ⟨g', cap, cur, e, _, _, _, hm, _⟩
  · injection e with _ _ e; omega
  · injection e with _ _ e; omega
/-- Its cells. -/
theorem Row.get (h : Row B f o sz t W v l) {i : Nat} {x : List Value} (hx : l[i]? = some x) : ∃ g c, v = .slice (some ⟨g, 0, none⟩) l.length c ∧ f g = o ∧ B ≤ g ∧ g < W.heap.size ∧ (∃ cs, W.heap[g]? = some (.cells cs t (0, 0))) ∧ x.length = sz ∧ (∀ u ∈ x, u.oneCell' = true) ∧ ∀ j u, x[j]? = some u → W.cell? ⟨g, i * sz + j, none⟩ = some u := by
  have hi := (List.getElem?_eq_some_iff.1 hx).1
  obtain ⟨g, c, rfl, hb, hs, hcs⟩ := Kd.R_form h (by omega)
  obtain ⟨c', _, hM, hcell, _⟩ := Kd.R_elem h [] (i : Int) (by omega) (by omega)
  have hg : f g = o := h.1 g (by simp [Value.ownBlock])
  rw [Int.toNat_natCast] at hM hcell
  rw [List.getD_eq_getElem?_getD, hx] at hM
  obtain ⟨rfl, hl, h1⟩ := hM
  exact ⟨g, c, rfl, hg, hb, hs, hcs, hl, h1, hcell⟩
end

/-- append of one element: it stays in its row, or all that was there is as it was. -/
theorem app_split {P : Program} (w : World) (base : Nat) (t ty e : TypeId) (z : Value) (size bytes : Nat) (ht : P.underlying t = some (.slice e)) (hinfo : (P.info? e).map (fun i => (i.zero, i.size, i.bytes)) = some (some z, size, bytes)) (hzs : z.cells.size = size) (hsz : 0 < size) (hb0 : 0 < bytes)
    (v : Value) (n : Nat) (xs ys : List Value) (hown : w.ownsRow base e size v n xs) (ad : Addr) (hl : ys.length = size) (hnews : ∀ j u, ys[j]? = some u → w.cell? (ad.add j) = some u) (h1 : ∀ u ∈ ys, u.oneCell' = true) (hbytes : (n + 1) * bytes ≤ 140737488355328) (hbase : base ≤ w.heap.size) :
    ∃ v' w', (Builtin.append_ #[t, t] ty #[v, .slice (some ad) 1 1]).run P w = .ok v' w' ∧ w'.ownsRow base e size v' (n + 1) (xs ++ ys) ∧ w.grownBy w' v.ownBlock ∧
      ((∃ g cap, v = .slice (some ⟨g, 0, none⟩) n cap ∧ v' = .slice (some ⟨g, 0, none⟩) (n + 1) cap) ∨ (v'.ownBlock = some w.heap.size ∧ w.grownBy w' none)) := by
  obtain ⟨i, hi, hii⟩ := Option.map_eq_some_iff.1 hinfo
  simp only [Prod.mk.injEq] at hii
  obtain ⟨hz, hs, hby⟩ := hii
  have hn1 : n + 1 ≤ 140737488355328 := Nat.le_trans (Nat.le_mul_of_pos_right (n + 1) hb0) hbytes
  have hmax : n + 1 ≤ maxLen := by simp only [maxLen]; omega
  obtain ⟨v', w', hr, ho, hg, hnil, hat⟩ := run_append_own_at (P := P) w base t ty e i z size bytes ht hi hz hs hby hzs hsz v n xs hown ad 1 1 ys (by rw [hl, Nat.one_mul]) hnews h1 hmax hbytes hbase
  refine ⟨v', w', hr, ho, hg, ?_⟩
  rcases hown.2 with ⟨hv, hn⟩ | ⟨g, cap, cur, hv, hbg, hgc, hnc, hcm, hcs, htk⟩
  · subst hv
    rcases hat with hat | hat
    · rcases ho.2 with ⟨_, hn'⟩ | ⟨g', cap', cur', hv', _⟩
      · omega
      · rw [hv'] at hat; simp [Value.ownBlock] at hat
    · exact Or.inr ⟨hat, hg⟩
  · subst hv
    rcases Nat.lt_or_ge cap (n + 1) with hlt | hge
    · have := run_append_grow (P := P) w t ty e i z ht hi hz ⟨g, 0, none⟩ n cap xs (by rw [hown.1, hs]) (hown.cells (g := g) rfl) ad 1 1 ys (by rw [hl, hs, Nat.one_mul]) hnews hlt (by omega) (growslice_fits hlt (by rw [hby]; exact hbytes))
      rw [hr] at this
      injection this with hv' hw'
      subst hv'; subst hw'
      exact Or.inr ⟨by simp [Value.ownBlock], ⟨rfl, rfl, rfl, by simp, fun k hk _ => Below.heap_alloc w.drew _ k hk⟩⟩
    · have hfit : n * i.size + ys.length ≤ cur.size := by
        rw [hl, hcs, hs, ← Nat.succ_mul]; exact Nat.mul_le_mul_right _ hge
      have := run_append_room (P := P) w t ty e i ht hi g n cap cur hgc ad 1 1 ys (by rw [hl, hs, Nat.one_mul]) hnews h1 hge hfit
      rw [hr] at this
      injection this with hv' hw'
      exact Or.inl ⟨g, cap, rfl, hv'⟩

/-- How a row came out of an append. -/
def Went (v v1 : Value) (n : Nat) (w w1 : World) : Prop :=
  w.grownBy w1 v.ownBlock ∧ ((∃ g cap, v = .slice (some ⟨g, 0, none⟩) n cap ∧ v1 = .slice (some ⟨g, 0, none⟩) (n + 1) cap) ∨ ((∃ b, v1.ownBlock = some b ∧ w.heap.size ≤ b) ∧ w.grownBy w1 none))

section
variable {P : Program} {ops : Array Oper} {rest : List Oper} {o : Oper} {a : Act} {Q : Exit → Act → World → Prop} {Kc : Act → World → Prop}
/-- append of one element to a row of cells: its run. W: without the variadic's box. -/
theorem row_run {w0 W : World} (base : Nat) (t e ty : TypeId) (z : Value) (size bytes : Nat)
    (ht : P.underlying t = some (.slice e)) (hinfo : (P.info? e).map (fun i => (i.zero, i.size, i.bytes)) = some (some z, size, bytes)) (hz : z.cells.size = size) (hs0 : 0 < size) (hb0 : 0 < bytes)
    (v : Value) (rows : List (List Value)) (p : List Value) (ok : Nat → Prop) (hp : p.length = size) (h1 : ∀ u ∈ p, u.oneCell' = true) (hfresh : ∀ k, W.heap.size ≤ k → ok k)
    (HO : (Kd.raw size).R e W base ok v rows) (HB : Below base w0 W) (hbase : base ≤ W.heap.size) (hl : (rows.length + 1) * bytes ≤ 140737488355328) :
    ∃ v1 w1, (Builtin.append_ #[t, t] ty #[v, .slice (some ⟨W.heap.size, 0, none⟩) 1 1]).run P (W.alloc (.cells p.toArray e)) = .ok v1 w1 ∧ (Kd.raw size).R e w1 base ok v1 (rows ++ [p]) ∧ Below base w0 w1 ∧ Went v v1 rows.length W w1 := by
  obtain ⟨h0, inner, hown, hr⟩ := HO
  obtain ⟨v1, w1, hrun, ho, hg, hat⟩ := app_split (P := P) (W.alloc (.cells p.toArray e)) base t ty e z size bytes ht hinfo hz hs0 hb0 v rows.length inner p (hown.alloc _) ⟨W.heap.size, 0, none⟩ hp
    (by simpa using World.news_of_block (cs := p.toArray) (t := e) (fr := (0, 0)) (heap_alloc_new W (.cells p.toArray e))) h1 hl (by simp; omega)
  have hg' : W.grownBy w1 v.ownBlock := World.grownBy.trans (World.grownBy_alloc W _ _) hg
  have hat' : v1.ownBlock = v.ownBlock ∨ ∃ b, v1.ownBlock = some b ∧ W.heap.size ≤ b := by
    rcases hat with ⟨g, cap, h2, h3⟩ | ⟨h2, _⟩
    · rw [h2, h3]; exact Or.inl rfl
    · exact Or.inr ⟨_, h2, by simp⟩
  refine ⟨v1, w1, hrun, Kd.R_appended (d := Kd.raw size) (okp := fun _ => False) h0 hr (p := p) (cs := p) ⟨rfl, hp, h1⟩ (fun _ h => h.elim) hfresh ho hg' hat', (HB.alloc hbase _).grown hg (by simp; omega) (own_base hown), hg', ?_⟩
  rcases hat with ⟨g, cap, h2, h3⟩ | ⟨h2, h3⟩
  · exact Or.inl ⟨g, cap, h2, h3⟩
  · exact Or.inr ⟨⟨_, h2, by simp⟩, World.grownBy.trans (World.grownBy_alloc W _ _) h3⟩

theorem row_append {w0 W : World} (base : Nat) (hgd : o.guard = none) (s x : Operand) (t e : TypeId) (z : Value) (size bytes : Nat)
    (ho : o.op = .call { callee := .builtin .append, args := #[s, x], argTypes := #[t, t] })
    (ht : P.underlying t = some (.slice e)) (hinfo : (P.info? e).map (fun i => (i.zero, i.size, i.bytes)) = some (some z, size, bytes)) (hz : z.cells.size = size) (hs0 : 0 < size) (hb0 : 0 < bytes)
    (v : Value) (rows : List (List Value)) (p : List Value) (ok : Nat → Prop) (hs : a.eval s = v) (hx : a.eval x = .slice (some ⟨W.heap.size, 0, none⟩) 1 1) (hp : p.length = size) (h1 : ∀ u ∈ p, u.oneCell' = true) (hfresh : ∀ k, W.heap.size ≤ k → ok k)
    (HO : (Kd.raw size).R e W base ok v rows) (HB : Below base w0 W) (hbase : base ≤ W.heap.size) (hl : (rows.length + 1) * bytes ≤ 140737488355328)
    (h : ∀ v1 w1, (Kd.raw size).R e w1 base ok v1 (rows ++ [p]) → Below base w0 w1 → Went v v1 rows.length W w1 → wpList P ops Q rest (a.put o.dst v1) w1) :
    wpList P ops Q (o :: rest) a (W.alloc (.cells p.toArray e)) := by
  obtain ⟨v1, w1, hrun, h2, h3, h4⟩ := row_run (P := P) base t e o.type z size bytes ht hinfo hz hs0 hb0 v rows p ok hp h1 hfresh HO HB hbase hl
  refine wpList_plain hgd fun K hK => ?_
  unfold Oper.wp execOp
  simp only [ho, resolve, invoke, builtin, Sem.run_bind, Sem.run_pure, Result.andThen_ok, List.map_toArray, List.map_cons, List.map_nil, hs, hx, hrun]
  exact hK _ _ (h v1 w1 h2 h3 h4)

theorem row_append_step {w0 W : World} (base : Nat) (hw : Region.wanted o (yielded ops a.tmps) = true) (s x : Operand) (t e : TypeId) (z : Value) (size bytes : Nat)
    (ho : o.op = .call { callee := .builtin .append, args := #[s, x], argTypes := #[t, t] })
    (ht : P.underlying t = some (.slice e)) (hinfo : (P.info? e).map (fun i => (i.zero, i.size, i.bytes)) = some (some z, size, bytes)) (hz : z.cells.size = size) (hs0 : 0 < size) (hb0 : 0 < bytes)
    (v : Value) (rows : List (List Value)) (p : List Value) (ok : Nat → Prop) (hs : a.eval s = v) (hx : a.eval x = .slice (some ⟨W.heap.size, 0, none⟩) 1 1) (hp : p.length = size) (h1 : ∀ u ∈ p, u.oneCell' = true) (hfresh : ∀ k, W.heap.size ≤ k → ok k)
    (HO : (Kd.raw size).R e W base ok v rows) (HB : Below base w0 W) (hbase : base ≤ W.heap.size) (hl : (rows.length + 1) * bytes ≤ 140737488355328)
    (h : ∀ v1 w1, (Kd.raw size).R e w1 base ok v1 (rows ++ [p]) → Below base w0 w1 → Went v v1 rows.length W w1 → Kc (a.put o.dst v1) w1) :
    if Region.wanted o (yielded ops a.tmps) = true then Oper.wp P o a (W.alloc (.cells p.toArray e)) Kc Q else Kc (a.put o.dst undef) (W.alloc (.cells p.toArray e)) := by
  obtain ⟨v1, w1, hrun, h2, h3, h4⟩ := row_run (P := P) base t e o.type z size bytes ht hinfo hz hs0 hb0 v rows p ok hp h1 hfresh HO HB hbase hl
  rw [if_pos hw]
  unfold Oper.wp execOp
  simp only [ho, resolve, invoke, builtin, Sem.run_bind, Sem.run_pure, Result.andThen_ok, List.map_toArray, List.map_cons, List.map_nil, hs, hx, hrun]
  exact h v1 w1 h2 h3 h4
end

theorem reps_flat {sz : Nat} {W : World} {base : Nat} {ok : Nat → Prop} : ∀ (rows : List (List Value)) (inner : List Value), Reps ((Kd.raw sz).M W base ok) sz rows inner → inner = rows.flatten
  | [], inner, h => List.eq_nil_of_length_eq_zero (by rw [h.1]; simp)
  | r :: rs, inner, h => by
    have h0 : (inner.drop (0 * sz)).take sz = r := (h.2 0 r rfl).1
    rw [Nat.zero_mul, List.drop_zero] at h0
    have ih := reps_flat (sz := sz) (W := W) (base := base) (ok := ok) rs (inner.drop sz) ⟨by rw [List.length_drop, h.1, List.length_cons, Nat.succ_mul, Nat.add_sub_cancel], fun j p hj => by
      have := h.2 (j + 1) p (by simpa using hj)
      rwa [Nat.succ_mul, Nat.add_comm, ← List.drop_drop] at this⟩
    rw [List.flatten_cons, ← h0, ← ih, List.take_append_drop]

/-- A row that may share its block with the one that was appended to, and is no longer, stays. -/
theorem share {base sz t : Nat} {ok ok' ok1 : Nat → Prop} {W w1 : World} {u v v1 : Value} {lu lv : List (List Value)} {p : List Value} (hs0 : 0 < sz) (hu : (Kd.raw sz).R t W base ok u lu) (hv : (Kd.raw sz).R t W base ok' v lv) (hle : lu.length ≤ lv.length)
    (hv1 : (Kd.raw sz).R t w1 base ok1 v1 (lv ++ [p])) (hw : Went v v1 lv.length W w1) : (Kd.raw sz).R t w1 base ok u lu := by
  obtain ⟨hg, hat⟩ := hw
  rcases hat with ⟨g, cap, rfl, rfl⟩ | ⟨_, hn⟩
  · by_cases hub : u.ownBlock = some g
    · obtain ⟨h0, inner, ho, hr⟩ := hu
      refine ⟨h0, inner, ⟨ho.1, ?_⟩, hr⟩
      obtain ⟨_, inv, hov, hrv⟩ := hv
      obtain ⟨_, in1, ho1, hr1⟩ := hv1
      rcases ho.2 with ⟨rfl, _⟩ | ⟨gu, capu, cur, hue, hbu, hcu, hnu, hmu, hsu, htu⟩
      · simp [Value.ownBlock] at hub
      · subst hue
        have : gu = g := by simpa [Value.ownBlock] using hub
        subst this
        rcases hov.2 with ⟨e, _⟩ | ⟨gv, capv, curv, hve, hbv, hcv, hnv, hmv, hsv, htv⟩
        · cases e
        · obtain ⟨rfl, rfl⟩ : gu = gv ∧ cap = capv := by cases hve; exact ⟨rfl, rfl⟩
          obtain rfl : cur = curv := by rw [hcu] at hcv; cases hcv; rfl
          rcases ho1.2 with ⟨e, _⟩ | ⟨g1, cap1, cur1, h1e, hb1, hc1, hn1, hm1, hs1, ht1⟩
          · cases e
          · obtain ⟨rfl, rfl⟩ : gu = g1 ∧ cap = cap1 := by
              injection h1e with ha _ hc
              injection ha with ha
              injection ha with hg
              exact ⟨hg, hc⟩
            have hcc : capu = cap := Nat.eq_of_mul_eq_mul_right hs0 (hsu.symm.trans hsv)
            refine Or.inr ⟨gu, capu, cur1, rfl, hbu, hc1, hnu, hmu, by rw [hs1, hcc], ?_⟩
            have e1 : in1 = inv ++ p := by rw [reps_flat _ _ hr1, reps_flat _ _ hrv, List.flatten_append]; simp
            have hlen : lu.length * sz ≤ inv.length := by rw [hov.1]; exact Nat.mul_le_mul_right _ hle
            have hlen1 : lu.length * sz ≤ (lv ++ [p]).length * (Kd.raw sz).sz := by rw [List.length_append]; exact Nat.mul_le_mul_right _ (by omega)
            have h2 := congrArg (List.take (lu.length * sz)) ht1
            rw [List.take_take, Nat.min_eq_left hlen1, e1, List.take_append_of_le_length hlen, ← htv, List.take_take, Nat.min_eq_left (show lu.length * sz ≤ lv.length * (Kd.raw sz).sz from Nat.mul_le_mul_right _ hle)] at h2
            exact h2.trans htu
    · exact Kd.R_mono (Kd.R_grown (raw_tight hu) hg (fun k hk e => hub (by rw [← hk, e]; rfl))) (fun k hk => hu.1 k hk.symm)
  · exact Kd.R_grown hu hn (fun k _ => by simp)
end Go.Proofs.YtbpackopicngmaaGreatDoor
namespace Go.Proofs.YtbpackopicngmaaGreatDoor
open Go.RowKit Go.Proofs.Sc Go.Proofs.YtbpackopicngmaaGreatDoorW.PrintWords

/-- f' tells of W's blocks what f does. -/
abbrev Elder (W : World) (f f' : Nat → Nat) : Prop := ∀ k, k < W.heap.size → f' k = f k
theorem Elder.trans {W W1 : World} {f f1 f2 : Nat → Nat} (h : Elder W f f1) (hs : W.heap.size ≤ W1.heap.size) (k : Elder W1 f1 f2) : Elder W f f2 := fun b hb => (k b (by omega)).trans (h b hb)

/-- Only blocks of the owners P are written. -/
def Off (f : Nat → Nat) (P : Nat → Prop) (W W1 : World) : Prop := W.heap.size ≤ W1.heap.size ∧ ∀ k, k < W.heap.size → ¬ P (f k) → W1.heap[k]? = W.heap[k]?
theorem Off.refl (f : Nat → Nat) (P : Nat → Prop) (W : World) : Off f P W W := ⟨Nat.le_refl _, fun _ _ _ => rfl⟩
theorem Off.trans {f f' : Nat → Nat} {P : Nat → Prop} {W W1 W2 : World} (h : Off f P W W1) (he : Elder W f f') (k : Off f' P W1 W2) : Off f P W W2 :=
  ⟨Nat.le_trans h.1 k.1, fun b hb hp => (k.2 b (by have := h.1; omega) (by rw [he b hb]; exact hp)).trans (h.2 b hb hp)⟩
theorem Off.mono {f : Nat → Nat} {P Q : Nat → Prop} {W W1 : World} (h : Off f P W W1) (hm : ∀ o, P o → Q o) : Off f Q W W1 := ⟨h.1, fun k hk hq => h.2 k hk (fun hp => hq (hm _ hp))⟩
theorem Off.below {f : Nat → Nat} {P : Nat → Prop} {W W1 : World} (h : Below W.heap.size W W1) : Off f P W W1 := ⟨h.size, fun k hk _ => h.block k hk⟩
theorem cell_block {W W1 : World} {kb : Nat} (h : W1.heap[kb]? = W.heap[kb]?) (j : Nat) : W1.cell? ⟨kb, j, none⟩ = W.cell? ⟨kb, j, none⟩ := World.cell?_of_block (a := ⟨kb, j, none⟩) h

/-- The Book's block; nothing in the kinds that are not used. -/
structure Bk (B kb : Nat) (f : Nat → Nat) (p : Int) (W : World) : Prop where
  blk : ∃ cs, W.heap[kb]? = some (.cells cs 65 (0, 0))
  ge : B ≤ kb
  own : f kb = 0
  base : W.cell? ⟨kb, 0, none⟩ = some (.int .i64 0)
  pass : W.cell? ⟨kb, 1, none⟩ = some (.int .i64 p)
  free : ∀ j, (2 ≤ j ∧ j < 5 ∨ 8 ≤ j ∧ j < 50) → W.cell? ⟨kb, j, none⟩ = some (.slice none 0 0)

section
variable {B kb : Nat} {f f' : Nat → Nat} {p : Int} {W W1 : World}
theorem Bk.lt (h : Bk B kb f p W) : kb < W.heap.size := by obtain ⟨cs, hc⟩ := h.blk; exact blk_lt hc
theorem Bk.keep (h : Bk B kb f p W) (hk : W1.heap[kb]? = W.heap[kb]?) : Bk B kb f p W1 :=
  ⟨by obtain ⟨cs, hc⟩ := h.blk; exact ⟨cs, hk.trans hc⟩, h.ge, h.own, (cell_block hk 0).trans h.base, (cell_block hk 1).trans h.pass, fun j hj => (cell_block hk j).trans (h.free j hj)⟩
theorem Bk.below (h : Bk B kb f p W) (hb : Below W.heap.size W W1) : Bk B kb f p W1 := h.keep (hb.block _ h.lt)
theorem Bk.off (h : Bk B kb f p W) {P : Nat → Prop} (ho : Off f P W W1) (hp : ¬ P 0) : Bk B kb f p W1 := h.keep (ho.2 _ h.lt (by rw [h.own]; exact hp))
theorem Bk.owner (h : Bk B kb f p W) (he : Elder W f f') : Bk B kb f' p W := ⟨h.blk, h.ge, (he _ h.lt).trans h.own, h.base, h.pass, h.free⟩
theorem set_same {W : World} {g j : Nat} {u v : Value} (h : W.cell? ⟨g, j, none⟩ = some v) : (W.setCell ⟨g, j, none⟩ u).cell? ⟨g, j, none⟩ = some u := World.cell?_setCell_same _ _ _ h
theorem set_other {W : World} {g i j : Nat} {u : Value} (h : j ≠ i) : (W.setCell ⟨g, i, none⟩ u).cell? ⟨g, j, none⟩ = W.cell? ⟨g, j, none⟩ := World.cell?_setCell_other _ _ _ _ (by intro e; injection e with _ e _; exact h e.symm)
theorem set_block {W : World} {g k i : Nat} {u : Value} (h : k ≠ g) : (W.setCell ⟨g, i, none⟩ u).heap[k]? = W.heap[k]? := Below.heap_setCell W ⟨g, i, none⟩ u k h
theorem size_set (W : World) (p : Addr) (u : Value) : (W.setCell p u).heap.size = W.heap.size := by simp [World.setCell]
theorem Bk.set (h : Bk B kb f p W) {j : Nat} (hj : 5 ≤ j ∧ j < 8 ∨ 50 ≤ j) (u : Value) : Bk B kb f p (W.setCell ⟨kb, j, none⟩ u) :=
  ⟨by obtain ⟨cs, hc⟩ := h.blk; exact ⟨_, blk_set hc j u⟩, h.ge, h.own, (set_other (by omega)).trans h.base, (set_other (by omega)).trans h.pass, fun i hi => (set_other (by omega)).trans (h.free i hi)⟩
theorem Bk.setPass (h : Bk B kb f p W) (p' : Int) : Bk B kb f p' (W.setCell ⟨kb, 1, none⟩ (.int .i64 p')) :=
  ⟨by obtain ⟨cs, hc⟩ := h.blk; exact ⟨_, blk_set hc 1 _⟩, h.ge, h.own, (set_other (by omega)).trans h.base, set_same h.pass, fun i hi => (set_other (by omega)).trans (h.free i hi)⟩

/-- A list of lists in the Book gets one more: append, and the store into the Book. -/
theorem Bk.push {F o tO : Nat} {V V1 : Value} {rows rows1 : List (List Value)} {w w1 : World} (h : Bk B kb f p w) (hF : 5 ≤ F ∧ F < 8 ∨ 50 ≤ F) (hc : w.cell? ⟨kb, F, none⟩ = some V) (hR : Row B f o 1 tO w V rows) (ho : o ≠ 0) {f1 : Nat → Nat} (he : Elder w f f1)
    (hR1 : Row B f1 o 1 tO w1 V1 rows1) (hw : Went V V1 rows.length w w1) :
    (∀ k, k < w.heap.size → f k ≠ o → f k ≠ 0 → (w1.setCell ⟨kb, F, none⟩ V1).heap[k]? = w.heap[k]?) ∧ (∀ j, j ≠ F → (w1.setCell ⟨kb, F, none⟩ V1).cell? ⟨kb, j, none⟩ = w.cell? ⟨kb, j, none⟩) ∧ (w1.setCell ⟨kb, F, none⟩ V1).cell? ⟨kb, F, none⟩ = some V1 ∧ Bk B kb f1 p (w1.setCell ⟨kb, F, none⟩ V1) ∧ Row B f1 o 1 tO (w1.setCell ⟨kb, F, none⟩ V1) V1 rows1 ∧ w.heap.size ≤ (w1.setCell ⟨kb, F, none⟩ V1).heap.size := by
  have hst : ∀ k, k < w.heap.size → f k ≠ o → w1.heap[k]? = w.heap[k]? := fun k hk hko => hw.1.block k hk (fun e => hko (hR.1 k e.symm))
  have hkb : w1.heap[kb]? = w.heap[kb]? := hst kb h.lt (by rw [h.own]; exact fun e => ho e.symm)
  have hf1 : f1 kb = 0 := (he kb h.lt).trans h.own
  have hc1 : w1.cell? ⟨kb, F, none⟩ = some V := (cell_block hkb F).trans hc
  have h2 := (h.keep hkb).set hF V1
  refine ⟨fun k hk hko hk0 => (set_block (fun e => hk0 (by rw [e]; exact h.own))).trans (hst k hk hko), fun j hj => (set_other hj).trans (cell_block hkb j), set_same hc1, ⟨h2.blk, h2.ge, hf1, h2.base, h2.pass, h2.free⟩, hR1.stays (fun k _ hk => set_block (fun e => ho (by rw [← hk, e]; exact hf1))), by rw [size_set]; exact hw.1.size⟩
end

/-- The kept lists of one kind: F the field, t the elements' type, tO the lists', q the kind (0: numbers, 1: steps). -/
structure Kep (F t tO q : Nat) {α : Type} (d : Kd α) (B kb : Nat) (f : Nat → Nat) (vs ws : List Value) (W : World) : Prop where
  outer : ∃ V, W.cell? ⟨kb, F, none⟩ = some V ∧ Row B f (2 * q + 1) 1 tO W V (vs.map fun v => [v])
  was : ∃ V, W.cell? ⟨kb, F + 1, none⟩ = some V ∧ Row B f (2 * q + 2) 1 tO W V (ws.map fun v => [v])
  grown : W.cell? ⟨kb, F + 2, none⟩ = some (.slice none 0 0)
  elem : ∀ (i : Nat) (v : Value), vs[i]? = some v → ∃ l, Row B f (2 * i + q + 5) d.sz t W v l ∧ l.length ≤ 100000
  same : ∀ (i : Nat) (v u : Value), vs[i]? = some v → ws[i]? = some u → ∃ xs, d.R t W B (fun k => 5 ≤ f k) v xs ∧ d.R t W B (fun k => 5 ≤ f k) u xs

section
variable {F t tO q : Nat} {α : Type} {d : Kd α} {B kb : Nat} {f f' : Nat → Nat} {vs ws : List Value} {W W1 : World}
theorem Kep.owner (h : Kep F t tO q d B kb f vs ws W) (he : Elder W f f') : Kep F t tO q d B kb f' vs ws W := by
  obtain ⟨⟨V, h1, h2⟩, ⟨V', h3, h4⟩, h5, h6, h7⟩ := h
  refine ⟨⟨V, h1, h2.owner he⟩, ⟨V', h3, h4.owner he⟩, h5, fun i v hv => ?_, fun i v u hv hu => ?_⟩
  · obtain ⟨l, h8, h9⟩ := h6 i v hv; exact ⟨l, h8.owner he, h9⟩
  · obtain ⟨xs, h8, h9⟩ := h7 i v u hv hu; exact ⟨xs, R_owner (P := fun x => 5 ≤ x) h8 he, R_owner (P := fun x => 5 ≤ x) h9 he⟩
theorem Kep.keep (h : Kep F t tO q d B kb f vs ws W) (hc : ∀ j, j = F ∨ j = F + 1 ∨ j = F + 2 → W1.cell? ⟨kb, j, none⟩ = W.cell? ⟨kb, j, none⟩) (hm : ∀ k, k < W.heap.size → f k = 2 * q + 1 ∨ f k = 2 * q + 2 ∨ 5 ≤ f k → W1.heap[k]? = W.heap[k]?) : Kep F t tO q d B kb f vs ws W1 := by
  obtain ⟨⟨V, h1, h2⟩, ⟨V', h3, h4⟩, h5, h6, h7⟩ := h
  refine ⟨⟨V, (hc _ (by omega)).trans h1, h2.stays (fun k hk ho => hm k hk (by omega))⟩, ⟨V', (hc _ (by omega)).trans h3, h4.stays (fun k hk ho => hm k hk (by omega))⟩, (hc _ (by omega)).trans h5, fun i v hv => ?_, fun i v u hv hu => ?_⟩
  · obtain ⟨l, h8, h9⟩ := h6 i v hv; exact ⟨l, h8.stays (fun k hk ho => hm k hk (by omega)), h9⟩
  · obtain ⟨xs, h8, h9⟩ := h7 i v u hv hu
    exact ⟨xs, R_stays (P := fun x => 5 ≤ x) h8 (fun k hk ho => hm k hk (by omega)), R_stays (P := fun x => 5 ≤ x) h9 (fun k hk ho => hm k hk (by omega))⟩
theorem Kep.below (h : Kep F t tO q d B kb f vs ws W) (hkb : kb < W.heap.size) (hb : Below W.heap.size W W1) : Kep F t tO q d B kb f vs ws W1 :=
  h.keep (fun j _ => cell_block (hb.block _ hkb) j) (fun k hk _ => hb.block k hk)

/-- One list more is kept. -/
theorem Kep.push {p : Int} {w w1 : World} {V V1 v : Value} {f1 : Nat → Nat} (h : Kep F t tO q d B kb f vs ws w) (hb : Bk B kb f p w) (hF : F = 5 ∨ F = 50) (hq : q ≤ 1) (hlen : ws.length = vs.length) (hc : w.cell? ⟨kb, F, none⟩ = some V) (hV : Row B f (2 * q + 1) 1 tO w V (vs.map fun v => [v])) (he : Elder w f f1)
    (hR1 : Row B f1 (2 * q + 1) 1 tO w1 V1 ((vs.map fun v => [v]) ++ [[v]])) (hw : Went V V1 vs.length w w1) {l : List (List Value)} (hl : Row B f (2 * vs.length + q + 5) d.sz t w v l) (hl2 : l.length ≤ 100000) :
    Kep F t tO q d B kb f1 (vs ++ [v]) ws (w1.setCell ⟨kb, F, none⟩ V1) := by
  obtain ⟨k1, k2, k3, k4, k5, k6⟩ := hb.push (by omega) hc hV (by omega) he hR1 (by rw [List.length_map]; exact hw)
  have hst : ∀ k, k < w.heap.size → f k = 2 * q + 2 ∨ 5 ≤ f k → (w1.setCell ⟨kb, F, none⟩ V1).heap[k]? = w.heap[k]? := fun k hk hf => k1 k hk (by omega) (by omega)
  obtain ⟨_, ⟨V', h3, h4⟩, h5, h6, h7⟩ := h
  refine ⟨⟨V1, k3, by rw [List.map_append]; exact k5⟩, ⟨V', (k2 _ (by omega)).trans h3, h4.move he (fun k hk ho => hst k hk (by omega))⟩, (k2 _ (by omega)).trans h5, fun i x hx => ?_, fun i x u hx hu => ?_⟩
  · rcases snoc_at hx with hx | ⟨rfl, rfl⟩
    · obtain ⟨m, h8, h9⟩ := h6 i x hx
      exact ⟨m, h8.move he (fun k hk ho => hst k hk (by omega)), h9⟩
    · exact ⟨l, hl.move he (fun k hk ho => hst k hk (by omega)), hl2⟩
  · rcases snoc_at hx with hx | ⟨rfl, rfl⟩
    · obtain ⟨xs, h8, h9⟩ := h7 i x u hx hu
      exact ⟨xs, R_moved (P := fun x => 5 ≤ x) h8 he (fun k hk ho => hst k hk (by omega)), R_moved (P := fun x => 5 ≤ x) h9 he (fun k hk ho => hst k hk (by omega))⟩
    · have := (List.getElem?_eq_some_iff.1 hu).1; omega

/-- .. and its copy. -/
theorem Kep.pushW {p : Int} {w w1 : World} {V V1 v u : Value} {f1 : Nat → Nat} {xs : List α} (h : Kep F t tO q d B kb f vs ws w) (hb : Bk B kb f p w) (hF : F = 5 ∨ F = 50) (hq : q ≤ 1) (hc : w.cell? ⟨kb, F + 1, none⟩ = some V) (hV : Row B f (2 * q + 2) 1 tO w V (ws.map fun v => [v])) (he : Elder w f f1)
    (hR1 : Row B f1 (2 * q + 2) 1 tO w1 V1 ((ws.map fun v => [v]) ++ [[u]])) (hw : Went V V1 ws.length w w1) (hv : vs[ws.length]? = some v) (hx : d.R t w B (fun k => 5 ≤ f k) v xs) (hu : d.R t w B (fun k => 5 ≤ f k) u xs) :
    Kep F t tO q d B kb f1 vs (ws ++ [u]) (w1.setCell ⟨kb, F + 1, none⟩ V1) := by
  obtain ⟨k1, k2, k3, k4, k5, k6⟩ := hb.push (by omega) hc hV (by omega) he hR1 (by rw [List.length_map]; exact hw)
  have hst : ∀ k, k < w.heap.size → f k = 2 * q + 1 ∨ 5 ≤ f k → (w1.setCell ⟨kb, F + 1, none⟩ V1).heap[k]? = w.heap[k]? := fun k hk hf => k1 k hk (by omega) (by omega)
  obtain ⟨⟨V', h3, h4⟩, _, h5, h6, h7⟩ := h
  refine ⟨⟨V', (k2 _ (by omega)).trans h3, h4.move he (fun k hk ho => hst k hk (by omega))⟩, ⟨V1, k3, by rw [List.map_append]; exact k5⟩, (k2 _ (by omega)).trans h5, fun i x hx => ?_, fun i x u' hx' hu' => ?_⟩
  · obtain ⟨m, h8, h9⟩ := h6 i x hx
    exact ⟨m, h8.move he (fun k hk ho => hst k hk (by omega)), h9⟩
  · rcases snoc_at hu' with hu' | ⟨rfl, rfl⟩
    · obtain ⟨xs, h8, h9⟩ := h7 i x u' hx' hu'
      exact ⟨xs, R_moved (P := fun x => 5 ≤ x) h8 he (fun k hk ho => hst k hk (by omega)), R_moved (P := fun x => 5 ≤ x) h9 he (fun k hk ho => hst k hk (by omega))⟩
    · rw [hv] at hx'
      obtain rfl := Option.some.inj hx'
      exact ⟨xs, R_moved (P := fun x => 5 ≤ x) hx he (fun k hk ho => hst k hk (by omega)), R_moved (P := fun x => 5 ≤ x) hu he (fun k hk ho => hst k hk (by omega))⟩
end

/-- Which blocks are the kind's. -/
def Mine (q o : Nat) : Prop := o = 2 * q + 1 ∨ o = 2 * q + 2 ∨ ∃ i, o = 2 * i + q + 5

/-- The lists of one kind, marked (M: which entries), and the grown ones. mk i j: list i's mark at j; D: by how much they are grown. -/
structure Kin (F t tO sz q : Nat) (mk : Nat → Nat → List Value) (B kb : Nat) (f : Nat → Nat) (vs gs : List Value) (M : Nat → Nat → Prop) (D : Nat → Nat) (W : World) : Prop where
  outer : ∃ V, W.cell? ⟨kb, F, none⟩ = some V ∧ Row B f (2 * q + 1) 1 tO W V (vs.map fun v => [v])
  grown : ∃ V, W.cell? ⟨kb, F + 2, none⟩ = some V ∧ Row B f (2 * q + 2) 1 tO W V (gs.map fun v => [v])
  few : gs.length ≤ vs.length
  elem : ∀ (i : Nat) (v : Value), vs[i]? = some v → ∃ l, Row B f (2 * i + q + 5) sz t W v l ∧ l.length ≤ 100000 ∧ (∀ (j : Nat) (x : List Value), l[j]? = some x → M i j → x = mk i j) ∧
    ∀ g : Value, gs[i]? = some g → ∃ l', Row B f (2 * i + q + 5) sz t W g l' ∧ l.length ≤ l'.length ∧ l'.length ≤ 100000 + D i ∧ ∀ (j : Nat) (x : List Value), l'[j]? = some x → x = mk i j

section
variable {F t tO sz q : Nat} {mk : Nat → Nat → List Value} {B kb : Nat} {f f' : Nat → Nat} {vs gs : List Value} {M M' : Nat → Nat → Prop} {D D' : Nat → Nat} {W W1 : World}
theorem Kep.kin {α : Type} {d : Kd α} {ws : List Value} (h : Kep F t tO q d B kb f vs ws W) : Kin F t tO d.sz q mk B kb f vs [] (fun _ _ => False) D W := by
  obtain ⟨h1, _, h3, h4, _⟩ := h
  refine ⟨h1, ⟨_, h3, Row.nil⟩, Nat.zero_le _, fun i v hv => ?_⟩
  obtain ⟨l, h5, h6⟩ := h4 i v hv
  exact ⟨l, h5, h6, fun _ _ _ h => h.elim, fun g hg => by simp at hg⟩
theorem Kin.move (h : Kin F t tO sz q mk B kb f vs gs M D W) (he : Elder W f f') (hc : ∀ j, j = F ∨ j = F + 2 → W1.cell? ⟨kb, j, none⟩ = W.cell? ⟨kb, j, none⟩) (hm : ∀ k, k < W.heap.size → Mine q (f k) → W1.heap[k]? = W.heap[k]?) : Kin F t tO sz q mk B kb f' vs gs M D W1 := by
  obtain ⟨⟨V, h1, h2⟩, ⟨V', h3, h4⟩, h5, h6⟩ := h
  refine ⟨⟨V, (hc _ (by omega)).trans h1, h2.move he (fun k hk ho => hm k hk (Or.inl ho))⟩, ⟨V', (hc _ (by omega)).trans h3, h4.move he (fun k hk ho => hm k hk (Or.inr (Or.inl ho)))⟩, h5, fun i v hv => ?_⟩
  obtain ⟨l, h7, h8, h9, h10⟩ := h6 i v hv
  refine ⟨l, h7.move he (fun k hk ho => hm k hk (Or.inr (Or.inr ⟨i, ho⟩))), h8, h9, fun g hg => ?_⟩
  obtain ⟨l', h11, h12⟩ := h10 g hg
  exact ⟨l', h11.move he (fun k hk ho => hm k hk (Or.inr (Or.inr ⟨i, ho⟩))), h12⟩
theorem Kin.below (h : Kin F t tO sz q mk B kb f vs gs M D W) (hkb : kb < W.heap.size) (hb : Below W.heap.size W W1) : Kin F t tO sz q mk B kb f vs gs M D W1 :=
  h.move (fun _ _ => rfl) (fun j _ => cell_block (hb.block _ hkb) j) (fun k hk _ => hb.block k hk)
/-- Other marks, other bounds: what is known of them. -/
theorem Kin.weaken (h : Kin F t tO sz q mk B kb f vs gs M D W) (hM : ∀ i j, i < vs.length → M' i j → M i j) (hD : ∀ i, i < gs.length → D i ≤ D' i) : Kin F t tO sz q mk B kb f vs gs M' D' W := by
  obtain ⟨h1, h2, h3, h4⟩ := h
  refine ⟨h1, h2, h3, fun i v hv => ?_⟩
  obtain ⟨l, h7, h8, h9, h10⟩ := h4 i v hv
  refine ⟨l, h7, h8, fun j x hx hm => h9 j x hx (hM i j (List.getElem?_eq_some_iff.1 hv).1 hm), fun g hg => ?_⟩
  obtain ⟨l', h11, h12, h13, h14⟩ := h10 g hg
  exact ⟨l', h11, h12, Nat.le_trans h13 (by have := hD i (List.getElem?_eq_some_iff.1 hg).1; omega), h14⟩
/-- Other marks altogether, nothing grown. -/
theorem Kin.anew {mk' : Nat → Nat → List Value} (h : Kin F t tO sz q mk B kb f vs [] M D W) : Kin F t tO sz q mk' B kb f vs [] (fun _ _ => False) D' W := by
  obtain ⟨h1, h2, h3, h4⟩ := h
  refine ⟨h1, h2, h3, fun i v hv => ?_⟩
  obtain ⟨l, h7, h8, _, _⟩ := h4 i v hv
  exact ⟨l, h7, h8, fun _ _ _ h => h.elim, fun g hg => by simp at hg⟩

/-- One entry is marked. -/
theorem Kin.put {i j : Nat} {v : Value} {l : List (List Value)} {w1 : World} (h : Kin F t tO sz q mk B kb f vs [] M D W) (hkb : f kb = 0) (hklt : kb < W.heap.size) (hq : q ≤ 1) (hv : vs[i]? = some v) (hM : ∀ (j' : Nat) (x : List Value), l[j']? = some x → M i j' → x = mk i j') (hl : l.length ≤ 100000)
    (h1 : Row B f (2 * i + q + 5) sz t w1 v (l.set j (mk i j))) (hg : W.grownBy w1 v.ownBlock) : Kin F t tO sz q mk B kb f vs [] (fun i' j' => M i' j' ∨ (i' = i ∧ j' = j)) D w1 ∧ Off f (fun o => ∃ i, o = 2 * i + q + 5) W w1 := by
  have hst : ∀ k, k < W.heap.size → f k ≠ 2 * i + q + 5 → w1.heap[k]? = W.heap[k]? := fun k hk hf => hg.block k hk (fun e => hf (h1.1 k e.symm))
  have hcell : ∀ j, w1.cell? ⟨kb, j, none⟩ = W.cell? ⟨kb, j, none⟩ := fun j => cell_block (hst kb hklt (by omega)) j
  refine ⟨?_, hg.size, fun k hk hp => hst k hk (fun e => hp ⟨i, e⟩)⟩
  obtain ⟨⟨V, h2, h3⟩, ⟨V', h4, h5⟩, h6, h7⟩ := h
  refine ⟨⟨V, (hcell _).trans h2, h3.stays (fun k hk ho => hst k hk (by omega))⟩, ⟨V', (hcell _).trans h4, h5.stays (fun k hk ho => hst k hk (by omega))⟩, h6, fun i' v' hv' => ?_⟩
  by_cases hi : i' = i
  · subst hi
    rw [hv] at hv'
    obtain rfl := Option.some.inj hv'
    refine ⟨_, h1, by rw [List.length_set]; exact hl, fun j' x hx hm => ?_, fun g hg => by simp at hg⟩
    rw [List.getElem?_set] at hx
    by_cases hj : j = j'
    · subst hj
      rw [if_pos rfl] at hx
      split at hx
      · exact (Option.some.inj hx).symm
      · cases hx
    · rw [if_neg hj] at hx
      rcases hm with hm | ⟨_, e⟩
      · exact hM j' x hx hm
      · exact absurd e.symm hj
  · obtain ⟨l', h8, h9, h10, h11⟩ := h7 i' v' hv'
    exact ⟨l', h8.stays (fun k hk ho => hst k hk (by omega)), h9, fun j' x hx hm => h10 j' x hx (by rcases hm with hm | ⟨e, _⟩; exact hm; exact absurd e hi), fun g hg => by simp at hg⟩

/-- One list more is to be grown. -/
theorem Kin.grow1 {p : Int} {w w1 : World} {V V1 v : Value} {f1 : Nat → Nat} (h : Kin F t tO sz q mk B kb f vs gs (fun _ _ => True) D w) (hb : Bk B kb f p w) (hF : F = 5 ∨ F = 50) (hq : q ≤ 1) (hc : w.cell? ⟨kb, F + 2, none⟩ = some V) (hV : Row B f (2 * q + 2) 1 tO w V (gs.map fun v => [v])) (he : Elder w f f1)
    (hR1 : Row B f1 (2 * q + 2) 1 tO w1 V1 ((gs.map fun v => [v]) ++ [[v]])) (hw : Went V V1 gs.length w w1) (hv : vs[gs.length]? = some v) :
    Kin F t tO sz q mk B kb f1 vs (gs ++ [v]) (fun _ _ => True) D (w1.setCell ⟨kb, F + 2, none⟩ V1) := by
  obtain ⟨k1, k2, k3, k4, k5, k6⟩ := hb.push (by omega) hc hV (by omega) he hR1 (by rw [List.length_map]; exact hw)
  have hst : ∀ k, k < w.heap.size → f k = 2 * q + 1 ∨ 5 ≤ f k → (w1.setCell ⟨kb, F + 2, none⟩ V1).heap[k]? = w.heap[k]? := fun k hk hf => k1 k hk (by omega) (by omega)
  obtain ⟨⟨V', h3, h4⟩, _, h5, h6⟩ := h
  have hgl := (List.getElem?_eq_some_iff.1 hv).1
  refine ⟨⟨V', (k2 _ (by omega)).trans h3, h4.move he (fun k hk ho => hst k hk (by omega))⟩, ⟨V1, k3, by rw [List.map_append]; exact k5⟩, by rw [List.length_append, List.length_singleton]; omega, fun i x hx => ?_⟩
  obtain ⟨l, h7, h8, h9, h10⟩ := h6 i x hx
  refine ⟨l, h7.move he (fun k hk ho => hst k hk (by omega)), h8, h9, fun g hg => ?_⟩
  rcases snoc_at hg with hg | ⟨rfl, rfl⟩
  · obtain ⟨l', h11, h12⟩ := h10 g hg
    exact ⟨l', h11.move he (fun k hk ho => hst k hk (by omega)), h12⟩
  · rw [hv] at hx
    obtain rfl := Option.some.inj hx
    exact ⟨l, h7.move he (fun k hk ho => hst k hk (by omega)), Nat.le_refl _, by omega, fun j x hx => h9 j x hx trivial⟩

/-- A list is grown by one. -/
theorem Kin.grow2 {p : Int} {w w1 w2 : World} {V v g g1 : Value} {i : Nat} {l l' : List (List Value)} {f1 : Nat → Nat} (h : Kin F t tO sz q mk B kb f vs gs (fun _ _ => True) D w) (hb : Bk B kb f p w) (hq : q ≤ 1) (hs0 : 0 < sz) (hc : w.cell? ⟨kb, F + 2, none⟩ = some V) (hv : vs[i]? = some v) (hg : gs[i]? = some g)
    (hl : Row B f (2 * i + q + 5) sz t w v l) (hl2 : l.length ≤ 100000) (hl3 : ∀ (j : Nat) (x : List Value), l[j]? = some x → x = mk i j) (hl' : Row B f (2 * i + q + 5) sz t w g l') (hle : l.length ≤ l'.length) (hle2 : l'.length ≤ 100000 + D i) (hm : ∀ (j : Nat) (x : List Value), l'[j]? = some x → x = mk i j) (he : Elder w f f1)
    (hR1 : Row B f1 (2 * i + q + 5) sz t w1 g1 (l' ++ [mk i l'.length])) (hw : Went g g1 l'.length w w1) (hV2 : Row B f1 (2 * q + 2) 1 tO w2 V ((gs.map fun v => [v]).set i [g1])) (hgr : w1.grownBy w2 V.ownBlock) (hVo : ∀ k, V.ownBlock = some k → f1 k = 2 * q + 2) :
    Kin F t tO sz q mk B kb f1 vs (gs.set i g1) (fun _ _ => True) (fun i' => if i' = i then D i + 1 else D i') w2 ∧ Off f (fun o => o = 2 * q + 2 ∨ ∃ i, o = 2 * i + q + 5) w w2 := by
  have hs1 : ∀ k, k < w.heap.size → f k ≠ 2 * i + q + 5 → w1.heap[k]? = w.heap[k]? := fun k hk hf => hw.1.block k hk (fun e => hf (hl'.1 k e.symm))
  have hs2 : ∀ k, k < w1.heap.size → f1 k ≠ 2 * q + 2 → w2.heap[k]? = w1.heap[k]? := fun k hk hf => hgr.block k hk (fun e => hf (hVo k e.symm))
  have hsz := hw.1.size
  have hst : ∀ k, k < w.heap.size → f k ≠ 2 * i + q + 5 → f k ≠ 2 * q + 2 → w2.heap[k]? = w.heap[k]? := fun k hk h1 h2 => (hs2 k (by omega) (by rw [he k hk]; exact h2)).trans (hs1 k hk h1)
  have hkb := hst kb hb.lt (by rw [hb.own]; omega) (by rw [hb.own]; omega)
  obtain ⟨⟨V', h3, h4⟩, _, h5, h6⟩ := h
  refine ⟨⟨⟨V', (cell_block hkb _).trans h3, h4.move he (fun k hk ho => hst k hk (by omega) (by omega))⟩, ⟨V, (cell_block hkb _).trans hc, by rw [List.map_set]; exact hV2⟩, by rw [List.length_set]; exact h5, fun i' x hx => ?_⟩,
    Nat.le_trans hsz hgr.size, fun k hk hp => hst k hk (fun e => hp (Or.inr ⟨i, e⟩)) (fun e => hp (Or.inl e))⟩
  by_cases hi : i' = i
  · subst hi
    rw [hv] at hx
    obtain rfl := Option.some.inj hx
    refine ⟨l, Row.stays (share hs0 (hl.owner he) hl' hle hR1 hw) (fun k hk ho => hs2 k hk (by omega)), hl2, fun j x hx _ => hl3 j x hx, fun y hy => ?_⟩
    rw [List.getElem?_set_self (List.getElem?_eq_some_iff.1 hg).1] at hy
    obtain rfl := Option.some.inj hy
    refine ⟨_, hR1.stays (fun k hk ho => hs2 k hk (by omega)), by rw [List.length_append]; omega, by rw [List.length_append, List.length_singleton, if_pos rfl]; omega, fun j x hx => ?_⟩
    rcases snoc_at hx with hx | ⟨rfl, rfl⟩
    · exact hm j x hx
    · rfl
  · obtain ⟨m, h7, h8, h9, h10⟩ := h6 i' x hx
    refine ⟨m, h7.move he (fun k hk ho => hst k hk (by omega) (by omega)), h8, h9, fun y hy => ?_⟩
    rw [List.getElem?_set_ne (fun e => hi e.symm)] at hy
    obtain ⟨m', h11, h12, h13, h14⟩ := h10 y hy
    exact ⟨m', h11.move he (fun k hk ho => hst k hk (by omega) (by omega)), h12, by rw [if_neg hi]; exact h13, h14⟩
end
end Go.Proofs.YtbpackopicngmaaGreatDoor
namespace Go.Proofs.YtbpackopicngmaaGreatDoor
open Go.RowKit Go.Proofs.Sc Go.Proofs.YtbpackopicngmaaGreatDoorW.PrintWords

/-- The mark of the numbers. -/
def markI (p a j : Int) : Int := wrap64 (wrap64 (wrap64 (a * 1000) + wrap64 (2 * j)) + p)
/-- The mark of the steps: its second number. -/
def markA (p j : Int) : Int := wrap64 (wrap64 (2 * j) + p)

theorem mark_i {B kb : Nat} {f : Nat → Nat} {p : Int} {w : World} (h : Bk B kb f p w) (a j : Int) :
    Calls Tryz.prog 168 #[.pointer (some ⟨kb, 0, none⟩), .int .i64 a, .int .i64 j] w fun e w' => e = .returned (.int .i64 (markI p a j)) ∧ w' = w := by
  have c := h.pass
  clear h
  go_enter Tryz.func168, Tryz.ntmps168
  go_wp2_with fail
  go_ret
  exact ⟨rfl, rfl⟩

theorem mark_o {B kb : Nat} {f : Nat → Nat} {p : Int} {w : World} (h : Bk B kb f p w) (a j : Int) :
    Calls Tryz.prog 183 #[.pointer (some ⟨kb, 0, none⟩), .int .i64 a, .int .i64 j] w fun e w' => e = .returned (.agg #[.int .i64 a, .int .i64 (markA p j), .int .i64 0, .string ⟨#[]⟩, .string ⟨#[]⟩, .slice none 0 0]) ∧ Below w.heap.size w w' := by
  have c := h.pass
  have hlt := h.lt
  clear h
  go_enter Tryz.func183, Tryz.ntmps183
  go_wp2_with fail
  exact bodyPost_ret (v := .agg #[.int .i64 a, .int .i64 (markA p j), .int .i64 0, .string ⟨#[]⟩, .string ⟨#[]⟩, .slice none 0 0]) (by simp [results, Tryz.results183, go_sem, markA]) rfl ⟨rfl, (Below.refl _ _).alloc (Nat.le_refl _) _⟩

set_option maxHeartbeats 1000000 in
theorem show_i {B kb o : Nat} {f : Nat → Nat} {p : Int} {w : World} (h : Bk B kb f p w) (A : Option Addr) (n c : Nat) (a : Int) {l : List (List Value)} (hR : Row B f o 1 3 w (.slice A n c) l) (hm : ∀ (j : Nat) (x : List Value), l[j]? = some x → x = [.int .i64 (markI p a j)]) :
    Calls Tryz.prog 185 #[.pointer (some ⟨kb, 0, none⟩), .slice A n c, .int .i64 a] w fun e w' => e = .returned (.bool true) ∧ w' = w := by
  obtain ⟨A', c', he, hlc, hcm⟩ := hR.slice
  obtain ⟨rfl, rfl, rfl⟩ : A = A' ∧ n = l.length ∧ c = c' := by injection he with h1 h2 h3; exact ⟨h1, h2, h3⟩
  obtain ⟨n, hn⟩ : ∃ n, n = l.length := ⟨_, rfl⟩
  have H := Lib.hid h
  have HR := Lib.hid hR
  have HM := Lib.hid hm
  have HN := Lib.hid hn
  rw [← hn] at hlc ⊢
  clear h hR hm hn he
  go_enter Tryz.func185, Tryz.ntmps185
  go_wp2_with fail
  go_loopw [7] (fun v wr => ∃ i : Nat, v = .int .i64 (i : Int) ∧ i ≤ n ∧ wr = w) (fun v _ => n - (intOf v).toNat)
  case atStart => exact ⟨0, rfl, Nat.zero_le _, rfl⟩
  case round =>
  obtain ⟨i, rfl, hi, rfl⟩ := hrel
  by_cases hlt : i < n
  · obtain ⟨x, hx⟩ : ∃ x, l[i]? = some x := ⟨l[i]'(by have := HN.out; omega), List.getElem?_eq_getElem _⟩
    obtain ⟨g, c2, hv, _, _, hg, _, _, _, hc⟩ := HR.out.get hx
    obtain rfl := HM.out i x hx
    have hc0 := hc 0 _ rfl
    rw [Nat.mul_one, Nat.add_zero] at hc0
    obtain ⟨rfl, rfl⟩ : A = some ⟨g, 0, none⟩ ∧ c = c2 := by injection hv with h1 h2 h3; exact ⟨h1, h3⟩
    clear hc hx hv
    go_wp2_with fail
    refine (mark_i H.out a (i : Int)).mono ?_
    rintro e w1 ⟨rfl, rfl⟩
    go_wp2_with fail
    go_roundw
    case rel => exact ⟨i + 1, by go_num, hlt, trivial⟩
    case measure => simp [intOf]; omega
  · obtain rfl : i = n := by omega
    go_wp2_with fail
    go_ret
    exact ⟨rfl, rfl⟩
end Go.Proofs.YtbpackopicngmaaGreatDoor
namespace Go.Proofs.YtbpackopicngmaaGreatDoor
open Go.RowKit Go.Proofs.Sc Go.Proofs.YtbpackopicngmaaGreatDoorW.PrintWords

/-- A marked step's cells. -/
def markO (p a j : Int) : List Value := [.int .i64 a, .int .i64 (markA p j), .int .i64 0, .string ⟨#[]⟩, .string ⟨#[]⟩, .slice none 0 0]

theorem sameMark (a x : Int) (w : World) :
    Calls Tryz.prog 63 #[.agg #[.int .i64 a, .int .i64 x, .int .i64 0, .string ⟨#[]⟩, .string ⟨#[]⟩, .slice none 0 0], .agg #[.int .i64 a, .int .i64 x, .int .i64 0, .string ⟨#[]⟩, .string ⟨#[]⟩, .slice none 0 0]] w fun e w' => e = .returned (.bool true) ∧ Below w.heap.size w w' := by
  obtain ⟨r, h1, h2⟩ := op_f (⟨a, x, 0, [], [], []⟩ : POp) ⟨a, x, 0, [], [], []⟩ (by simp) 1 (by simp)
  obtain rfl := h2.2 rfl
  exact Pr.pithref_SameOp.calls 1 a x 0 ⟨#[]⟩ ⟨#[]⟩ none 0 [] a x 0 ⟨#[]⟩ ⟨#[]⟩ none 0 [] true w (int_C0 w) (Nat.le_refl _) (int_C0 w) (Nat.le_refl _) h1

/-- A step's cells at hand, and the mark's. -/
def Six (W : World) (g i : Nat) (a x : Int) : Prop :=
  W.cell? ⟨g, i, none⟩ = some (.int .i64 a) ∧ W.cell? ⟨g, i + 1, none⟩ = some (.int .i64 x) ∧ W.cell? ⟨g, i + 2, none⟩ = some (.int .i64 0) ∧ W.cell? ⟨g, i + 3, none⟩ = some (.string ⟨#[]⟩) ∧ W.cell? ⟨g, i + 4, none⟩ = some (.string ⟨#[]⟩) ∧ W.cell? ⟨g, i + 5, none⟩ = some (.slice none 0 0)
theorem Six.later {W W1 : World} {g i : Nat} {a x : Int} (h : Six W g i a x) (hb : Below W.heap.size W W1) : Six W1 g i a x := by
  obtain ⟨h0, h1, h2, h3, h4, h5⟩ := h
  exact ⟨pw_cell_below hb h0, pw_cell_below hb h1, pw_cell_below hb h2, pw_cell_below hb h3, pw_cell_below hb h4, pw_cell_below hb h5⟩

set_option maxHeartbeats 2000000 in
theorem show_o {B kb o : Nat} {f : Nat → Nat} {p : Int} {w : World} (h : Bk B kb f p w) (A : Option Addr) (n c : Nat) (a : Int) {l : List (List Value)} (hR : Row B f o 6 44 w (.slice A n c) l) (hm : ∀ (j : Nat) (x : List Value), l[j]? = some x → x = markO p a j) :
    Calls Tryz.prog 200 #[.pointer (some ⟨kb, 0, none⟩), .slice A n c, .int .i64 a] w fun e w' => e = .returned (.bool true) ∧ Below w.heap.size w w' := by
  obtain ⟨A', c', he, hlc, hcm⟩ := hR.slice
  obtain ⟨rfl, rfl, rfl⟩ : A = A' ∧ n = l.length ∧ c = c' := by injection he with h1 h2 h3; exact ⟨h1, h2, h3⟩
  obtain ⟨n, hn⟩ : ∃ n, n = l.length := ⟨_, rfl⟩
  have H := Lib.hid h
  have HR := Lib.hid hR
  have HM := Lib.hid hm
  have HN := Lib.hid hn
  rw [← hn] at hlc ⊢
  clear h hR hm hn he
  go_enter Tryz.func200, Tryz.ntmps200
  go_wp2_with fail
  go_loopw [7] (fun v wr => ∃ i : Nat, v = .int .i64 (i : Int) ∧ i ≤ n ∧ Hid (Below w.heap.size w wr)) (fun v _ => n - (intOf v).toNat)
  case atStart => exact ⟨0, rfl, Nat.zero_le _, Lib.hid (Below.refl _ _)⟩
  case round =>
  obtain ⟨i, rfl, hi, hB⟩ := hrel
  by_cases hlt : i < n
  · obtain ⟨x, hx⟩ : ∃ x, l[i]? = some x := ⟨l[i]'(by have := HN.out; omega), List.getElem?_eq_getElem _⟩
    obtain ⟨g, c2, hv, _, _, hg, _, _, _, hc⟩ := HR.out.get hx
    obtain rfl := HM.out i x hx
    have HS := Lib.hid (show Six w g (i * 6) a (markA p (i : Int)) from ⟨hc 0 _ rfl, hc 1 _ rfl, hc 2 _ rfl, hc 3 _ rfl, hc 4 _ rfl, hc 5 _ rfl⟩)
    obtain ⟨rfl, rfl⟩ : A = some ⟨g, 0, none⟩ ∧ c = c2 := by injection hv with h1 h2 h3; exact ⟨h1, h3⟩
    clear hc hx hv
    have HSZ := hB.out.size
    go_wp2_with fail
    refine (mark_o (H.out.below hB.out) a (i : Int)).mono ?_
    rintro e w1 ⟨rfl, hB1⟩
    have HB1 := Lib.hid (hB.out.trans (hB1.mono hB.out.size))
    have hs1 := hB1.size
    have HSD := Lib.hid (show Six (w1.alloc (.cells #[.int .i64 a, .int .i64 (markA p (i : Int)), .int .i64 0, .string ⟨#[]⟩, .string ⟨#[]⟩, .slice none 0 0] 44)).drew g (i * 6) a (markA p (i : Int)) from (HS.out.later HB1.out).later ((Below.refl _ _).alloc (Nat.le_refl _) _).drew)
    have HND := Lib.hid (show Six (w1.alloc (.cells #[.int .i64 a, .int .i64 (markA p (i : Int)), .int .i64 0, .string ⟨#[]⟩, .string ⟨#[]⟩, .slice none 0 0] 44)).drew w1.heap.size 0 a (markA p (i : Int)) from by
      have h : (w1.alloc (.cells #[.int .i64 a, .int .i64 (markA p (i : Int)), .int .i64 0, .string ⟨#[]⟩, .string ⟨#[]⟩, .slice none 0 0] 44)).drew.heap[w1.heap.size]? = some (.cells #[.int .i64 a, .int .i64 (markA p (i : Int)), .int .i64 0, .string ⟨#[]⟩, .string ⟨#[]⟩, .slice none 0 0] 44 (0, 0)) := heap_alloc_new w1 _
      exact ⟨blk_cell h 0, blk_cell h 1, blk_cell h 2, blk_cell h 3, blk_cell h 4, blk_cell h 5⟩)
    clear hB1
    have HP := Lib.hid (show ∀ W, Six W g (i * 6) a (markA p (i : Int)) → Six W w1.heap.size 0 a (markA p (i : Int)) → (fun W => W.cell? ⟨g, i * 6, none⟩ = some (.int .i64 a) ∧ W.cell? ⟨g, i * 6 + 1, none⟩ = some (.int .i64 (markA p (i : Int))) ∧ W.cell? ⟨g, i * 6 + 2, none⟩ = some (.int .i64 0) ∧ W.cell? ⟨g, i * 6 + 3, none⟩ = some (.string ⟨#[]⟩) ∧ W.cell? ⟨g, i * 6 + 4, none⟩ = some (.string ⟨#[]⟩) ∧ W.cell? ⟨g, i * 6 + 5, none⟩ = some (.slice none 0 0) ∧ W.cell? ⟨w1.heap.size, 0, none⟩ = some (.int .i64 a) ∧ W.cell? ⟨w1.heap.size, 1, none⟩ = some (.int .i64 (markA p (i : Int))) ∧ W.cell? ⟨w1.heap.size, 2, none⟩ = some (.int .i64 0) ∧ W.cell? ⟨w1.heap.size, 3, none⟩ = some (.string ⟨#[]⟩) ∧ W.cell? ⟨w1.heap.size, 4, none⟩ = some (.string ⟨#[]⟩) ∧ W.cell? ⟨w1.heap.size, 5, none⟩ = some (.slice none 0 0)) W from fun W ⟨h0, h1, h2, h3, h4, h5⟩ h => ⟨h0, h1, h2, h3, h4, h5, h⟩)
    have HQ := Lib.hid (HP.out _ HSD.out HND.out)
    have hlt1 : g < w1.heap.size := by omega
    go_wp2_with fail
    go_region_held3 (fun W => W.cell? ⟨g, i * 6, none⟩ = some (.int .i64 a) ∧ W.cell? ⟨g, i * 6 + 1, none⟩ = some (.int .i64 (markA p (i : Int))) ∧ W.cell? ⟨g, i * 6 + 2, none⟩ = some (.int .i64 0) ∧ W.cell? ⟨g, i * 6 + 3, none⟩ = some (.string ⟨#[]⟩) ∧ W.cell? ⟨g, i * 6 + 4, none⟩ = some (.string ⟨#[]⟩) ∧ W.cell? ⟨g, i * 6 + 5, none⟩ = some (.slice none 0 0) ∧ W.cell? ⟨w1.heap.size, 0, none⟩ = some (.int .i64 a) ∧ W.cell? ⟨w1.heap.size, 1, none⟩ = some (.int .i64 (markA p (i : Int))) ∧ W.cell? ⟨w1.heap.size, 2, none⟩ = some (.int .i64 0) ∧ W.cell? ⟨w1.heap.size, 3, none⟩ = some (.string ⟨#[]⟩) ∧ W.cell? ⟨w1.heap.size, 4, none⟩ = some (.string ⟨#[]⟩) ∧ W.cell? ⟨w1.heap.size, 5, none⟩ = some (.slice none 0 0)) (first | with_reducible exact HQ.out | with_reducible exact hQ5) (first | (go_at_call 63; refine (sameMark a (markA p (i : Int)) _).mono ?_; rintro e w5 ⟨rfl, hB5⟩; have hQ5 := HP.out _ (HSD.out.later hB5) (HND.out.later hB5)))
    have HB5 := Lib.hid (HB1.out.trans ((((Below.refl _ _).alloc (Nat.le_refl _) _).drew.trans (hB5.mono (by simp))).mono HB1.out.size))
    clear hB5 hQ5 HQ HP HSD HND
    go_wp2_with fail
    go_roundw
    case rel => exact ⟨i + 1, by go_num, hlt, HB5⟩
    case measure => simp [intOf]; omega
  · obtain rfl : i = n := by omega
    go_wp2_with fail
    go_ret
    exact ⟨rfl, hB.out⟩
end Go.Proofs.YtbpackopicngmaaGreatDoor
namespace Go.Proofs.YtbpackopicngmaaGreatDoor
open Go.RowKit Go.Proofs.Sc Go.Proofs.YtbpackopicngmaaGreatDoorW.PrintWords

theorem Row.put {B o sz t : Nat} {f : Nat → Nat} {W : World} {g m c : Nat} {l : List (List Value)} (h : Row B f o sz t W (.slice (some ⟨g, 0, none⟩) m c) l) {j : Nat} (hj : j < m) {seg : List Value} (hs : seg.length = sz) (h1 : ∀ u ∈ seg, u.oneCell' = true) :
    Row B f o sz t (W.setCells g (j * sz) seg) (.slice (some ⟨g, 0, none⟩) m c) (l.set j seg) ∧ W.grownBy (W.setCells g (j * sz) seg) (some g) := by
  have hn := (Kd.R_reads' h).1
  obtain ⟨x, hx⟩ : ∃ x, l[j]? = some x := ⟨l[j]'(by omega), List.getElem?_eq_getElem _⟩
  obtain ⟨g', c', hv, _, _, _, _, hxl, _, hc⟩ := h.get hx
  obtain rfl : g = g' := by injection hv with h1 _ _; injection h1 with h1; injection h1
  have := Kd.R_seg h (j : Int) (by omega) (by omega) (c := x) (seg := seg) (j := 0) (x' := seg) (okp := fun _ => False) hxl (by rw [Int.toNat_natCast]; exact hc) (by rw [hs]; show 0 + sz ≤ sz; omega)
    ⟨by rw [List.take_zero, List.nil_append, List.drop_of_length_le (by omega), List.append_nil], by rw [List.take_zero, List.nil_append, List.drop_of_length_le (by omega), List.append_nil]; exact hs, by rw [List.take_zero, List.nil_append, List.drop_of_length_le (by omega), List.append_nil]; exact h1⟩ (fun _ h => h.elim)
  rw [Int.toNat_natCast] at this
  exact this

section
variable {F t tO sz q : Nat} {mk : Nat → Nat → List Value} {B kb : Nat} {f : Nat → Nat} {vs gs : List Value} {M : Nat → Nat → Prop} {D : Nat → Nat} {W : World}
theorem row_len {o : Nat} {V : Value} (h : Row B f o 1 tO W V (vs.map fun v => [v])) : ∃ A c, V = .slice A vs.length c ∧ vs.length ≤ c ∧ c ≤ 9223372036854775807 := by
  obtain ⟨A, c, h1, h2, h3⟩ := h.slice
  rw [List.length_map] at h1 h2
  exact ⟨A, c, h1, h2, h3⟩
theorem row_at {o : Nat} {V : Value} (h : Row B f o 1 tO W V (vs.map fun v => [v])) {i : Nat} {v : Value} (hv : vs[i]? = some v) : ∃ g c, V = .slice (some ⟨g, 0, none⟩) vs.length c ∧ vs.length ≤ c ∧ c ≤ 9223372036854775807 ∧ B ≤ g ∧ g < W.heap.size ∧ f g = o ∧ W.cell? ⟨g, i, none⟩ = some v ∧ W.frozen? ⟨g, i, none⟩ = false := by
  obtain ⟨A, c, h1, h2, h3⟩ := row_len h
  obtain ⟨g, c', h4, h5, h6, h7, ⟨cs, h8⟩, _, _, h9⟩ := h.get (i := i) (x := [v]) (by rw [List.getElem?_map, hv]; rfl)
  rw [List.length_map] at h4
  have h10 := h9 0 v rfl
  rw [Nat.mul_one, Nat.add_zero] at h10
  rw [h1] at h4
  injection h4 with h4 _ h11
  subst h4; subst h11
  exact ⟨g, c, h1, h2, h3, h6, h7, h5, h10, blk_frozen h8 _⟩
theorem Kin.len (h : Kin F t tO sz q mk B kb f vs gs M D W) : ∃ A c, W.cell? ⟨kb, F, none⟩ = some (.slice A vs.length c) ∧ vs.length ≤ c ∧ c ≤ 9223372036854775807 := by
  obtain ⟨V, h1, h2⟩ := h.outer
  obtain ⟨A, c, rfl, h3⟩ := row_len h2
  exact ⟨A, c, h1, h3⟩
theorem Kin.lenG (h : Kin F t tO sz q mk B kb f vs gs M D W) : ∃ A c, W.cell? ⟨kb, F + 2, none⟩ = some (.slice A gs.length c) ∧ gs.length ≤ c ∧ c ≤ 9223372036854775807 := by
  obtain ⟨V, h1, h2⟩ := h.grown
  obtain ⟨A, c, rfl, h3⟩ := row_len h2
  exact ⟨A, c, h1, h3⟩
theorem Kin.at (h : Kin F t tO sz q mk B kb f vs gs M D W) {i : Nat} {v : Value} (hv : vs[i]? = some v) : ∃ g c, W.cell? ⟨kb, F, none⟩ = some (.slice (some ⟨g, 0, none⟩) vs.length c) ∧ vs.length ≤ c ∧ c ≤ 9223372036854775807 ∧ W.cell? ⟨g, i, none⟩ = some v ∧ g < W.heap.size ∧ f g = 2 * q + 1 := by
  obtain ⟨V, h1, h2⟩ := h.outer
  obtain ⟨g, c, rfl, h3, h4, _, h5, h7, h6, _⟩ := row_at h2 hv
  exact ⟨g, c, h1, h3, h4, h6, h5, h7⟩
theorem Kin.atG (h : Kin F t tO sz q mk B kb f vs gs M D W) {i : Nat} {v : Value} (hv : gs[i]? = some v) : ∃ g c, W.cell? ⟨kb, F + 2, none⟩ = some (.slice (some ⟨g, 0, none⟩) gs.length c) ∧ gs.length ≤ c ∧ c ≤ 9223372036854775807 ∧ B ≤ g ∧ g < W.heap.size ∧ f g = 2 * q + 2 ∧ W.cell? ⟨g, i, none⟩ = some v ∧ W.frozen? ⟨g, i, none⟩ = false := by
  obtain ⟨V, h1, h2⟩ := h.grown
  obtain ⟨g, c, rfl, h3⟩ := row_at h2 hv
  exact ⟨g, c, h1, h3⟩
end

theorem Kin.known {F t tO sz q : Nat} {mk : Nat → Nat → List Value} {B kb : Nat} {f : Nat → Nat} {vs gs : List Value} {M M' : Nat → Nat → Prop} {D : Nat → Nat} {W : World} (h : Kin F t tO sz q mk B kb f vs gs M D W) (hM : ∀ (i j m c : Nat) (A : Option Addr), vs[i]? = some (.slice A m c) → j < m → M' i j → M i j) : Kin F t tO sz q mk B kb f vs gs M' D W := by
  obtain ⟨h1, h2, h3, h4⟩ := h
  refine ⟨h1, h2, h3, fun i v hv => ?_⟩
  obtain ⟨l, h7, h8, h9, h10⟩ := h4 i v hv
  obtain ⟨A, c, rfl, _⟩ := h7.slice
  exact ⟨l, h7, h8, fun j x hx hm => h9 j x hx (hM i j _ _ _ hv (List.getElem?_eq_some_iff.1 hx).1 hm), h10⟩
theorem one_cells (W : World) (g j : Nat) (u : Value) : W.setCells g (j * 1) [u] = W.setCell ⟨g, j, none⟩ u := by simp [World.setCells]

/-- List i's mark at j, the numbers being counted from a on. -/
def mkI (p : Int) (a i j : Nat) : List Value := [.int .i64 (markI p ((a + i + 1 : Nat) : Int) (j : Int))]

/-- Entries up to (i, j). -/
def Upto (i j : Nat) : Nat → Nat → Prop := fun i' j' => i' < i ∨ (i' = i ∧ j' < j)

abbrev KinI (p : Int) (a B kb : Nat) (f : Nat → Nat) (vs gs : List Value) (M : Nat → Nat → Prop) (D : Nat → Nat) (W : World) : Prop := Kin 5 3 42 1 0 (mkI p a) B kb f vs gs M D W

set_option maxHeartbeats 4000000 in
set_option maxRecDepth 100000 in
theorem write_i {B kb a : Nat} {f : Nat → Nat} {p : Int} {vs : List Value} {D : Nat → Nat} {w : World} (h : Bk B kb f p w) (hK : KinI p a B kb f vs [] (fun _ _ => False) D w) (hn : vs.length ≤ 1000000) (ha : a ≤ 1000000) :
    Calls Tryz.prog 88 #[.pointer (some ⟨kb, 0, none⟩), .int .i64 (a : Int)] w fun e w' => e = .returned (.int .i64 ((a + vs.length : Nat) : Int)) ∧ KinI p a B kb f vs [] (fun _ _ => True) D w' ∧ Off f (fun o => ∃ i, o = 2 * i + 0 + 5) w w' ∧ Below B w w' := by
  obtain ⟨n, hnn⟩ : ∃ n, n = vs.length := ⟨_, rfl⟩
  rw [← hnn] at hn ⊢
  have H := Lib.hid h
  have HK := Lib.hid hK
  have HN := Lib.hid hnn
  clear h hK hnn
  go_enter Tryz.func88, Tryz.ntmps88
  go_wp2_with fail
  go_loopw [1, 5] (fun x v wr => ∃ i y : Nat, x = .int .i64 (y : Int) ∧ v = .int .i64 (i : Int) ∧ Hid (y = a + i) ∧ y ≤ 3000000 ∧ i ≤ n ∧ Hid (KinI p a B kb f vs [] (Upto i 0) D wr) ∧ Hid (Off f (fun o => ∃ i, o = 2 * i + 0 + 5) w wr) ∧ Hid (Below B w wr)) (fun _ v _ => n - (intOf v).toNat)
  case atStart => exact ⟨0, a, rfl, rfl, Lib.hid rfl, by omega, Nat.zero_le _, Lib.hid (HK.out.weaken (fun i j _ hm => by unfold Upto at hm; omega) (fun _ _ => Nat.le_refl _)), Lib.hid (Off.refl _ _ _), Lib.hid (Below.refl _ _)⟩
  case round =>
  clear HK
  obtain ⟨i, y, rfl, rfl, hy, hy2, hi, hK, hO, hB⟩ := hrel
  by_cases hlt : i < n
  · obtain ⟨v, hv⟩ : ∃ v, vs[i]? = some v := ⟨vs[i]'(by have := HN.out; omega), List.getElem?_eq_getElem _⟩
    obtain ⟨AV, cV, hc1, hc2, hc3⟩ := hK.out.len
    rw [← HN.out] at hc1 hc2
    obtain ⟨l, hl, hl2, _⟩ := hK.out.elem i v hv
    obtain ⟨A, c, hvs, hlc, hlm⟩ := hl.slice
    obtain ⟨m, hm⟩ : ∃ m, m = l.length := ⟨_, rfl⟩
    rw [← hm] at hvs hlc hl2
    subst hvs
    obtain ⟨y1, hy1⟩ : ∃ y1, y1 = y + 1 := ⟨_, rfl⟩
    have e1 : (y : Int) + 1 = (y1 : Int) := by omega
    have hy3 : y1 ≤ 3000001 := by omega
    have HY := Lib.hid (show y1 = a + i + 1 by rw [hy1, hy.out])
    have HV := Lib.hid hv
    clear hl hm hv hy1
    go_wp2_with fail
    clear hc1 hc2 hc3
    go_loopw [6] (fun u wr => ∃ j : Nat, u = .int .i64 (j : Int) ∧ j ≤ m ∧ Hid (KinI p a B kb f vs [] (Upto i j) D wr) ∧ Hid (Off f (fun o => ∃ i, o = 2 * i + 0 + 5) w wr) ∧ Hid (Below B w wr)) (fun u _ => m - (intOf u).toNat)
    case atStart => exact ⟨0, rfl, Nat.zero_le _, hK, hO, hB⟩
    case round =>
    clear hK hO hB
    obtain ⟨j, rfl, hj, hK, hO, hB⟩ := hrel
    obtain ⟨gV, cV, d1, d2, d3, d4, d5, d6⟩ := hK.out.at HV.out
    rw [← HN.out] at d1 d2
    have i1 : (i : Int) < (n : Int) := by omega
    by_cases hjl : j < m
    · obtain ⟨l, hl, hl2, hM, _⟩ := hK.out.elem i _ HV.out
      have hml := (Kd.R_reads' hl).1
      obtain ⟨x, hx⟩ : ∃ x, l[j]? = some x := ⟨l[j]'(by omega), List.getElem?_eq_getElem _⟩
      obtain ⟨g, c', hvv, hfg, hBg, hglt, ⟨cs, hcs⟩, hxl, _, hc⟩ := hl.get hx
      obtain ⟨rfl, rfl⟩ : A = some ⟨g, 0, none⟩ ∧ c = c' := by injection hvv with h1 h2 h3; exact ⟨h1, h3⟩
      obtain ⟨x0, rfl⟩ : ∃ x0, x = [x0] := List.length_eq_one_iff.1 hxl
      have hc0 := hc 0 x0 rfl
      rw [Nat.mul_one, Nat.add_zero] at hc0
      have HP := Lib.hid (show wr.drew.cell? ⟨kb, 5, none⟩ = some (.slice (some ⟨gV, 0, none⟩) n cV) ∧ wr.drew.cell? ⟨gV, i, none⟩ = some (.slice (some ⟨g, 0, none⟩) m c) from ⟨d1, d4⟩)
      have HS := Lib.hid (show ∀ u, (wr.setCell ⟨g, j, none⟩ u).drew.cell? ⟨kb, 5, none⟩ = some (.slice (some ⟨gV, 0, none⟩) n cV) ∧ (wr.setCell ⟨g, j, none⟩ u).drew.cell? ⟨gV, i, none⟩ = some (.slice (some ⟨g, 0, none⟩) m c) from fun u =>
        ⟨(World.cell?_setCell_other _ _ _ _ (by intro e; injection e with e _ _; have := H.out.own; rw [← e] at this; omega)).trans d1, (World.cell?_setCell_other _ _ _ _ (by intro e; injection e with e _ _; rw [← e] at d6; omega)).trans d4⟩)
      have hfr : wr.drew.frozen? ⟨g, j, none⟩ = false := blk_frozen hcs j
      have HBD := Lib.hid (show Below wr.heap.size wr wr.drew from (Below.refl _ _).drew)
      have HKD := Lib.hid (hK.out.below (by have := H.out.lt; have := hO.out.1; omega) HBD.out)
      have HBk := Lib.hid ((H.out.off hO.out (by rintro ⟨i, h⟩; omega)).below HBD.out)
      have HR := Lib.hid (Kd.R_below hl HBD.out)
      have HM := Lib.hid hM
      have wi : IntKind.i64.wrap (i : Int) = (i : Int) := by rw [IntKind.wrap_i64]; omega
      have wj : IntKind.i64.wrap (j : Int) = (j : Int) := by rw [IntKind.wrap_i64]; omega
      have wy : IntKind.i64.wrap (y1 : Int) = (y1 : Int) := by rw [IntKind.wrap_i64]; omega
      have j1 : (j : Int) < (m : Int) := by omega
      have HG := Lib.hid hBg
      have HL2 := Lib.hid hl2
      clear hl hM hx hvv hcs hc hK hBg hl2
      go_wp2_with fail
      go_region_held3 (fun W => W.cell? ⟨kb, 5, none⟩ = some (.slice (some ⟨gV, 0, none⟩) n cV) ∧ W.cell? ⟨gV, i, none⟩ = some (.slice (some ⟨g, 0, none⟩) m c)) (first | with_reducible exact HP.out | with_reducible exact HS.out _) (first | (go_at_call 168; refine (mark_i HBk.out (y1 : Int) (j : Int)).mono ?_; rintro e w5 ⟨rfl, rfl⟩))
      have HW := Lib.hid (show KinI p a B kb f vs [] (Upto i (j + 1)) D (wr.drew.setCell ⟨g, j, none⟩ (.int .i64 (markI p (y1 : Int) (j : Int)))) ∧ Off f (fun o => ∃ i, o = 2 * i + 0 + 5) w (wr.drew.setCell ⟨g, j, none⟩ (.int .i64 (markI p (y1 : Int) (j : Int)))) ∧ Below B w (wr.drew.setCell ⟨g, j, none⟩ (.int .i64 (markI p (y1 : Int) (j : Int)))) by
        obtain ⟨k1, k2⟩ := Row.put HR.out (j := j) hjl (seg := [.int .i64 (markI p (y1 : Int) (j : Int))]) rfl (fun u hu => by rw [List.mem_singleton.1 hu]; rfl)
        rw [one_cells] at k1 k2
        have hmk : mkI p a i j = [.int .i64 (markI p (y1 : Int) (j : Int))] := by unfold mkI; rw [HY.out]
        obtain ⟨k3, k4⟩ := HKD.out.put H.out.own HBk.out.lt (by omega) HV.out HM.out HL2.out (by rw [hmk]; exact k1) k2
        exact ⟨k3.weaken (fun i' j' _ h => by unfold Upto at h ⊢; omega) (fun _ _ => Nat.le_refl _), hO.out.trans (fun _ _ => rfl) ((Off.below HBD.out).trans (fun _ _ => rfl) k4), (hB.out.drew).setCell HG.out _⟩)
      clear HP HS HR HM HKD HBk hO hB d1 d4 d6 hc0 hfr
      go_wp2_with fail
      go_roundw
      case rel => exact ⟨j + 1, by go_num, hjl, Lib.hid HW.out.1, Lib.hid HW.out.2.1, Lib.hid HW.out.2.2⟩
      case measure => simp [intOf]; omega
    · obtain rfl : j = m := by omega
      have HK1 := Lib.hid (show KinI p a B kb f vs [] (Upto (i + 1) 0) D wr from hK.out.known (fun i' j' m' c' A' h1 h2 h3 => by
        unfold Upto at h3 ⊢
        by_cases hii : i' = i
        · subst hii
          rw [HV.out] at h1
          injection h1 with h1
          injection h1 with _ h1 _
          omega
        · omega))
      have HY1 := Lib.hid (show y1 = a + (i + 1) by rw [HY.out]; omega)
      clear hK
      go_wp2_with fail
      go_roundw
      case rel => exact ⟨i + 1, y1, rfl, by go_num, HY1, by have := HY1.out; omega, hlt, HK1, hO, hB⟩
      case measure => simp [intOf]; omega
  · obtain rfl : i = n := by omega
    obtain ⟨AV, cV, hc1, hc2, hc3⟩ := hK.out.len
    rw [← HN.out] at hc1 hc2
    have HK1 := Lib.hid (show KinI p a B kb f vs [] (fun _ _ => True) D wr from hK.out.weaken (fun i' j' h1 _ => by unfold Upto; have := HN.out; omega) (fun _ _ => Nat.le_refl _))
    have HYY := Lib.hid (show (y : Int) = ((a + i : Nat) : Int) by rw [hy.out])
    clear hK
    go_wp2_with fail
    go_ret
    exact ⟨by rw [HYY.out]; rfl, HK1.out, hO.out, hB.out⟩
end Go.Proofs.YtbpackopicngmaaGreatDoor
namespace Go.Proofs.YtbpackopicngmaaGreatDoor
open Go.RowKit Go.Proofs.Sc Go.Proofs.YtbpackopicngmaaGreatDoorW.PrintWords

/-- Six cells written. -/
abbrev six (W : World) (g k : Nat) (u0 u1 u2 u3 u4 u5 : Value) : World := ((((((W.setCell ⟨g, k, none⟩ u0).setCell ⟨g, k + 1, none⟩ u1).setCell ⟨g, k + 2, none⟩ u2).setCell ⟨g, k + 3, none⟩ u3).setCell ⟨g, k + 4, none⟩ u4).setCell ⟨g, k + 5, none⟩ u5)
theorem six_cells (W : World) (g k : Nat) (u0 u1 u2 u3 u4 u5 : Value) : W.setCells g k [u0, u1, u2, u3, u4, u5] = six W g k u0 u1 u2 u3 u4 u5 := rfl
theorem sixB_other {W : World} {g k b i : Nat} {u0 u1 u2 u3 u4 u5 : Value} (h : b ≠ g) : (six W g k u0 u1 u2 u3 u4 u5).cell? ⟨b, i, none⟩ = W.cell? ⟨b, i, none⟩ := by
  have far : ∀ (W : World) (j : Nat) (u : Value), (W.setCell ⟨g, j, none⟩ u).cell? ⟨b, i, none⟩ = W.cell? ⟨b, i, none⟩ := fun W j u => World.cell?_setCell_other _ _ _ _ (by intro e; injection e with e _ _; exact h e.symm)
  rw [far, far, far, far, far, far]
theorem six_belowB {B g k : Nat} {w W : World} (h : Below B w W) (hb : B ≤ g) (u0 u1 u2 u3 u4 u5 : Value) : Below B w (six W g k u0 u1 u2 u3 u4 u5) :=
  (((((h.setCell (p := ⟨g, k, none⟩) hb _).setCell (p := ⟨g, k + 1, none⟩) hb _).setCell (p := ⟨g, k + 2, none⟩) hb _).setCell (p := ⟨g, k + 3, none⟩) hb _).setCell (p := ⟨g, k + 4, none⟩) hb _).setCell (p := ⟨g, k + 5, none⟩) hb _
theorem six_list {x : List Value} (h : x.length = 6) : ∃ x0 x1 x2 x3 x4 x5, x = [x0, x1, x2, x3, x4, x5] := by
  match x, h with
  | [x0, x1, x2, x3, x4, x5], _ => exact ⟨_, _, _, _, _, _, rfl⟩
theorem six_frozen {W : World} {g t : Nat} {cs : Array Value} (h : W.heap[g]? = some (.cells cs t (0, 0))) (k : Nat) : W.frozen? ⟨g, k, none⟩ = false ∧ W.frozen? ⟨g, k + 1, none⟩ = false ∧ W.frozen? ⟨g, k + 2, none⟩ = false ∧ W.frozen? ⟨g, k + 3, none⟩ = false ∧ W.frozen? ⟨g, k + 4, none⟩ = false ∧ W.frozen? ⟨g, k + 5, none⟩ = false :=
  ⟨blk_frozen h _, blk_frozen h _, blk_frozen h _, blk_frozen h _, blk_frozen h _, blk_frozen h _⟩
theorem mark_one (p a j : Int) : ∀ u ∈ markO p a j, u.oneCell' = true := by
  intro u hu
  simp only [markO, List.mem_cons, List.not_mem_nil, or_false] at hu
  rcases hu with rfl | rfl | rfl | rfl | rfl | rfl <;> rfl

/-- List i's mark at j, the numbers being counted from a on. -/
def mkOc (p : Int) (a i j : Nat) : List Value := markO p ((a + i + 1 : Nat) : Int) (j : Int)

abbrev KinO (p : Int) (a B kb : Nat) (f : Nat → Nat) (vs gs : List Value) (M : Nat → Nat → Prop) (D : Nat → Nat) (W : World) : Prop := Kin 50 44 23 6 1 (mkOc p a) B kb f vs gs M D W

set_option maxHeartbeats 4000000 in
set_option maxRecDepth 100000 in
theorem write_o {B kb a : Nat} {f : Nat → Nat} {p : Int} {vs : List Value} {D : Nat → Nat} {w : World} (h : Bk B kb f p w) (hK : KinO p a B kb f vs [] (fun _ _ => False) D w) (hn : vs.length ≤ 1000000) (ha : a ≤ 1000000) :
    Calls Tryz.prog 103 #[.pointer (some ⟨kb, 0, none⟩), .int .i64 (a : Int)] w fun e w' => e = .returned (.int .i64 ((a + vs.length : Nat) : Int)) ∧ KinO p a B kb f vs [] (fun _ _ => True) D w' ∧ Off f (fun o => ∃ i, o = 2 * i + 1 + 5) w w' ∧ Below B w w' := by
  obtain ⟨n, hnn⟩ : ∃ n, n = vs.length := ⟨_, rfl⟩
  rw [← hnn] at hn ⊢
  have H := Lib.hid h
  have HK := Lib.hid hK
  have HN := Lib.hid hnn
  clear h hK hnn
  go_enter Tryz.func103, Tryz.ntmps103
  go_wp2_with fail
  go_loopw [1, 5] (fun x v wr => ∃ i y : Nat, x = .int .i64 (y : Int) ∧ v = .int .i64 (i : Int) ∧ Hid (y = a + i) ∧ y ≤ 3000000 ∧ i ≤ n ∧ Hid (KinO p a B kb f vs [] (Upto i 0) D wr) ∧ Hid (Off f (fun o => ∃ i, o = 2 * i + 1 + 5) w wr) ∧ Hid (Below B w wr)) (fun _ v _ => n - (intOf v).toNat)
  case atStart => exact ⟨0, a, rfl, rfl, Lib.hid rfl, by omega, Nat.zero_le _, Lib.hid (HK.out.weaken (fun i j _ hm => by unfold Upto at hm; omega) (fun _ _ => Nat.le_refl _)), Lib.hid (Off.refl _ _ _), Lib.hid (Below.refl _ _)⟩
  case round =>
  clear HK
  obtain ⟨i, y, rfl, rfl, hy, hy2, hi, hK, hO, hB⟩ := hrel
  by_cases hlt : i < n
  · obtain ⟨v, hv⟩ : ∃ v, vs[i]? = some v := ⟨vs[i]'(by have := HN.out; omega), List.getElem?_eq_getElem _⟩
    obtain ⟨AV, cV, hc1, hc2, hc3⟩ := hK.out.len
    rw [← HN.out] at hc1 hc2
    obtain ⟨l, hl, hl2, _⟩ := hK.out.elem i v hv
    obtain ⟨A, c, hvs, hlc, hlm⟩ := hl.slice
    obtain ⟨m, hm⟩ : ∃ m, m = l.length := ⟨_, rfl⟩
    rw [← hm] at hvs hlc hl2
    subst hvs
    obtain ⟨y1, hy1⟩ : ∃ y1, y1 = y + 1 := ⟨_, rfl⟩
    have e1 : (y : Int) + 1 = (y1 : Int) := by omega
    have hy3 : y1 ≤ 3000001 := by omega
    have HY := Lib.hid (show y1 = a + i + 1 by rw [hy1, hy.out])
    have HV := Lib.hid hv
    clear hl hm hv hy1
    go_wp2_with fail
    clear hc1 hc2 hc3
    go_loopw [6] (fun u wr => ∃ j : Nat, u = .int .i64 (j : Int) ∧ j ≤ m ∧ Hid (KinO p a B kb f vs [] (Upto i j) D wr) ∧ Hid (Off f (fun o => ∃ i, o = 2 * i + 1 + 5) w wr) ∧ Hid (Below B w wr)) (fun u _ => m - (intOf u).toNat)
    case atStart => exact ⟨0, rfl, Nat.zero_le _, hK, hO, hB⟩
    case round =>
    clear hK hO hB
    obtain ⟨j, rfl, hj, hK, hO, hB⟩ := hrel
    obtain ⟨gV, cV, d1, d2, d3, d4, d5, d6⟩ := hK.out.at HV.out
    rw [← HN.out] at d1 d2
    have i1 : (i : Int) < (n : Int) := by omega
    by_cases hjl : j < m
    · obtain ⟨l, hl, hl2, hM, _⟩ := hK.out.elem i _ HV.out
      have hml := (Kd.R_reads' hl).1
      obtain ⟨x, hx⟩ : ∃ x, l[j]? = some x := ⟨l[j]'(by omega), List.getElem?_eq_getElem _⟩
      obtain ⟨g, c', hvv, hfg, hBg, hglt, ⟨cs, hcs⟩, hxl, _, hc⟩ := hl.get hx
      obtain ⟨rfl, rfl⟩ : A = some ⟨g, 0, none⟩ ∧ c = c' := by injection hvv with h1 h2 h3; exact ⟨h1, h3⟩
      obtain ⟨x0, x1, x2, x3, x4, x5, rfl⟩ := six_list hxl
      have hx0 := Lib.hid (show wr.cell? ⟨g, j * 6, none⟩ = some x0 ∧ wr.cell? ⟨g, j * 6 + 1, none⟩ = some x1 ∧ wr.cell? ⟨g, j * 6 + 2, none⟩ = some x2 ∧ wr.cell? ⟨g, j * 6 + 3, none⟩ = some x3 ∧ wr.cell? ⟨g, j * 6 + 4, none⟩ = some x4 ∧ wr.cell? ⟨g, j * 6 + 5, none⟩ = some x5 from ⟨hc 0 x0 rfl, hc 1 x1 rfl, hc 2 x2 rfl, hc 3 x3 rfl, hc 4 x4 rfl, hc 5 x5 rfl⟩)
      have HCS := Lib.hid hcs
      have HP := Lib.hid (show wr.drew.cell? ⟨kb, 50, none⟩ = some (.slice (some ⟨gV, 0, none⟩) n cV) ∧ wr.drew.cell? ⟨gV, i, none⟩ = some (.slice (some ⟨g, 0, none⟩) m c) from ⟨d1, d4⟩)
      have HS := Lib.hid (show ∀ (W : World) (u0 u1 u2 u3 u4 u5 : Value), Below wr.heap.size wr W → ((((((W.setCell ⟨g, j * 6, none⟩ u0).setCell ⟨g, j * 6 + 1, none⟩ u1).setCell ⟨g, j * 6 + 2, none⟩ u2).setCell ⟨g, j * 6 + 3, none⟩ u3).setCell ⟨g, j * 6 + 4, none⟩ u4).setCell ⟨g, j * 6 + 5, none⟩ u5).cell? ⟨kb, 50, none⟩ = some (.slice (some ⟨gV, 0, none⟩) n cV) ∧ ((((((W.setCell ⟨g, j * 6, none⟩ u0).setCell ⟨g, j * 6 + 1, none⟩ u1).setCell ⟨g, j * 6 + 2, none⟩ u2).setCell ⟨g, j * 6 + 3, none⟩ u3).setCell ⟨g, j * 6 + 4, none⟩ u4).setCell ⟨g, j * 6 + 5, none⟩ u5).cell? ⟨gV, i, none⟩ = some (.slice (some ⟨g, 0, none⟩) m c) from fun W u0 u1 u2 u3 u4 u5 hb =>
        ⟨(sixB_other (fun e => by have h0 := H.out.own; rw [e] at h0; omega)).trans (pw_cell_below hb d1), (sixB_other (fun e => by rw [e] at d6; omega)).trans (pw_cell_below hb d4)⟩)
      have HBD := Lib.hid (show Below wr.heap.size wr wr.drew from (Below.refl _ _).drew)
      have HKD := Lib.hid (hK.out.below (by have := H.out.lt; have := hO.out.1; omega) HBD.out)
      have HBk := Lib.hid ((H.out.off hO.out (by rintro ⟨i, h⟩; omega)).below HBD.out)
      have HR := Lib.hid (Kd.R_below hl HBD.out)
      have HM := Lib.hid hM
      have wi : IntKind.i64.wrap (i : Int) = (i : Int) := by rw [IntKind.wrap_i64]; omega
      have wj : IntKind.i64.wrap (j : Int) = (j : Int) := by rw [IntKind.wrap_i64]; omega
      have wy : IntKind.i64.wrap (y1 : Int) = (y1 : Int) := by rw [IntKind.wrap_i64]; omega
      have j1 : (j : Int) < (m : Int) := by omega
      have HG := Lib.hid hBg
      have HL2 := Lib.hid hl2
      clear hl hM hx hvv hcs hc hK hBg hl2
      go_wp2_with fail
      go_region_held3 (fun W => W.cell? ⟨kb, 50, none⟩ = some (.slice (some ⟨gV, 0, none⟩) n cV) ∧ W.cell? ⟨gV, i, none⟩ = some (.slice (some ⟨g, 0, none⟩) m c)) (first | with_reducible exact HP.out | with_reducible exact hS5 | with_reducible exact HS.out _ _ _ _ _ _ _ hB5D) (first | (go_at_call 183; refine (mark_o HBk.out (y1 : Int) (j : Int)).mono ?_; rintro e w5 ⟨rfl, hB5⟩; have hB5D : Below wr.heap.size wr w5 := HBD.out.trans hB5; have hS5 : w5.cell? ⟨kb, 50, none⟩ = some (.slice (some ⟨gV, 0, none⟩) n cV) ∧ w5.cell? ⟨gV, i, none⟩ = some (.slice (some ⟨g, 0, none⟩) m c) := ⟨pw_cell_below hB5D d1, pw_cell_below hB5D d4⟩; obtain ⟨q0, q1, q2, q3, q4, q5⟩ := hx0.out; have q0 := pw_cell_below hB5D q0; have q1 := pw_cell_below hB5D q1; have q2 := pw_cell_below hB5D q2; have q3 := pw_cell_below hB5D q3; have q4 := pw_cell_below hB5D q4; have q5 := pw_cell_below hB5D q5; obtain ⟨f0, f1, f2, f3, f4, f5⟩ := six_frozen (blk_below HCS.out hB5D) (j * 6)))
      have hB5D' : Below wr.drew.heap.size wr.drew w5 := hB5
      have HW := Lib.hid (show KinO p a B kb f vs [] (Upto i (j + 1)) D (six w5 g (j * 6) (.int .i64 (y1 : Int)) (.int .i64 (markA p (j : Int))) (.int .i64 0) (.string ⟨#[]⟩) (.string ⟨#[]⟩) (.slice none 0 0)) ∧ Off f (fun o => ∃ i, o = 2 * i + 1 + 5) w (six w5 g (j * 6) (.int .i64 (y1 : Int)) (.int .i64 (markA p (j : Int))) (.int .i64 0) (.string ⟨#[]⟩) (.string ⟨#[]⟩) (.slice none 0 0)) ∧ Below B w (six w5 g (j * 6) (.int .i64 (y1 : Int)) (.int .i64 (markA p (j : Int))) (.int .i64 0) (.string ⟨#[]⟩) (.string ⟨#[]⟩) (.slice none 0 0)) by
        obtain ⟨k1, k2⟩ := Row.put (Kd.R_below HR.out hB5D') (j := j) hjl (seg := markO p (y1 : Int) (j : Int)) rfl (mark_one _ _ _)
        rw [show markO p (y1 : Int) (j : Int) = [.int .i64 (y1 : Int), .int .i64 (markA p (j : Int)), .int .i64 0, .string ⟨#[]⟩, .string ⟨#[]⟩, .slice none 0 0] from rfl, six_cells] at k1 k2
        have hmk : mkOc p a i j = [.int .i64 (y1 : Int), .int .i64 (markA p (j : Int)), .int .i64 0, .string ⟨#[]⟩, .string ⟨#[]⟩, .slice none 0 0] := by unfold mkOc; rw [HY.out]; rfl
        obtain ⟨k3, k4⟩ := (HKD.out.below HBk.out.lt hB5D').put H.out.own (HBk.out.below hB5D').lt (by omega) HV.out HM.out HL2.out (by rw [hmk]; exact k1) k2
        exact ⟨k3.weaken (fun i' j' _ h => by unfold Upto at h ⊢; omega) (fun _ _ => Nat.le_refl _), hO.out.trans (fun _ _ => rfl) ((Off.below hB5D).trans (fun _ _ => rfl) k4), six_belowB (hB.out.trans (hB5D.mono (by have h1 := HBk.out.ge; have h2 : kb < wr.heap.size := HBk.out.lt; omega))) HG.out _ _ _ _ _ _⟩)
      clear HP HS HR HM HKD HBk hO hB d1 d4 d6 hx0 HCS hB5 hB5D hB5D' hS5 q0 q1 q2 q3 q4 q5 f0 f1 f2 f3 f4 f5
      go_wp2_with fail
      go_roundw
      case rel => exact ⟨j + 1, by go_num, hjl, Lib.hid HW.out.1, Lib.hid HW.out.2.1, Lib.hid HW.out.2.2⟩
      case measure => simp [intOf]; omega
    · obtain rfl : j = m := by omega
      have HK1 := Lib.hid (show KinO p a B kb f vs [] (Upto (i + 1) 0) D wr from hK.out.known (fun i' j' m' c' A' h1 h2 h3 => by
        unfold Upto at h3 ⊢
        by_cases hii : i' = i
        · subst hii
          rw [HV.out] at h1
          injection h1 with h1
          injection h1 with _ h1 _
          omega
        · omega))
      have HY1 := Lib.hid (show y1 = a + (i + 1) by rw [HY.out]; omega)
      clear hK
      go_wp2_with fail
      go_roundw
      case rel => exact ⟨i + 1, y1, rfl, by go_num, HY1, by have := HY1.out; omega, hlt, HK1, hO, hB⟩
      case measure => simp [intOf]; omega
  · obtain rfl : i = n := by omega
    obtain ⟨AV, cV, hc1, hc2, hc3⟩ := hK.out.len
    rw [← HN.out] at hc1 hc2
    have HK1 := Lib.hid (show KinO p a B kb f vs [] (fun _ _ => True) D wr from hK.out.weaken (fun i' j' h1 _ => by unfold Upto; have := HN.out; omega) (fun _ _ => Nat.le_refl _))
    have HYY := Lib.hid (show (y : Int) = ((a + i : Nat) : Int) by rw [hy.out])
    clear hK
    go_wp2_with fail
    go_ret
    exact ⟨by rw [HYY.out]; rfl, HK1.out, hO.out, hB.out⟩
end Go.Proofs.YtbpackopicngmaaGreatDoor
namespace Go.Proofs.YtbpackopicngmaaGreatDoor
open Go.RowKit Go.Proofs.Sc Go.Proofs.YtbpackopicngmaaGreatDoorW.PrintWords

theorem show_iB {B kb o : Nat} {f : Nat → Nat} {p : Int} {w : World} (h : Bk B kb f p w) (A : Option Addr) (n c : Nat) (a : Int) {l : List (List Value)} (hR : Row B f o 1 3 w (.slice A n c) l) (hm : ∀ (j : Nat) (x : List Value), l[j]? = some x → x = [.int .i64 (markI p a j)]) :
    Calls Tryz.prog 185 #[.pointer (some ⟨kb, 0, none⟩), .slice A n c, .int .i64 a] w fun e w' => e = .returned (.bool true) ∧ Below w.heap.size w w' :=
  (show_i h A n c a hR hm).mono fun e w' ⟨h1, h2⟩ => ⟨h1, by rw [h2]; exact Below.refl _ _⟩

set_option maxHeartbeats 4000000 in
set_option maxRecDepth 100000 in
theorem hold_i {B kb a : Nat} {f : Nat → Nat} {p : Int} {vs gs : List Value} {D : Nat → Nat} {w : World} (h : Bk B kb f p w) (hK : KinI p a B kb f vs gs (fun _ _ => True) D w) (hn : vs.length ≤ 1000000) (ha : a ≤ 1000000) :
    Calls Tryz.prog 105 #[.pointer (some ⟨kb, 0, none⟩), .int .i64 (a : Int)] w fun e w' => e = .returned (.tuple #[.int .i64 ((a + vs.length : Nat) : Int), .bool true]) ∧ Below w.heap.size w w' := by
  obtain ⟨n, hnn⟩ : ∃ n, n = vs.length := ⟨_, rfl⟩
  obtain ⟨ng, hng⟩ : ∃ ng, ng = gs.length := ⟨_, rfl⟩
  have hgn := hK.few
  rw [← hnn, ← hng] at hgn
  rw [← hnn] at hn ⊢
  have H := Lib.hid h
  have HK := Lib.hid hK
  have HN := Lib.hid hnn
  have HNG := Lib.hid hng
  clear h hK hnn hng
  go_enter Tryz.func105, Tryz.ntmps105
  go_wp2_with fail
  go_loopw [1, 6, 7] (fun x u v wr => ∃ i y : Nat, x = .int .i64 (y : Int) ∧ u = .bool true ∧ v = .int .i64 (i : Int) ∧ Hid (y = a + i) ∧ y ≤ 3000000 ∧ i ≤ n ∧ Hid (Below w.heap.size w wr)) (fun _ _ v _ => n - (intOf v).toNat)
  case atStart => exact ⟨0, a, rfl, rfl, rfl, Lib.hid rfl, by omega, Nat.zero_le _, Lib.hid (Below.refl _ _)⟩
  case round =>
  obtain ⟨i, y, rfl, rfl, rfl, hy, hy2, hi, hB⟩ := hrel
  by_cases hlt : i < n
  · obtain ⟨v, hv⟩ : ∃ v, vs[i]? = some v := ⟨vs[i]'(by have := HN.out; omega), List.getElem?_eq_getElem _⟩
    obtain ⟨l, hl, hl2, hM, hG⟩ := HK.out.elem i v hv
    obtain ⟨A, c, hvs, hlc, hlm⟩ := hl.slice
    obtain ⟨m, hm⟩ : ∃ m, m = l.length := ⟨_, rfl⟩
    rw [← hm] at hvs hlc hl2
    subst hvs
    obtain ⟨y1, hy1⟩ : ∃ y1, y1 = y + 1 := ⟨_, rfl⟩
    have e1 : (y : Int) + 1 = (y1 : Int) := by omega
    have hy3 : y1 ≤ 3000001 := by omega
    have HY := Lib.hid (show y1 = a + i + 1 by rw [hy1, hy.out])
    obtain ⟨gV, cV, d1, d2, d3, d4, d5, d6⟩ := HK.out.at hv
    rw [← HN.out] at d1 d2
    obtain ⟨AG, cG, g1, g2, g3⟩ := HK.out.lenG
    rw [← HNG.out] at g1 g2
    have i1 : (i : Int) < (n : Int) := by omega
    have HR := Lib.hid hl
    have HM := Lib.hid (show ∀ (j : Nat) (x : List Value), l[j]? = some x → x = [.int .i64 (markI p (y1 : Int) (j : Int))] from fun j x hx => (hM j x hx trivial).trans (by unfold mkI; rw [HY.out]))
    have HG := Lib.hid hG
    have HC := Lib.hid (show ∀ W, Below w.heap.size w W → W.cell? ⟨kb, 5, none⟩ = some (.slice (some ⟨gV, 0, none⟩) n cV) ∧ W.cell? ⟨gV, i, none⟩ = some (.slice A m c) ∧ W.cell? ⟨kb, 7, none⟩ = some (.slice AG ng cG) from fun W hb => ⟨pw_cell_below hb d1, pw_cell_below hb d4, pw_cell_below hb g1⟩)
    obtain ⟨b1, b2, b3⟩ := HC.out wr hB.out
    clear hl hm hv hy1 hM hG d1 d4 g1
    go_wp2_with fail
    refine (show_iB (H.out.below hB.out) A m c (y1 : Int) (Kd.R_below HR.out hB.out) HM.out).mono ?_
    rintro e w1 ⟨rfl, hB1⟩
    have HB1 := Lib.hid (hB.out.trans (hB1.mono hB.out.size))
    clear hB1 b1 b2 b3
    obtain ⟨b1, b2, b3⟩ := HC.out w1 HB1.out
    by_cases hgl : i < ng
    · have j1 : (i : Int) < (ng : Int) := by omega
      obtain ⟨gg, hgg⟩ : ∃ gg, gs[i]? = some gg := ⟨gs[i]'(by have := HNG.out; omega), List.getElem?_eq_getElem _⟩
      obtain ⟨l', hl', _, _, hM'⟩ := HG.out gg hgg
      obtain ⟨gG, cG', t1, t2, t3, _, _, _, t4, _⟩ := HK.out.atG hgg
      obtain ⟨A', c', hvs', hlc', hlm'⟩ := hl'.slice
      obtain ⟨m', hm'⟩ : ∃ m', m' = l'.length := ⟨_, rfl⟩
      rw [← hm'] at hvs' hlc'
      subst hvs'
      rw [← HNG.out] at t1
      have t1' := (pw_cell_below HB1.out t1).symm.trans b3
      obtain ⟨rfl, rfl⟩ : AG = some ⟨gG, 0, none⟩ ∧ cG = cG' := by injection t1' with t1'; injection t1' with h1 h2 h3; exact ⟨h1.symm, h3.symm⟩
      have b4 := pw_cell_below HB1.out t4
      have HR' := Lib.hid hl'
      have HM2 := Lib.hid (show ∀ (j : Nat) (x : List Value), l'[j]? = some x → x = [.int .i64 (markI p (y1 : Int) (j : Int))] from fun j x hx => (hM' j x hx).trans (by unfold mkI; rw [HY.out]))
      clear t1 t1' t4 hl' hM' hm' hgg
      go_wp2_with fail
      refine (show_iB (H.out.below HB1.out) A' m' c' (y1 : Int) (Kd.R_below HR'.out HB1.out) HM2.out).mono ?_
      rintro e w2 ⟨rfl, hB2⟩
      have HB2 := Lib.hid (HB1.out.trans (hB2.mono HB1.out.size))
      clear hB2 b1 b2 b3 b4
      go_wp2_with fail
      go_roundw
      case rel => exact ⟨i + 1, y1, rfl, rfl, by go_num, Lib.hid (by rw [HY.out]; omega), by have := HY.out; omega, hlt, HB2⟩
      case measure => simp [intOf]; omega
    · have j1 : ¬ (i : Int) < (ng : Int) := by omega
      go_wp2_with fail
      go_roundw
      case rel => exact ⟨i + 1, y1, rfl, rfl, by go_num, Lib.hid (by rw [HY.out]; omega), by have := HY.out; omega, hlt, HB1⟩
      case measure => simp [intOf]; omega
  · obtain rfl : i = n := by omega
    obtain ⟨AV, cV, hc1, hc2, hc3⟩ := HK.out.len
    rw [← HN.out] at hc1 hc2
    have hc1 := pw_cell_below hB.out hc1
    have HYY := Lib.hid (show (y : Int) = ((a + i : Nat) : Int) by rw [hy.out])
    go_wp2_with fail
    go_ret2
    exact ⟨by rw [HYY.out]; rfl, hB.out⟩

set_option maxHeartbeats 4000000 in
set_option maxRecDepth 100000 in
theorem hold_o {B kb a : Nat} {f : Nat → Nat} {p : Int} {vs gs : List Value} {D : Nat → Nat} {w : World} (h : Bk B kb f p w) (hK : KinO p a B kb f vs gs (fun _ _ => True) D w) (hn : vs.length ≤ 1000000) (ha : a ≤ 1000000) :
    Calls Tryz.prog 120 #[.pointer (some ⟨kb, 0, none⟩), .int .i64 (a : Int)] w fun e w' => e = .returned (.tuple #[.int .i64 ((a + vs.length : Nat) : Int), .bool true]) ∧ Below w.heap.size w w' := by
  obtain ⟨n, hnn⟩ : ∃ n, n = vs.length := ⟨_, rfl⟩
  obtain ⟨ng, hng⟩ : ∃ ng, ng = gs.length := ⟨_, rfl⟩
  have hgn := hK.few
  rw [← hnn, ← hng] at hgn
  rw [← hnn] at hn ⊢
  have H := Lib.hid h
  have HK := Lib.hid hK
  have HN := Lib.hid hnn
  have HNG := Lib.hid hng
  clear h hK hnn hng
  go_enter Tryz.func120, Tryz.ntmps120
  go_wp2_with fail
  go_loopw [1, 6, 7] (fun x u v wr => ∃ i y : Nat, x = .int .i64 (y : Int) ∧ u = .bool true ∧ v = .int .i64 (i : Int) ∧ Hid (y = a + i) ∧ y ≤ 3000000 ∧ i ≤ n ∧ Hid (Below w.heap.size w wr)) (fun _ _ v _ => n - (intOf v).toNat)
  case atStart => exact ⟨0, a, rfl, rfl, rfl, Lib.hid rfl, by omega, Nat.zero_le _, Lib.hid (Below.refl _ _)⟩
  case round =>
  obtain ⟨i, y, rfl, rfl, rfl, hy, hy2, hi, hB⟩ := hrel
  by_cases hlt : i < n
  · obtain ⟨v, hv⟩ : ∃ v, vs[i]? = some v := ⟨vs[i]'(by have := HN.out; omega), List.getElem?_eq_getElem _⟩
    obtain ⟨l, hl, hl2, hM, hG⟩ := HK.out.elem i v hv
    obtain ⟨A, c, hvs, hlc, hlm⟩ := hl.slice
    obtain ⟨m, hm⟩ : ∃ m, m = l.length := ⟨_, rfl⟩
    rw [← hm] at hvs hlc hl2
    subst hvs
    obtain ⟨y1, hy1⟩ : ∃ y1, y1 = y + 1 := ⟨_, rfl⟩
    have e1 : (y : Int) + 1 = (y1 : Int) := by omega
    have hy3 : y1 ≤ 3000001 := by omega
    have HY := Lib.hid (show y1 = a + i + 1 by rw [hy1, hy.out])
    obtain ⟨gV, cV, d1, d2, d3, d4, d5, d6⟩ := HK.out.at hv
    rw [← HN.out] at d1 d2
    obtain ⟨AG, cG, g1, g2, g3⟩ := HK.out.lenG
    rw [← HNG.out] at g1 g2
    have i1 : (i : Int) < (n : Int) := by omega
    have HR := Lib.hid hl
    have HM := Lib.hid (show ∀ (j : Nat) (x : List Value), l[j]? = some x → x = markO p (y1 : Int) (j : Int) from fun j x hx => (hM j x hx trivial).trans (by unfold mkOc; rw [HY.out]))
    have HG := Lib.hid hG
    have HC := Lib.hid (show ∀ W, Below w.heap.size w W → W.cell? ⟨kb, 50, none⟩ = some (.slice (some ⟨gV, 0, none⟩) n cV) ∧ W.cell? ⟨gV, i, none⟩ = some (.slice A m c) ∧ W.cell? ⟨kb, 52, none⟩ = some (.slice AG ng cG) from fun W hb => ⟨pw_cell_below hb d1, pw_cell_below hb d4, pw_cell_below hb g1⟩)
    obtain ⟨b1, b2, b3⟩ := HC.out wr hB.out
    clear hl hm hv hy1 hM hG d1 d4 g1
    go_wp2_with fail
    refine (show_o (H.out.below hB.out) A m c (y1 : Int) (Kd.R_below HR.out hB.out) HM.out).mono ?_
    rintro e w1 ⟨rfl, hB1⟩
    have HB1 := Lib.hid (hB.out.trans (hB1.mono hB.out.size))
    clear hB1 b1 b2 b3
    obtain ⟨b1, b2, b3⟩ := HC.out w1 HB1.out
    by_cases hgl : i < ng
    · have j1 : (i : Int) < (ng : Int) := by omega
      obtain ⟨gg, hgg⟩ : ∃ gg, gs[i]? = some gg := ⟨gs[i]'(by have := HNG.out; omega), List.getElem?_eq_getElem _⟩
      obtain ⟨l', hl', _, _, hM'⟩ := HG.out gg hgg
      obtain ⟨gG, cG', t1, t2, t3, _, _, _, t4, _⟩ := HK.out.atG hgg
      obtain ⟨A', c', hvs', hlc', hlm'⟩ := hl'.slice
      obtain ⟨m', hm'⟩ : ∃ m', m' = l'.length := ⟨_, rfl⟩
      rw [← hm'] at hvs' hlc'
      subst hvs'
      rw [← HNG.out] at t1
      have t1' := (pw_cell_below HB1.out t1).symm.trans b3
      obtain ⟨rfl, rfl⟩ : AG = some ⟨gG, 0, none⟩ ∧ cG = cG' := by injection t1' with t1'; injection t1' with h1 h2 h3; exact ⟨h1.symm, h3.symm⟩
      have b4 := pw_cell_below HB1.out t4
      have HR' := Lib.hid hl'
      have HM2 := Lib.hid (show ∀ (j : Nat) (x : List Value), l'[j]? = some x → x = markO p (y1 : Int) (j : Int) from fun j x hx => (hM' j x hx).trans (by unfold mkOc; rw [HY.out]))
      clear t1 t1' t4 hl' hM' hm' hgg
      go_wp2_with fail
      refine (show_o (H.out.below HB1.out) A' m' c' (y1 : Int) (Kd.R_below HR'.out HB1.out) HM2.out).mono ?_
      rintro e w2 ⟨rfl, hB2⟩
      have HB2 := Lib.hid (HB1.out.trans (hB2.mono HB1.out.size))
      clear hB2 b1 b2 b3 b4
      go_wp2_with fail
      go_roundw
      case rel => exact ⟨i + 1, y1, rfl, rfl, by go_num, Lib.hid (by rw [HY.out]; omega), by have := HY.out; omega, hlt, HB2⟩
      case measure => simp [intOf]; omega
    · have j1 : ¬ (i : Int) < (ng : Int) := by omega
      go_wp2_with fail
      go_roundw
      case rel => exact ⟨i + 1, y1, rfl, rfl, by go_num, Lib.hid (by rw [HY.out]; omega), by have := HY.out; omega, hlt, HB1⟩
      case measure => simp [intOf]; omega
  · obtain rfl : i = n := by omega
    obtain ⟨AV, cV, hc1, hc2, hc3⟩ := HK.out.len
    rw [← HN.out] at hc1 hc2
    have hc1 := pw_cell_below hB.out hc1
    have HYY := Lib.hid (show (y : Int) = ((a + i : Nat) : Int) by rw [hy.out])
    go_wp2_with fail
    go_ret2
    exact ⟨by rw [HYY.out]; rfl, hB.out⟩
end Go.Proofs.YtbpackopicngmaaGreatDoor
namespace Go.Proofs.YtbpackopicngmaaGreatDoor
open Go.RowKit Go.Proofs.Sc Go.Proofs.YtbpackopicngmaaGreatDoorW.PrintWords

/-- New blocks are o's. -/
def ext (W : World) (f : Nat → Nat) (o : Nat) : Nat → Nat := fun k => if k < W.heap.size then f k else o
theorem ext_elder (W : World) (f : Nat → Nat) (o : Nat) : Elder W f (ext W f o) := fun _ hk => if_pos hk
theorem ext_new {W : World} {f : Nat → Nat} {o k : Nat} (h : W.heap.size ≤ k) : ext W f o k = o := if_neg (by omega)

/-- What holds while a kind's lists are grown; w, f: how it was at first. -/
structure GrS (F t tO sz q : Nat) (mk : Nat → Nat → List Value) (p : Int) (B kb : Nat) (vs : List Value) (f : Nat → Nat) (w : World) (f1 : Nat → Nat) (gs : List Value) (D : Nat → Nat) (wr : World) : Prop where
  elder : Elder w f f1
  bk : Bk B kb f1 p wr
  kin : Kin F t tO sz q mk B kb f1 vs gs (fun _ _ => True) D wr
  off : Off f (fun o => o = 0 ∨ o = 2 * q + 2 ∨ ∃ i, o = 2 * i + q + 5) w wr
  cells : ∀ j, j ≠ F + 2 → wr.cell? ⟨kb, j, none⟩ = w.cell? ⟨kb, j, none⟩
  below : Below B w wr

section
variable {F t tO sz q : Nat} {mk : Nat → Nat → List Value} {p : Int} {B kb : Nat} {vs : List Value} {f : Nat → Nat} {w : World} {f1 : Nat → Nat} {gs : List Value} {D D' : Nat → Nat} {wr w1 : World}
theorem GrS.start (hb : Bk B kb f p w) (hk : Kin F t tO sz q mk B kb f vs gs (fun _ _ => True) D w) : GrS F t tO sz q mk p B kb vs f w f gs D w :=
  ⟨fun _ _ => rfl, hb, hk, Off.refl _ _ _, fun _ _ => rfl, Below.refl _ _⟩
theorem GrS.later (h : GrS F t tO sz q mk p B kb vs f w f1 gs D wr) (hb : Below wr.heap.size wr w1) : GrS F t tO sz q mk p B kb vs f w f1 gs D w1 :=
  ⟨h.elder, h.bk.below hb, h.kin.below h.bk.lt hb, h.off.trans h.elder (Off.below hb), fun j hj => (cell_block (hb.block _ h.bk.lt) j).trans (h.cells j hj), h.below.trans (hb.mono (by have := h.bk.lt; have := h.bk.ge; omega))⟩
theorem GrS.bound (h : GrS F t tO sz q mk p B kb vs f w f1 gs D wr) (hD : ∀ i, i < gs.length → D i ≤ D' i) : GrS F t tO sz q mk p B kb vs f w f1 gs D' wr :=
  ⟨h.elder, h.bk, h.kin.weaken (fun _ _ _ _ => trivial) hD, h.off, h.cells, h.below⟩

theorem GrS.push {v V V1 : Value} (h : GrS F t tO sz q mk p B kb vs f w f1 gs D wr) (hF : F = 5 ∨ F = 50) (hq : q ≤ 1) (hv : vs[gs.length]? = some v) (hc : wr.cell? ⟨kb, F + 2, none⟩ = some V) (hR : Row B f1 (2 * q + 2) 1 tO wr V (gs.map fun v => [v]))
    (hR1 : Row B (ext wr f1 (2 * q + 2)) (2 * q + 2) 1 tO w1 V1 ((gs.map fun v => [v]) ++ [[v]])) (hw : Went V V1 gs.length wr w1) (hb : Below B w w1) :
    GrS F t tO sz q mk p B kb vs f w (ext wr f1 (2 * q + 2)) (gs ++ [v]) D (w1.setCell ⟨kb, F + 2, none⟩ V1) := by
  obtain ⟨k1, k2, k3, k4, k5, k6⟩ := h.bk.push (by omega) hc hR (by omega) (ext_elder _ _ _) hR1 (by rw [List.length_map]; exact hw)
  refine ⟨h.elder.trans h.off.1 (ext_elder _ _ _), k4, h.kin.grow1 h.bk hF hq hc hR (ext_elder _ _ _) hR1 hw hv, h.off.trans h.elder ⟨k6, fun k hk hp => k1 k hk (fun e => hp (Or.inr (Or.inl e))) (fun e => hp (Or.inl e))⟩, fun j hj => (k2 j hj).trans (h.cells j hj), hb.setCell h.bk.ge _⟩

/-- Behind an append to one of the grown lists: the Book, and the list of lists, are as they were. -/
theorem gr_mid {o : Nat} {g g1 : Value} {l' : List (List Value)} (hl' : Row B f1 o sz t wr g l') (hw : Went g g1 l'.length wr w1) :
    ∀ k, k < wr.heap.size → f1 k ≠ o → w1.heap[k]? = wr.heap[k]? := fun k hk hf => hw.1.block k hk (fun e => hf (hl'.1 k e.symm))

theorem GrS.grow {i : Nat} {v g g1 : Value} {l l' : List (List Value)} {gG cG : Nat} (h : GrS F t tO sz q mk p B kb vs f w f1 gs D wr) (hq : q ≤ 1) (hs0 : 0 < sz) (hv : vs[i]? = some v) (hg : gs[i]? = some g)
    (hl : Row B f1 (2 * i + q + 5) sz t wr v l) (hl2 : l.length ≤ 100000) (hl3 : ∀ (j : Nat) (x : List Value), l[j]? = some x → x = mk i j) (hl' : Row B f1 (2 * i + q + 5) sz t wr g l') (hle : l.length ≤ l'.length) (hle2 : l'.length ≤ 100000 + D i) (hm : ∀ (j : Nat) (x : List Value), l'[j]? = some x → x = mk i j)
    (hR1 : Row B (ext wr f1 (2 * i + q + 5)) (2 * i + q + 5) sz t w1 g1 (l' ++ [mk i l'.length])) (hw : Went g g1 l'.length wr w1) (hb : Below B w w1) (hc : wr.cell? ⟨kb, F + 2, none⟩ = some (.slice (some ⟨gG, 0, none⟩) gs.length cG)) :
    GrS F t tO sz q mk p B kb vs f w (ext wr f1 (2 * i + q + 5)) (gs.set i g1) (fun i' => if i' = i then D i + 1 else D i') (w1.setCell ⟨gG, i, none⟩ g1) := by
  have hst := gr_mid hl' hw
  have he := ext_elder wr f1 (2 * i + q + 5)
  obtain ⟨V, hV1, hV2⟩ := h.kin.grown
  obtain rfl : V = .slice (some ⟨gG, 0, none⟩) gs.length cG := Option.some.inj (hV1.symm.trans hc)
  have hVo : f1 gG = 2 * q + 2 := hV2.1 gG (by simp [Value.ownBlock])
  have hVl : gG < wr.heap.size := Kd.R_lt hV2 gG (by simp [Value.ownBlock])
  have hVb : B ≤ gG := Kd.R_base hV2 gG (by simp [Value.ownBlock])
  have hW1 := hV2.move (W1 := w1) he (fun k hk ho => hst k hk (by omega))
  have hone : g1.oneCell' = true := by
    obtain ⟨A, c, rfl, _⟩ := hR1.slice; rfl
  have hilt : i < gs.length := (List.getElem?_eq_some_iff.1 hg).1
  obtain ⟨k1, k2⟩ := Row.put hW1 (j := i) hilt (seg := [g1]) rfl (fun u hu => by rw [List.mem_singleton.1 hu]; exact hone)
  rw [one_cells] at k1 k2
  obtain ⟨k3, k4⟩ := h.kin.grow2 (w2 := w1.setCell ⟨gG, i, none⟩ g1) h.bk hq hs0 hc hv hg hl hl2 hl3 hl' hle hle2 hm he hR1 hw k1 k2 (fun k hk => by
    have : gG = k := by simpa [Value.ownBlock] using hk
    subst this; rw [he _ hVl]; exact hVo)
  have hbk : Bk B kb (ext wr f1 (2 * i + q + 5)) p (w1.setCell ⟨gG, i, none⟩ g1) := (h.bk.owner he).keep ((set_block (fun e => by have h0 := h.bk.own; rw [e] at h0; omega)).trans (hst kb h.bk.lt (by rw [h.bk.own]; omega)))
  refine ⟨h.elder.trans h.off.1 he, hbk, k3, h.off.trans h.elder (k4.mono (fun o ho => Or.inr ho)), fun j hj => ?_, hb.setCell hVb _⟩
  rw [cell_block ((set_block (fun e => by have h0 := h.bk.own; rw [e] at h0; omega)).trans (hst kb h.bk.lt (by rw [h.bk.own]; omega))) j]
  exact h.cells j hj
end
end Go.Proofs.YtbpackopicngmaaGreatDoor
