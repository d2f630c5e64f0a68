/- Walks, part H: script.Parse. -/
import Derived.Test.YtbpackopicngmaaGreatDoorSwG
namespace Go.Proofs.YtbpackopicngmaaGreatDoor
open Go.RowKit Go.Proofs.Sc Go.Proofs.YtbpackopicngmaaGreatDoorW.PrintWords

/-- A step as a value's six cells. -/
def kOp : Kd POp := Kd.iso (Kd.pair (Kd.int .i64) (Kd.pair (Kd.int .i64) (Kd.pair (Kd.int .i64) (Kd.pair Kd.string (Kd.pair Kd.string (Kd.slice 3 (Kd.int .i64)))))))
  (fun o : POp => (o.kind, o.a, o.b, (⟨o.name.toArray⟩ : ByteArray), (⟨o.text.toArray⟩ : ByteArray), o.list))

theorem kOp_mkM (w : World) (base : Nat) (ok : Nat → Prop) (o : POp) {v : Value} (g : (Kd.int .i64).R 3 w base ok v o.list) :
    kOp.M w base ok o [.int .i64 o.kind, .int .i64 o.a, .int .i64 o.b, .string ⟨o.name.toArray⟩, .string ⟨o.text.toArray⟩, v] :=
  ⟨[.int .i64 o.kind], [.int .i64 o.a, .int .i64 o.b, .string ⟨o.name.toArray⟩, .string ⟨o.text.toArray⟩, v], rfl, rfl,
    [.int .i64 o.a], [.int .i64 o.b, .string ⟨o.name.toArray⟩, .string ⟨o.text.toArray⟩, v], rfl, rfl,
    [.int .i64 o.b], [.string ⟨o.name.toArray⟩, .string ⟨o.text.toArray⟩, v], rfl, rfl,
    [.string ⟨o.name.toArray⟩], [.string ⟨o.text.toArray⟩, v], rfl, rfl, [.string ⟨o.text.toArray⟩], [v], rfl, rfl, v, rfl, g⟩

theorem info_op : (Tryz.prog.info? 44).map (fun i => (i.zero, i.size, i.bytes)) = some (some (.agg zeroOp), 6, 80) := by kernel_rfl

def lineCells (ls : List By) : Array Value := (ls.map fun x => Value.string ⟨x.toArray⟩).toArray

theorem split_any (s : ByteArray) (hs : s.size ≤ 33554432) (w : World) {B : Nat} (hE : Env B w) :
    Calls Tryz.prog 22 #[.string s, .string ⟨#[10]⟩] w fun e w' => e = .returned (.slice (some ⟨w.heap.size, 0, none⟩) (linesOf s.data.toList).length (linesOf s.data.toList).length) ∧ w' = w.alloc (.cells (lineCells (linesOf s.data.toList)) 9) := by
  obtain ⟨m, hm⟩ := hE.lenCell
  refine (Tryz.strings_Split s ⟨#[10]⟩ m w (by omega) hm (by decide)).mono ?_
  rintro e w' ⟨h1, h2⟩
  have hc := count_lib s
  have hl : Lib.countB s ⟨#[10]⟩ + 1 = (linesOf s.data.toList).length := by rw [hc, linesOf_len]
  have hp := Lib.pieces_eq (split_lines _ s rfl)
  rw [hc] at h2
  refine ⟨by rw [h1, hl], ?_⟩
  rw [h2, hp]; rfl

def capOf (st : PSt) : Int := match st with | some s => s.cap | none => 0
def opsOf (st : PSt) : List POp := match st with | some s => s.ops | none => []

/-- What has been read when line i is at hand. -/
structure PR (w : World) (ls : List By) (tot : PScript × Int × Int) (i : Nat) (st : PSt) (wr : World) : Prop where
  zero : wr.heap[w.heap.size]? = some (.cells #[.int .i64 0, .slice none 0 0] 25 (0, 0))
  s : ∃ v, wr.heap[w.heap.size + 1]? = some (.cells #[.int .i64 (capOf st), v] 25 (0, 0)) ∧ kOp.R 44 wr w.heap.size (fun _ => True) v (opsOf st)
  lines : wr.heap[w.heap.size + 2]? = some (.cells (lineCells ls) 9 (0, 0))
  below : Below w.heap.size w wr
  res : parseL st i (ls.drop i) = tot
  le : i ≤ ls.length
  few : (opsOf st).length ≤ 2000

def ParsePost (t : By) (w : World) (e : Ending) (w' : World) : Prop :=
  ∃ v, e = .returned (.tuple #[.agg #[.int .i64 (parse t).1.cap, v], .int .i64 (parse t).2.1, .int .i64 (parse t).2.2]) ∧ kOp.R 44 w' w.heap.size (fun _ => True) v (parse t).1.ops ∧ Below w.heap.size w w'

theorem ParsePost.mk' {t : By} {w w' : World} {v : Value} {s : PScript} {l c : Int} (h : parse t = (s, l, c)) (hv : kOp.R 44 w' w.heap.size (fun _ => True) v s.ops) (hb : Below w.heap.size w w') :
    ParsePost t w (.returned (.tuple #[.agg #[.int .i64 s.cap, v], .int .i64 l, .int .i64 c])) w' := by
  unfold ParsePost; rw [h]; exact ⟨v, rfl, hv, hb⟩

theorem ParsePost.error {t : By} {w w' : World} {l c : Int} (h : parse t = (PScript.zero, l, c)) (hb : Below w.heap.size w w') :
    ParsePost t w (.returned (.tuple #[.agg #[.int .i64 0, .slice none 0 0], .int .i64 l, .int .i64 c])) w' :=
  ParsePost.mk' (s := PScript.zero) h (Kd.R_nil _ _ _ _ _) hb

theorem parseL_ok {st st' : PSt} {i : Nat} {l : By} {ls : List By} (h : lineStep st l = .ok st') : parseL st i (l :: ls) = parseL st' (i + 1) ls := by
  cases st <;> simp only [parseL, h]
theorem parseL_error {st : PSt} {i : Nat} {l : By} {ls : List By} {e : Int} (h : lineStep st l = .error e) : parseL st i (l :: ls) = (.zero, (i : Int) + 1, e) := by
  cases st <;> simp only [parseL, h]

theorem kOp_types (t : Nat) (h1 : 44 ≠ t) (h2 : 3 ≠ t) : ∀ q, q ∈ 44 :: kOp.E → q ≠ t := by
  intro q hq
  have : q = 44 ∨ q = 3 := by simpa [kOp, Kd.iso, Kd.pair, Kd.int, Kd.string, Kd.scalar, Kd.slice] using hq
  rcases this with rfl | rfl
  · exact h1
  · exact h2

theorem PR.later {w : World} {ls : List By} {tot : PScript × Int × Int} {i : Nat} {st : PSt} {wr w1 : World} (h : PR w ls tot i st wr) (hb : Below wr.heap.size wr w1) : PR w ls tot i st w1 := by
  obtain ⟨hz, ⟨v, hs, hv⟩, hl, hbw, hr, hle, hf⟩ := h
  exact ⟨(hb.block _ (blk_lt hz)).trans hz, ⟨v, (hb.block _ (blk_lt hs)).trans hs, Kd.R_below hv hb⟩, (hb.block _ (blk_lt hl)).trans hl, hbw.trans (hb.mono hbw.size), hr, hle, hf⟩

theorem PR.next {w : World} {ls : List By} {tot : PScript × Int × Int} {i : Nat} {st : PSt} {wr : World} {x : By} (h : PR w ls tot i st wr) (hx : ls[i]? = some x) (hw : wordsOf x = []) : PR w ls tot (i + 1) st wr := by
  obtain ⟨hz, hs, hl, hbw, hr, hle, hf⟩ := h
  refine ⟨hz, hs, hl, hbw, ?_, (List.getElem?_eq_some_iff.1 hx).1, hf⟩
  rw [Lib.drop_at hx, parseL_ok (st' := st) (by unfold lineStep; rw [if_pos hw])] at hr
  exact hr

theorem PR.cell {w : World} {ls : List By} {tot : PScript × Int × Int} {i : Nat} {st : PSt} {wr : World} {x : By} (h : PR w ls tot i st wr) {j : Nat} (hx : ls[j]? = some x) : wr.cell? ⟨w.heap.size + 2, j, none⟩ = some (.string ⟨x.toArray⟩) := by
  rw [blk_cell h.lines]; simp [lineCells, hx]

theorem headOf_codes {ws : List By} {c : Int} (h : headOf ws = .error c) : (c != 0) = true := by
  unfold headOf at h
  repeat' split at h
  all_goals first | (cases h; rfl) | cases h
theorem setAll_codes : ∀ (fs : By) (ws : List By) (o : POp) {c : Int}, setAll o fs ws = .error c → (c != 0) = true
  | _, [], o, c, h => by simp [setAll] at h
  | [], x :: ws, o, c, h => by
    simp only [setAll] at h
    split at h
    · exact setAll_codes [] ws _ h
    · rename_i e he; cases h; exact setF_codes he
  | f :: fs, x :: ws, o, c, h => by
    simp only [setAll] at h
    split at h
    · exact setAll_codes fs ws _ h
    · rename_i e he; cases h; exact setF_codes he
theorem stepOf_codes {ws : List By} {c : Int} (h : stepOf ws = .error c) : (c != 0) = true := by
  unfold stepOf at h
  split at h
  · cases h; rfl
  · split at h
    · cases h; rfl
    · split at h
      · cases h; rfl
      · exact setAll_codes _ _ _ h

theorem StepPost.of_ok {ws : List By} {w w' : World} {e : Ending} {o : POp} (h : StepPost ws w e w') (hs : stepOf ws = .ok o) : (∃ lv, e = .returned (.tuple #[.agg #[.int .i64 o.kind, .int .i64 o.a, .int .i64 o.b, .string ⟨o.name.toArray⟩, .string ⟨o.text.toArray⟩, lv], .int .i64 0]) ∧ w'.ownsRow w.heap.size 3 1 lv o.list.length (nums .i64 o.list)) ∧ Below w.heap.size w w' := by
  unfold StepPost at h; rw [hs] at h; exact h
theorem StepPost.of_error {ws : List By} {w w' : World} {e : Ending} {c : Int} (h : StepPost ws w e w') (hs : stepOf ws = .error c) : e = .returned (.tuple #[.agg zeroOp, .int .i64 c]) ∧ Below w.heap.size w w' := by
  unfold StepPost at h; rw [hs] at h; exact h

theorem step_any (ws : List By) (hne : ws ≠ []) (hsz : ∀ y ∈ ws, y.length ≤ 33554432) (hl : ws.length ≤ 33554432) (v : Value) (w : World) {B B' : Nat} (hE : Env B w) (hv : Words B' w v ws) (hB' : B' ≤ w.heap.size) :
    Calls Tryz.prog 25 #[v] w (StepPost ws w) := by
  match ws, hne with
  | x :: r, _ =>
    by_cases hk : kindOf x = 0
    · exact step_noword x r hk v w hE hv hB'
    · exact step_word x r (fun y hy => hsz y (by simp [hy])) (by simp at hl; omega) hk v w hE hv hB'

theorem two_below {B b : Nat} {w W : World} (h : Below B w W) (hb : B ≤ b) (u0 u1 : Value) : Below B w ((W.setCell ⟨b, 0, none⟩ u0).setCell ⟨b, 1, none⟩ u1) :=
  (h.setCell (p := ⟨b, 0, none⟩) hb _).setCell (p := ⟨b, 1, none⟩) hb _

theorem word_len (l : By) (h : l.length ≤ 1048576) : (∀ y ∈ wordsOf l, y.length ≤ 33554432) ∧ (wordsOf l).length ≤ 33554432 := by
  refine ⟨fun y hy => ?_, ?_⟩
  · have := word_le l [] y hy; simp at this; omega
  · have := words_count l []; unfold wordsOf; omega

theorem script_cells {b : Nat} {w : World} {v0 v1 : Value} (h : w.heap[b]? = some (.cells #[v0, v1] 25 (0, 0))) :
    w.cell? ⟨b, 0, none⟩ = some v0 ∧ w.cell? ⟨b, 1, none⟩ = some v1 ∧ w.frozen? ⟨b, 0, none⟩ = false ∧ w.frozen? ⟨b, 1, none⟩ = false :=
  ⟨blk_cell h 0, blk_cell h 1, blk_frozen h 0, blk_frozen h 1⟩

theorem lineStep_head {x : By} {n : Int} (hne : wordsOf x ≠ []) (h : headOf (wordsOf x) = .ok n) : lineStep none x = .ok (some ⟨n, []⟩) := by unfold lineStep; rw [if_neg hne]; simp only [h]
theorem lineStep_headE {x : By} {c : Int} (hne : wordsOf x ≠ []) (h : headOf (wordsOf x) = .error c) : lineStep none x = .error c := by unfold lineStep; rw [if_neg hne]; simp only [h]
theorem lineStep_many {x : By} {s : PScript} (hne : wordsOf x ≠ []) (h : s.ops.length = 2000) : lineStep (some s) x = .error 264 := by unfold lineStep; rw [if_neg hne]; simp only [h, if_true]
theorem lineStep_step {x : By} {s : PScript} {o : POp} (hne : wordsOf x ≠ []) (h : s.ops.length ≠ 2000) (ho : stepOf (wordsOf x) = .ok o) : lineStep (some s) x = .ok (some ⟨s.cap, s.ops ++ [o]⟩) := by unfold lineStep; rw [if_neg hne]; simp only [if_neg h, ho]
theorem lineStep_stepE {x : By} {s : PScript} {c : Int} (hne : wordsOf x ≠ []) (h : s.ops.length ≠ 2000) (ho : stepOf (wordsOf x) = .error c) : lineStep (some s) x = .error c := by unfold lineStep; rw [if_neg hne]; simp only [if_neg h, ho]

theorem PR.errors {w : World} {ls : List By} {tot : PScript × Int × Int} {i : Nat} {st : PSt} {wr : World} {x : By} {c : Int} (h : PR w ls tot i st wr) (hx : ls[i]? = some x) (hl : lineStep st x = .error c) : tot = (.zero, (i : Int) + 1, c) := by
  rw [← h.res, Lib.drop_at hx, parseL_error hl]

theorem PR.head {w : World} {ls : List By} {tot : PScript × Int × Int} {i : Nat} {wr : World} {x : By} {n : Int} (h : PR w ls tot i none wr) (hx : ls[i]? = some x) (hl : lineStep none x = .ok (some ⟨n, []⟩)) : PR w ls tot (i + 1) (some ⟨n, []⟩) (wr.setCell ⟨w.heap.size + 1, 0, none⟩ (.int .i64 n)) := by
  obtain ⟨hz, ⟨v, hs, hv⟩, hlr, hbw, hr, hle, hf⟩ := h
  refine ⟨blk_far hz (p := ⟨w.heap.size + 1, 0, none⟩) (by simp) _, ⟨v, (blk_set hs 0 _).trans (by simp [capOf]), Kd.R_set hv hs (kOp_types _ (by decide) (by decide)) 0 _⟩, blk_far hlr (p := ⟨w.heap.size + 1, 0, none⟩) (by simp) _, hbw.setCell (p := ⟨w.heap.size + 1, 0, none⟩) (by simp) _, ?_, (List.getElem?_eq_some_iff.1 hx).1, Nat.zero_le _⟩
  rw [Lib.drop_at hx, parseL_ok hl] at hr
  exact hr

theorem PR.push {w : World} {ls : List By} {tot : PScript × Int × Int} {i : Nat} {sc : PScript} {w2 : World} {v : Value} {x : By} {o : POp} (h : PR w ls tot i (some sc) w2) (hs2 : w2.heap[w.heap.size + 1]? = some (.cells #[.int .i64 sc.cap, v] 25 (0, 0))) (hv : kOp.R 44 w2 w.heap.size (fun _ => True) v sc.ops)
    (hx : ls[i]? = some x) (hl : lineStep (some sc) x = .ok (some ⟨sc.cap, sc.ops ++ [o]⟩)) (hlen : sc.ops.length + 1 ≤ 2000) {ob : Obj} {w3 : World} {v1 : Value} (hg : (w2.alloc ob).grownBy w3 v.ownBlock) (hR : kOp.R 44 w3 w.heap.size (fun _ => True) v1 (sc.ops ++ [o])) (hB : Below w.heap.size w w3) :
    PR w ls tot (i + 1) (some ⟨sc.cap, sc.ops ++ [o]⟩) (w3.setCell ⟨w.heap.size + 1, 1, none⟩ v1) ∧ w3.heap[w.heap.size + 1]? = some (.cells #[.int .i64 sc.cap, v] 25 (0, 0)) := by
  obtain ⟨hz, _, hlr, hbw, hr, hle, hf⟩ := h
  have up : ∀ {g t : Nat} {cs : Array Value}, w2.heap[g]? = some (.cells cs t (0, 0)) → 44 ≠ t → w3.heap[g]? = some (.cells cs t (0, 0)) := fun hb ht =>
    blk_grown ((Below.heap_alloc _ _ _ (blk_lt hb)).trans hb) hg (Kd.R_ne hv hb ht)
  have hs3 := up hs2 (by decide)
  refine ⟨⟨blk_far (up hz (by decide)) (p := ⟨w.heap.size + 1, 1, none⟩) (by simp) _, ⟨v1, (blk_set hs3 1 _).trans (by simp [capOf]), Kd.R_set hR hs3 (kOp_types _ (by decide) (by decide)) 1 _⟩, blk_far (up hlr (by decide)) (p := ⟨w.heap.size + 1, 1, none⟩) (by simp) _, hB.setCell (p := ⟨w.heap.size + 1, 1, none⟩) (by simp) _, ?_, (List.getElem?_eq_some_iff.1 hx).1, by simpa [opsOf] using hlen⟩, hs3⟩
  rw [Lib.drop_at hx, parseL_ok hl] at hr
  exact hr

set_option maxHeartbeats 4000000 in
set_option maxRecDepth 100000 in
theorem Parse_any (s : ByteArray) (hs : s.size ≤ 33554432) (w : World) {B : Nat} (hE : Env B w) :
    Calls Tryz.prog 7 #[.string s] w (ParsePost s.data.toList w) := by
  by_cases hbig : 1048576 < s.size
  · have HR := Lib.hid (show parse s.data.toList = (PScript.zero, 0, 264) by unfold parse; rw [if_pos (by rw [← size_list]; exact hbig)])
    have k1 : (1048576 : Int) < (s.size : Int) := by omega
    clear hbig
    go_enter Tryz.func7, Tryz.ntmps7
    go_wp2_with fail
    exact bodyPost_ret (v := .tuple #[.agg #[.int .i64 0, .slice none 0 0], .int .i64 0, .int .i64 264]) (by simp [results, Tryz.results7, go_sem]) rfl (ParsePost.error HR.out ((Below.refl _ _).alloc (Nat.le_refl _) _))
  · have k1 : ¬ (1048576 : Int) < (s.size : Int) := by omega
    have hpar := Lib.hid (show parse s.data.toList = parseL none 0 (linesOf s.data.toList) by unfold parse; rw [if_neg (by rw [← size_list]; exact hbig)])
    have hsz : s.size ≤ 1048576 := by omega
    have hll : (linesOf s.data.toList).length ≤ 1048577 := by
      rw [linesOf_len]; have := List.count_le_length (a := (10 : UInt8)) (l := s.data.toList); rw [← size_list] at this; omega
    have hle : ∀ x ∈ linesOf s.data.toList, x.length ≤ 1048576 := fun x hx => by have := line_le _ x hx; rw [← size_list] at this; omega
    have HLE := Lib.hid hle
    have SP := fun W (hE' : Env B W) => split_any s hs W hE'
    obtain ⟨ls, hls⟩ : ∃ ls, ls = linesOf s.data.toList := ⟨_, rfl⟩
    rw [← hls] at hpar HLE hll SP
    obtain ⟨n, hn⟩ : ∃ n, n = ls.length := ⟨_, rfl⟩
    rw [← hn] at SP hll
    obtain ⟨tot, htot⟩ : ∃ tot, tot = parseL none 0 ls := ⟨_, rfl⟩
    rw [← htot] at hpar
    have HN := Lib.hid hn
    have HT := Lib.hid htot
    have HSP := Lib.hid SP
    clear hls hle hn htot hbig SP
    go_enter Tryz.func7, Tryz.ntmps7
    go_wp2_with fail
    refine (HSP.out _ ((hE.below ((Below.refl _ _).alloc (Nat.le_refl _) _)).below ((Below.refl _ _).alloc (Nat.le_refl _) _))).mono ?_
    rintro e w1 ⟨rfl, rfl⟩
    have HP0 := Lib.hid (show PR w ls tot 0 none (((w.alloc (.cells #[.int .i64 0, .slice none 0 0] 25)).alloc (.cells #[.int .i64 0, .slice none 0 0] 25)).alloc (.cells (lineCells ls) 9)) from
      ⟨by rw [Below.heap_alloc _ _ _ (by simp; omega), Below.heap_alloc _ _ _ (by simp)]; exact heap_alloc_new w _,
       ⟨.slice none 0 0, by rw [Below.heap_alloc _ _ _ (by simp)]; have := heap_alloc_new (w.alloc (.cells #[.int .i64 0, .slice none 0 0] 25)) (.cells #[.int .i64 0, .slice none 0 0] 25); simpa [capOf] using this, Kd.R_nil _ _ _ _ _⟩,
       by have := heap_alloc_new ((w.alloc (.cells #[.int .i64 0, .slice none 0 0] 25)).alloc (.cells #[.int .i64 0, .slice none 0 0] 25)) (.cells (lineCells ls) 9); simpa using this,
       (((Below.refl _ _).alloc (Nat.le_refl _) _).alloc (by simp) _).alloc (by simp; omega) _, HT.out.symm, Nat.zero_le _, Nat.zero_le _⟩)
    have hEW : Env w.heap.size w := hE.up hE.le (Nat.le_refl _)
    clear hE HT HSP
    go_wp2_with fail
    go_loopw [6, 21] (fun b v wr => ∃ (i : Nat) (st : PSt), b = .bool st.isSome ∧ v = .int .i64 (i : Int) ∧ PR w ls tot i st wr) (fun _ v _ => n - (intOf v).toNat)
    case atStart => exact ⟨0, none, rfl, rfl, HP0.out⟩
    case round =>
      obtain ⟨i, st, rfl, rfl, hR⟩ := hrel
      have hil := hR.le
      by_cases hlt : i < n
      · obtain ⟨x, hx⟩ : ∃ x, ls[i]? = some x := ⟨ls[i]'(by have := HN.out; omega), List.getElem?_eq_getElem _⟩
        have hxc := hR.cell hx
        have hxl := HLE.out x (List.mem_of_getElem? hx)
        obtain ⟨hwl1, hwl2⟩ := word_len x hxl
        have HX := Lib.hid hx
        have HWL := Lib.hid hwl1
        clear hx hwl1
        go_wp2_with fail
        refine (words_any ⟨x.toArray⟩ (by rw [mk_size]; omega) _ (hEW.belowB hR.below)).mono ?_
        rintro e w1 ⟨⟨wv, rfl, hW⟩, hw1⟩
        have hW : Words w1.heap.size w1 wv (wordsOf x) := hW
        have hR1 := hR.later hw1
        have HWV := Lib.hid hW
        obtain ⟨g, c, rfl, hrest⟩ := hW
        obtain ⟨k, hk⟩ : ∃ k, k = (wordsOf x).length := ⟨_, rfl⟩
        rw [← hk] at HWV ⊢
        have HK := Lib.hid hk
        clear hk hrest hxc
        by_cases hk0 : k = 0
        · have hwx : wordsOf x = [] := List.eq_nil_of_length_eq_zero (by rw [← HK.out]; exact hk0)
          have HR2 := Lib.hid (hR1.next HX.out hwx)
          have k2 : ((k : Int) == 0) = true := by rw [beq_iff_eq]; omega
          clear hwx hR1 hR hw1 hk0
          go_wp2_with fail
          go_roundw
          case rel => exact ⟨i + 1, st, rfl, by go_num, HR2.out⟩
          case measure => simp [intOf]; omega
        · have hwx : wordsOf x ≠ [] := fun e => hk0 (by rw [HK.out, e]; rfl)
          have k2 : ((k : Int) == 0) = false := by rw [beq_eq_false_iff_ne]; omega
          have HNE := Lib.hid hwx
          clear hk0 hwx hR
          cases st with
          | none =>
            cases hh : headOf (wordsOf x) with
            | ok nn =>
              have hres : headRes (wordsOf x) = .tuple #[.int .i64 nn, .int .i64 0] := by unfold headRes; rw [hh]
              have HRES := Lib.hid hres
              have HST := Lib.hid (lineStep_head HNE.out hh)
              clear hh hres
              go_wp2_with fail
              refine (first_any (wordsOf x) HNE.out HWL.out _ _ (hEW.belowB hR1.below) HWV.out).mono ?_
              rw [HRES.out]
              rintro e w2 ⟨rfl, hw2⟩
              have hR2 := hR1.later hw2
              have HR3 := Lib.hid (hR2.head HX.out HST.out)
              obtain ⟨v, hs2, _⟩ := hR2.s
              obtain ⟨c0, c1, f0, f1⟩ := script_cells hs2
              clear hs2 hR1 hR2
              go_wp2_with fail
              go_roundw
              case rel => exact ⟨i + 1, some ⟨nn, []⟩, rfl, by go_num, HR3.out⟩
              case measure => simp [intOf]; omega
            | error cc =>
              have hres : headRes (wordsOf x) = .tuple #[.int .i64 0, .int .i64 cc] := by unfold headRes; rw [hh]
              have HRES := Lib.hid hres
              have hcn := headOf_codes hh
              have HST := Lib.hid (lineStep_headE HNE.out hh)
              clear hh hres
              go_wp2_with fail
              refine (first_any (wordsOf x) HNE.out HWL.out _ _ (hEW.belowB hR1.below) HWV.out).mono ?_
              rw [HRES.out]
              rintro e w2 ⟨rfl, hw2⟩
              have hR2 := hR1.later hw2
              have HF := Lib.hid (show parse s.data.toList = (.zero, (i : Int) + 1, cc) from hpar.out.trans (hR2.errors HX.out HST.out))
              obtain ⟨c0, c1, f0, f1⟩ := script_cells hR2.zero
              have hbw := hR2.below
              clear hR1 hR2
              go_wp2_with fail
              exact bodyPost_ret (v := .tuple #[.agg #[.int .i64 0, .slice none 0 0], .int .i64 ((i : Int) + 1), .int .i64 cc]) (by simp [results, Tryz.results7, go_sem, c0, c1]) rfl (ParsePost.error HF.out (two_below hbw (Nat.le_refl _) _ _))
          | some sc =>
            have hfew := hR1.few
            obtain ⟨v, hs1, hv1⟩ := hR1.s
            have hv1 : kOp.R 44 w1 w.heap.size (fun _ => True) v sc.ops := hv1
            obtain ⟨A1, cA, rfl⟩ := Kd.R_slice hv1
            obtain ⟨b0, b1, g0, g1⟩ := script_cells hs1
            by_cases hmany : sc.ops.length = 2000
            · have k3 : ((sc.ops.length : Int) == 2000) = true := by rw [beq_iff_eq]; omega
              have HF := Lib.hid (show parse s.data.toList = (.zero, (i : Int) + 1, 264) from hpar.out.trans (hR1.errors HX.out (lineStep_many HNE.out hmany)))
              obtain ⟨c0, c1, f0, f1⟩ := script_cells hR1.zero
              have hbw := hR1.below
              clear hR1 hs1 hv1 hmany
              go_wp2_with fail
              exact bodyPost_ret (v := .tuple #[.agg #[.int .i64 0, .slice none 0 0], .int .i64 ((i : Int) + 1), .int .i64 264]) (by simp [results, Tryz.results7, go_sem, c0, c1]) rfl (ParsePost.error HF.out (two_below hbw (Nat.le_refl _) _ _))
            · have k3 : ((sc.ops.length : Int) == 2000) = false := by rw [beq_eq_false_iff_ne]; omega
              have hfew : sc.ops.length ≤ 2000 := hfew
              cases hh : stepOf (wordsOf x) with
              | ok o =>
                have HST := Lib.hid (lineStep_step HNE.out hmany hh)
                have hlen4 : sc.ops.length + 1 ≤ 2000 := by omega
                have HH := Lib.hid hh
                clear hh hmany
                go_wp2_with fail
                refine (step_any (wordsOf x) HNE.out HWL.out hwl2 _ _ (hEW.belowB hR1.below) HWV.out (Nat.le_refl _)).mono ?_
                rintro e w2 hS
                obtain ⟨⟨lv, rfl, hown⟩, hw2⟩ := StepPost.of_ok hS HH.out
                have hR2 := hR1.later hw2
                have hv2 := Kd.R_below hv1 hw2
                have hs2 := (hw2.block _ (blk_lt hs1)).trans hs1
                obtain ⟨A2, cB, rfl⟩ := own_slice hown
                obtain ⟨d0, d1, q0, q1⟩ := script_cells hs2
                have hlt2 := Kd.R_lt hv1
                have hlt3 : w.heap.size + 1 < w2.heap.size := blk_lt hs2
                have HRR := Lib.hid hR2
                have hM : kOp.M w2 w.heap.size (fun k => w1.heap.size ≤ k) o [.int .i64 o.kind, .int .i64 o.a, .int .i64 o.b, .string ⟨o.name.toArray⟩, .string ⟨o.text.toArray⟩, .slice A2 o.list.length cB] :=
                  kOp_mkM _ _ _ _ (Kd.R_lower (Kd.R_of_own hown (fun k hk => own_base hown k hk)) (hR1.below.size))
                have HMM := Lib.hid hM
                have HV2 := Lib.hid hv2
                have HS2 := Lib.hid hs2
                have HL2 := Lib.hid hlt2
                have HW2 := Lib.hid hw2
                have hbs := hR2.below
                clear hS hs1 hR1 b0 b1 g0 g1 hM hv2 hs2 hlt2 hR2 hown hv1
                go_wp2_with (at_builtin; go_must (refine Kd.R_append kOp (w0 := w) w.heap.size rfl (.tmp 68) (.tmp 70) 23 44 (.agg zeroOp) 80 rfl Tryz.underlying23 info_op rfl (by decide) (by omega) (.slice A1 sc.ops.length cA) sc.ops o [.int .i64 o.kind, .int .i64 o.a, .int .i64 o.b, .string ⟨o.name.toArray⟩, .string ⟨o.text.toArray⟩, .slice A2 o.list.length cB] (fun _ => True) (fun k => w1.heap.size ≤ k) rfl ?hx ?hp ?hokp (fun _ _ => trivial) ?HO ?HB ?hbase ?hl ?_))
                case hx => show Value.slice (some ⟨w2.heap.size + 1, 0, none⟩) 1 1 = _; simp
                case hp => exact Kd.M_alloc HMM.out _
                case hokp => exact fun k hk => ⟨trivial, fun e => by have := HL2.out k e.symm; omega⟩
                case HO => exact Kd.R_alloc HV2.out _
                case HB => exact hbs.alloc hbs.size _
                case hbase => have := hbs.size; simp; omega
                case hl => omega
                intro v1 w3 hR3 hBw hg hat
                obtain ⟨hPR, hs3⟩ := PR.push HRR.out HS2.out HV2.out HX.out HST.out hlen4 hg hR3 hBw
                have HPR := Lib.hid hPR
                obtain ⟨A3, cC, hvv⟩ := Kd.R_slice hR3
                rw [List.length_append, List.length_singleton] at hvv
                subst hvv
                obtain ⟨d0', d1', q0', q1'⟩ := script_cells hs3
                clear hR3 hBw hg hat hPR hs3 d0 d1 q0 q1
                go_wp2_with fail
                go_roundw
                case rel => exact ⟨i + 1, _, rfl, by go_num, HPR.out⟩
                case measure => simp [intOf]; omega
              | error cc =>
                have hcn := stepOf_codes hh
                have HF := Lib.hid (show parse s.data.toList = (.zero, (i : Int) + 1, cc) from hpar.out.trans (hR1.errors HX.out (lineStep_stepE HNE.out hmany hh)))
                have HH := Lib.hid hh
                clear hh hmany
                go_wp2_with fail
                refine (step_any (wordsOf x) HNE.out HWL.out hwl2 _ _ (hEW.belowB hR1.below) HWV.out (Nat.le_refl _)).mono ?_
                rintro e w2 hS
                obtain ⟨rfl, hw2⟩ := StepPost.of_error hS HH.out
                obtain ⟨c0, c1, f0, f1⟩ := script_cells (hR1.later hw2).zero
                have hbw := (hR1.later hw2).below
                have hsz2 := hw2.size
                have hzlt := blk_lt (hR1.later hw2).zero
                unfold zeroOp
                clear hS hs1 hR1 hv1 b0 b1 g0 g1
                go_wp2_with fail
                exact bodyPost_ret (v := .tuple #[.agg #[.int .i64 0, .slice none 0 0], .int .i64 ((i : Int) + 1), .int .i64 cc]) (by simp [results, Tryz.results7, go_sem, c0, c1, hzlt]) rfl (ParsePost.error HF.out ((two_below hbw (Nat.le_refl _) _ _).alloc (by simp [World.setCell]; omega) _))
      · obtain rfl : i = n := by have := HN.out; omega
        have hfin := hR.res
        rw [List.drop_of_length_le (by have := HN.out; omega)] at hfin
        cases st with
        | none =>
          have HF := Lib.hid (show parse s.data.toList = (PScript.zero, 0, 260) from hpar.out.trans hfin.symm)
          obtain ⟨c0, c1, f0, f1⟩ := script_cells hR.zero
          have hbw := hR.below
          clear hR hfin
          go_wp2_with fail
          exact bodyPost_ret (v := .tuple #[.agg #[.int .i64 0, .slice none 0 0], .int .i64 0, .int .i64 260]) (by simp [results, Tryz.results7, go_sem, c0, c1]) rfl (ParsePost.error HF.out (two_below hbw (Nat.le_refl _) _ _))
        | some sc =>
          have HF := Lib.hid (show parse s.data.toList = (sc, 0, 0) from hpar.out.trans hfin.symm)
          obtain ⟨c0, c1, f0, f1⟩ := script_cells hR.zero
          have hbw := hR.below
          have hz := hR.zero
          obtain ⟨v, hs1, hv1⟩ := hR.s
          have hv1 : kOp.R 44 wr w.heap.size (fun _ => True) v sc.ops := hv1
          have hs1 : wr.heap[w.heap.size + 1]? = some (.cells #[.int .i64 sc.cap, v] 25 (0, 0)) := hs1
          obtain ⟨A1, cA, rfl⟩ := Kd.R_slice hv1
          obtain ⟨b0, b1, g0, g1⟩ := script_cells hs1
          have HV := Lib.hid (show ∀ u0 u1 : Value, kOp.R 44 ((wr.setCell ⟨w.heap.size, 0, none⟩ u0).setCell ⟨w.heap.size, 1, none⟩ u1) w.heap.size (fun _ => True) (.slice A1 sc.ops.length cA) sc.ops from
            fun u0 u1 => Kd.R_set (Kd.R_set hv1 hz (kOp_types _ (by decide) (by decide)) 0 u0) (blk_set hz 0 u0) (kOp_types _ (by decide) (by decide)) 1 u1)
          clear hR hfin hv1 hs1 hz
          go_wp2_with fail
          exact bodyPost_ret (v := .tuple #[.agg #[.int .i64 sc.cap, .slice A1 sc.ops.length cA], .int .i64 0, .int .i64 0]) (by simp [results, Tryz.results7, go_sem, c0, c1]) rfl (ParsePost.mk' HF.out (HV.out _ _) (two_below hbw (Nat.le_refl _) _ _))
end Go.Proofs.YtbpackopicngmaaGreatDoor
