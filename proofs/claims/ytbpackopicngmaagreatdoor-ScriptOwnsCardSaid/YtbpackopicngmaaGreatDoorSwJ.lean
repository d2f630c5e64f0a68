/- Walks, part J: a step's words. -/
import Derived.Test.YtbpackopicngmaaGreatDoorSwI
namespace Go.Proofs.YtbpackopicngmaaGreatDoor
open Go.RowKit Go.Proofs.Sc Go.Proofs.YtbpackopicngmaaGreatDoorW.PrintWords

def kStr : Kd By := Kd.scalar (fun l : By => Value.string ⟨l.toArray⟩) (fun _ => rfl)

theorem fields_mem_fin : ∀ i : Fin 19, ∀ c ∈ kindFields.getD i.val [], c = 78 ∨ c = 84 ∨ c = 65 ∨ c = 66 ∨ c = 76 := by decide +kernel
theorem fields_mem {k : Int} (hk : Sc.kindOk k) : ∀ c ∈ fieldsOf k, c = 78 ∨ c = 84 ∨ c = 65 ∨ c = 66 ∨ c = 76 := by
  unfold Sc.kindOk at hk
  exact fields_mem_fin ⟨(k - 1).toNat, by omega⟩

def LinePost (o : POp) (w : World) (e : Ending) (w' : World) : Prop :=
  (if faultOf o ≠ 0 then e = .returned (.tuple #[.slice none 0 0, .int .i64 (faultOf o)])
   else ∃ v, e = .returned (.tuple #[v, .int .i64 0]) ∧ kStr.R 9 w' w.heap.size (fun _ => True) v (piecesOf o)) ∧ Below w.heap.size w w'

theorem LinePost.error {o : POp} {w w' : World} {c : Int} (h : faultOf o = c) (hc : c ≠ 0) (hb : Below w.heap.size w w') : LinePost o w (.returned (.tuple #[.slice none 0 0, .int .i64 c])) w' := by
  subst h; unfold LinePost; rw [if_pos hc]; exact ⟨rfl, hb⟩
theorem LinePost.ok {o : POp} {w w' : World} {v : Value} (h : faultOf o = 0) (hv : kStr.R 9 w' w.heap.size (fun _ => True) v (piecesOf o)) (hb : Below w.heap.size w w') : LinePost o w (.returned (.tuple #[v, .int .i64 0])) w' := by
  unfold LinePost; rw [if_neg (by rw [h]; simp)]; exact ⟨⟨v, rfl, hv⟩, hb⟩

theorem spare_eq (o : POp) (n : Nat) (hn : n = o.list.length) : anyOff [!o.name.isEmpty, !o.text.isEmpty, o.a != 0, o.b != 0, decide (0 < n)] ntabl (fieldsOf o.kind) = Sc.spare o := by
  have : decide (0 < n) = !o.list.isEmpty := by
    rw [hn]; cases o.list <;> simp
  rw [this]
  simp [anyOff, ntabl, Sc.spare, Bool.or_assoc]

/-- The step's cells, as it is handed in. -/
def opCells (o : POp) (A : Option Addr) (n c : Nat) : Array Value := #[.int .i64 o.kind, .int .i64 o.a, .int .i64 o.b, .string ⟨o.name.toArray⟩, .string ⟨o.text.toArray⟩, .slice A n c]

/-- The memory while a step's words are gathered. -/
structure LM (w : World) (o : POp) (A : Option Addr) (n c it : Nat) (fs : By) (p : Nat) (v : Value) (ws : List By) (wr : World) : Prop where
  box : wr.heap[w.heap.size]? = some (.cells (opCells o A n c) 44 (0, 0))
  iter : wr.heap[it]? = some (.stringIter ⟨fs.toArray⟩ p)
  words : kStr.R 9 wr w.heap.size (fun _ => True) v ws
  below : Below w.heap.size w wr

section
variable {w : World} {o : POp} {A : Option Addr} {n c it : Nat} {fs : By} {p : Nat} {v : Value} {ws : List By} {wr : World}

theorem LM.later {w1 : World} (h : LM w o A n c it fs p v ws wr) (hb : Below wr.heap.size wr w1) : LM w o A n c it fs p v ws w1 :=
  ⟨(hb.block _ (blk_lt h.box)).trans h.box, (hb.block _ (blk_lt h.iter)).trans h.iter, Kd.R_below h.words hb, h.below.trans (hb.mono h.below.size)⟩

theorem LM.next (h : LM w o A n c it fs p v ws wr) (hit : w.heap.size ≤ it) (p' : Nat) : LM w o A n c it fs p' v ws (wr.iterAt it ⟨fs.toArray⟩ p') := by
  have hne : w.heap.size ≠ it := by
    intro e; have h1 := h.box; have h2 := h.iter; rw [← e, h1] at h2; cases h2
  refine ⟨(Lib.iterAt_other _ _ _ _ _ hne).trans h.box, Lib.iterAt_heap _ _ _ _ _ h.iter, ?_, Lib.below_iterAt h.below hit _ _⟩
  refine Kd.R_mono (Kd.R_move (Kd.R_bound h.words) (fun k hk => Lib.iterAt_other _ _ _ _ _ ?_)) (fun _ _ => trivial)
  rintro rfl
  obtain ⟨_, _, _, q, _, cells, hc⟩ := hk
  have h2 := h.iter; rw [hc] at h2; cases h2

theorem LM.push (h : LM w o A n c it fs p v ws wr) {w1 : World} {v1 : Value} {x : By} (hR : kStr.R 9 w1 w.heap.size (fun _ => True) v1 (ws ++ [x])) (hB : Below w.heap.size w w1) (hg : wr.grownBy w1 v.ownBlock) : LM w o A n c it fs p v1 (ws ++ [x]) w1 := by
  refine ⟨blk_grown h.box hg (Kd.R_ne h.words h.box (by decide)), blk_grown h.iter hg ?_, hR, hB⟩
  intro e
  obtain ⟨cells, hc⟩ := Kd.R_typed h.words it e.symm
  have h2 := h.iter; rw [hc] at h2; cases h2

theorem LM.cells (h : LM w o A n c it fs p v ws wr) : wr.cell? ⟨w.heap.size, 0, none⟩ = some (.int .i64 o.kind) ∧ wr.cell? ⟨w.heap.size, 1, none⟩ = some (.int .i64 o.a) ∧ wr.cell? ⟨w.heap.size, 2, none⟩ = some (.int .i64 o.b) ∧ wr.cell? ⟨w.heap.size, 3, none⟩ = some (.string ⟨o.name.toArray⟩) ∧ wr.cell? ⟨w.heap.size, 4, none⟩ = some (.string ⟨o.text.toArray⟩) ∧ wr.cell? ⟨w.heap.size, 5, none⟩ = some (.slice A n c) := op_cells h.box
end

theorem kStr_M (w : World) (base : Nat) (ok : Nat → Prop) (x : By) : kStr.M w base ok x [.string ⟨x.toArray⟩] := rfl

theorem pieces_len (o : POp) (h : (fieldsOf o.kind).length ≤ 4) : (piecesOf o).length ≤ 5 + 4 * o.list.length := by
  have hf : ∀ f, (fieldWords o f).length ≤ 1 + o.list.length := fun f => by
    unfold fieldWords; repeat' split
    all_goals simp
    all_goals omega
  have : ∀ fs : By, (fs.flatMap (fieldWords o)).length ≤ fs.length * (1 + o.list.length) := by
    intro fs
    induction fs with
    | nil => simp
    | cons f fs ih => simp only [List.flatMap_cons, List.length_append, List.length_cons, Nat.add_mul]; have := hf f; omega
  have h1 := this (fieldsOf o.kind)
  have h2 : (fieldsOf o.kind).length * (1 + o.list.length) ≤ 4 * (1 + o.list.length) := Nat.mul_le_mul_right _ h
  unfold piecesOf; simp only [List.length_cons]; omega

set_option maxHeartbeats 8000000 in
set_option maxRecDepth 100000 in
theorem line_any (o : POp) (A : Option Addr) (n c : Nat) (w : World) {B : Nat} (hE : Env B w) (hk0 : -9223372036854775808 ≤ o.kind) (hk1 : o.kind ≤ 9223372036854775807) (hnm : o.name.length ≤ 33554432) (htx : o.text.length ≤ 33554432) (hn : n = o.list.length) (hln : n ≤ 33554432) (hC : (Kd.int .i64).C w A n o.list) :
    Calls Tryz.prog 35 #[.agg #[.int .i64 o.kind, .int .i64 o.a, .int .i64 o.b, .string ⟨o.name.toArray⟩, .string ⟨o.text.toArray⟩, .slice A n c]] w (LinePost o w) := by
  have hEW : Env w.heap.size w := hE.up hE.le (Nat.le_refl _)
  clear hE
  have h0w : 0 < w.heap.size := by
    obtain ⟨m, hm⟩ := hEW.lenCell
    have := World.block_lt_of_cell? w _ hm
    omega
  have hb1 : Below w.heap.size w (w.alloc (.cells #[.int .i64 o.kind, .int .i64 o.a, .int .i64 o.b, .string ⟨o.name.toArray⟩, .string ⟨o.text.toArray⟩, .slice A n c] 44)) := (Below.refl _ _).alloc (Nat.le_refl _) _
  by_cases hkk : Sc.kindOk o.kind
  · have hwe : (wordOf o.kind).isEmpty = false := by rw [List.isEmpty_eq_false_iff]; exact wordOf_ne hkk
    obtain ⟨_, hfc⟩ := hEW.word o.kind hkk
    obtain ⟨_, _, _, _, hf4⟩ := fields_suffix hkk
    have hmem := fields_mem hkk
    have hasc : ∀ c ∈ fieldsOf o.kind, c.toNat < 128 := fun c hc => by rcases hmem c hc with rfl | rfl | rfl | rfl | rfl <;> decide
    have hk1' := hkk.1
    have hk2' := hkk.2
    have HPL := Lib.hid (pieces_len o hf4)
    have HSP := Lib.hid (spare_eq o n hn)
    have HKK := Lib.hid hkk
    have HRD0 : ReadsInt w .i64 A n o.list := Kd.reads_of_C (d := (0 : Int)) hC
    have HRD := Lib.hid HRD0
    have HN := Lib.hid hn
    have HWE := Lib.hid hwe
    have hnl : n ≤ 9223372036854775807 := by omega
    obtain ⟨F, hF⟩ : ∃ F, F = fieldsOf o.kind := ⟨_, rfl⟩
    rw [← hF] at hmem hasc hfc HSP
    have HMEM := Lib.hid hmem
    have HFF := Lib.hid hF
    clear hn hkk hC HRD0 hf4 hmem hF
    go_enter Tryz.func35, Tryz.ntmps35
    go_wp2_with fail
    refine (Word_any o.kind _ (hEW.belowB hb1) hk0 hk1).mono ?_
    rintro e w1 ⟨rfl, rfl⟩
    go_wp2_with fail
    refine (spare_walk o.kind o.a o.b o.name o.text A n c F hasc _).mono ?_
    rw [HSP.out]
    rintro e w1 ⟨rfl, hw1⟩
    have hbx : w1.heap[w.heap.size]? = some (.cells (opCells o A n c) 44 (0, 0)) := (hw1.block _ (by simp)).trans (heap_alloc_new w _)
    have hbw1 : Below w.heap.size w w1 := hb1.trans (hw1.mono hb1.size)
    clear hw1
    cases hsp : Sc.spare o with
    | true =>
      have HF := Lib.hid (show faultOf o = 271 by unfold faultOf; rw [if_neg (not_not_intro HKK.out), if_pos hsp])
      clear hsp
      go_wp2_with fail
      go_ret2
      exact LinePost.error HF.out (by decide) hbw1
    | false =>
    have HF1 := Lib.hid (show faultOf o = if ¬ numsOk o then 262 else 0 by unfold faultOf; rw [if_neg (not_not_intro HKK.out), if_neg (by rw [hsp]; decide)])
    clear hsp HSP hb1
    have hlw1 : w.heap.size < w1.heap.size := blk_lt hbx
    obtain ⟨b0, b1, b2, b3, b4, b5⟩ := op_cells hbx
    go_wp2_with (at_builtin; go_must (refine print_append_row (w0 := w) w.heap.size rfl (.tmp 29) (.tmp 31) 42 3 .i64 8 rfl Tryz.underlying42 info_int (by decide) (.slice (some ⟨w1.heap.size, 0, none⟩) 2 2) [o.a, o.b] o.list A n c ?hs rfl ?HO ?HR ?HB ?hbase ?hl ?_))
    case hs => rfl
    case HO => exact own_lit w1 w.heap.size 3 .i64 [o.a, o.b] hbw1.size (by simp)
    case HR => exact HRD.out.below (hbw1.alloc hbw1.size _)
    case HB => exact hbw1.alloc hbw1.size _
    case hbase => have := hbw1.size; simp; omega
    case hl => simp; omega
    intro v1 w2 hown1 hbw2 hg hat
    have hbx2 : w2.heap[w.heap.size]? = some (.cells (opCells o A n c) 44 (0, 0)) :=
      blk_grown ((Below.heap_alloc w1 _ _ (blk_lt hbx)).trans hbx) hg (by have := blk_lt hbx; simp [Value.ownBlock]; omega)
    obtain ⟨xs, hxs⟩ : ∃ xs, xs = o.a :: o.b :: o.list := ⟨_, rfl⟩
    replace hown1 : w2.ownsRow w.heap.size 3 1 v1 xs.length (nums .i64 xs) := by rw [hxs]; exact hown1
    have hxl : xs.length = n + 2 := by rw [hxs]; simp; exact HN.out.symm
    obtain ⟨g1, c1, rfl, _, _⟩ := hown1.form (by omega)
    have hcs : ∀ (p : Nat) x, xs[p]? = some x → w2.cell? ⟨g1, p, none⟩ = some (.int .i64 x) := fun p x hx => by
      have := hown1.cells (g := g1) rfl p (.int .i64 x) (by simp [nums, hx])
      rwa [add_plain] at this
    have HCS := Lib.hid hcs
    have HXS := Lib.hid hxs
    have hmx : xs.length ≤ 9223372036854775807 := by omega
    clear hxl
    clear hown1 hg hat hcs hxs b0 b1 b2 b3 b4 b5 hbx hbw1
    obtain ⟨b0, b1, b2, b3, b4, b5⟩ := op_cells hbx2
    go_wp2_with fail
    go_loopw [34] (fun v wr => ∃ p : Nat, w2 = wr ∧ p ≤ xs.length ∧ v = .int .i64 (p : Int) ∧ Hid (∀ x ∈ xs.take p, Sc.bounded x)) (fun v _ => xs.length - (intOf v).toNat)
    case atStart => exact ⟨0, rfl, Nat.zero_le _, rfl, by intro x hx; simp at hx⟩
    case round =>
    obtain ⟨p, rfl, hp, rfl, hall⟩ := hrel
    by_cases hlt : p < xs.length
    · obtain ⟨x, hx⟩ : ∃ x, xs[p]? = some x := ⟨xs[p], List.getElem?_eq_getElem hlt⟩
      have hxc := HCS.out p x hx
      have HX := Lib.hid hx
      clear hx
      by_cases hbd : Sc.bounded x
      · have HB := Lib.hid (show decide (Sc.bounded x) = true from decide_eq_true hbd)
        have HA2 : Hid (∀ y ∈ xs.take (p + 1), Sc.bounded y) := Lib.hid (by
          intro y hy
          rw [List.take_add_one, HX.out] at hy
          rcases List.mem_append.1 hy with hy | hy
          · exact hall.out y hy
          · simp at hy; rw [hy]; exact hbd)
        clear hbd
        go_wp2_with fail
        refine (bounded_any x _).mono ?_
        rw [HB.out]
        rintro e w3 ⟨rfl, rfl⟩
        go_wp2_with fail
        go_roundw
        case rel => exact ⟨p + 1, trivial, hlt, by go_num, HA2⟩
        case measure => simp [intOf]; omega
      · have HB := Lib.hid (show decide (Sc.bounded x) = false from decide_eq_false hbd)
        have HF := Lib.hid (show faultOf o = 262 by
          rw [HF1.out, if_pos]
          intro h
          have hm := List.mem_of_getElem? HX.out
          rw [HXS.out] at hm
          simp at hm
          rcases hm with rfl | rfl | hm
          · exact hbd h.1
          · exact hbd h.2.1
          · exact hbd (h.2.2 x hm))
        clear hbd
        go_wp2_with fail
        refine (bounded_any x _).mono ?_
        rw [HB.out]
        rintro e w3 ⟨rfl, rfl⟩
        go_wp2_with fail
        go_ret2
        exact LinePost.error HF.out (by decide) hbw2
    · have hnum : numsOk o := by
        have : ∀ x ∈ xs, Sc.bounded x := by
          have h := hall.out
          rwa [List.take_of_length_le (by omega)] at h
        rw [HXS.out] at this
        exact ⟨this _ (by simp), this _ (by simp), fun y hy => this y (by simp [hy])⟩
      have HF := Lib.hid (show faultOf o = 0 by rw [HF1.out, if_neg (not_not_intro hnum)])
      have HNUM := Lib.hid hnum
      have ha0 := hnum.1.1
      have ha1 := hnum.1.2
      have hbb0 := hnum.2.1.1
      have hbb1 := hnum.2.1.2
      clear hnum hall HF1 HCS HXS
      have HA := Lib.hid (And.intro ha0 (And.intro ha1 (And.intro hbb0 hbb1)))
      clear ha0 ha1 hbb0 hbb1
      go_wp2_with fail
      refine (Word_any o.kind _ (hEW.belowB hbw2) hk0 hk1).mono ?_
      rintro e w3 ⟨rfl, rfl⟩
      have HS0 : Hid (LM w o A n c (w2.heap.size + 1) F 0 (.slice (some ⟨w2.heap.size, 0, none⟩) 1 1) [wordOf o.kind] ((w2.alloc (.cells #[.string ⟨(wordOf o.kind).toArray⟩] 9)).iter ⟨F.toArray⟩ 0)) := Lib.hid (by
        have h1 := (Kd.R_of_own (h1 := fun _ => rfl) (ok := fun _ => True) (own_lit_of (enc := fun l : By => Value.string ⟨l.toArray⟩) w2 w.heap.size 9 [wordOf o.kind] hbw2.size (by simp)) (fun _ _ => trivial) : kStr.R 9 (w2.alloc (.cells #[.string ⟨(wordOf o.kind).toArray⟩] 9)) w.heap.size (fun _ => True) (.slice (some ⟨w2.heap.size, 0, none⟩) 1 1) [wordOf o.kind])
        have h2 := hbw2.alloc hbw2.size (.cells #[.string ⟨(wordOf o.kind).toArray⟩] 9)
        unfold World.iter
        refine ⟨?_, ?_, Kd.R_alloc h1 _, h2.alloc h2.size _⟩
        · have := blk_lt hbx2
          rw [Below.heap_alloc _ _ _ (by simp; omega), Below.heap_alloc _ _ _ this]; exact hbx2
        · have := heap_alloc_new (w2.alloc (.cells #[.string ⟨(wordOf o.kind).toArray⟩] 9)) (.stringIter ⟨F.toArray⟩ 0)
          simpa using this)
      have HC0 := Lib.hid (show [wordOf o.kind] ++ (F.drop 0).flatMap (fieldWords o) = piecesOf o by rw [HFF.out]; rfl)
      obtain ⟨it, hit⟩ : ∃ it, it = w2.heap.size + 1 := ⟨_, rfl⟩
      have hitw : w.heap.size ≤ it := by have := hbw2.size; omega
      clear hasc b0 b1 b2 b3 b4 b5 hlt hp
      rw [← hit] at HS0
      have HIT := Lib.hid hit
      clear hit
      go_wp2_with fail
      rw [← HIT.out]
      go_loopw [7] (fun v wr => ∃ (p : Nat) (A1 : Option Addr) (c1 : Nat) (ws : List By), v = .slice A1 ws.length c1 ∧ p ≤ F.length ∧ LM w o A n c it F p (.slice A1 ws.length c1) ws wr ∧ Hid (ws ++ (F.drop p).flatMap (fieldWords o) = piecesOf o)) (fun _ wr => F.length - wr.iterPos it)
      case atStart => exact ⟨0, _, _, _, rfl, Nat.zero_le _, HS0.out, HC0⟩
      case round =>
      clear HS0 HC0
      obtain ⟨p, A1, c1, ws, rfl, hp, hLM, hcon⟩ := hrel
      have hwl : ws.length ≤ 5 + 4 * n := by
        have h1 := HPL.out
        rw [← hcon.out, List.length_append] at h1
        have := HN.out; omega
      by_cases hlt : p < F.length
      · obtain ⟨f, hf⟩ : ∃ f, F[p]? = some f := ⟨F[p], List.getElem?_eq_getElem hlt⟩
        have hff := HMEM.out f (List.mem_of_getElem? hf)
        have hlt0 : p < (⟨F.toArray⟩ : ByteArray).size := by rw [mk_size]; exact hlt
        have hpf : (⟨F.toArray⟩ : ByteArray)[p]'hlt0 = f := list_at _ p f hf hlt0
        have hnx := fun ty => Lib.run_next_ascii_at (P := Tryz.prog) wr it ⟨F.toArray⟩ p ty hLM.iter hlt0 (by rw [hpf]; rcases hff with rfl | rfl | rfl | rfl | rfl <;> decide)
        rw [hpf] at hnx
        have hLn := hLM.next hitw (p + 1)
        have hm1 := hLM.iter
        have hdp : F.drop p = f :: F.drop (p + 1) := Lib.drop_at hf
        obtain ⟨b0, b1, b2, b3, b4, b5⟩ := hLn.cells
        have HEN := Lib.hid (hEW.belowB hLn.below)
        clear hLM
        rcases hff with rfl | rfl | rfl | rfl | rfl
        · have HX := Lib.hid (show ws ++ [escape o.name] ++ (F.drop (p + 1)).flatMap (fieldWords o) = piecesOf o by rw [← hcon.out, hdp]; simp [fieldWords])
          clear hcon hdp hf hpf hlt0
          go_wp2_with fail
          refine (escape_any ⟨o.name.toArray⟩ _ (by rw [mk_size]; exact hnm)).mono ?_
          rintro e w3 ⟨rfl, hw3⟩
          have HL3 := Lib.hid (hLn.later hw3)
          clear hLn hw3
          go_wp2_with (at_builtin; go_must (refine Kd.R_append kStr (w0 := w) w.heap.size rfl (.tmp 54) (.tmp 58) 70 9 (.string ⟨#[]⟩) 16 rfl Tryz.underlying70 info_string rfl (by decide) (by decide) (.slice A1 ws.length c1) ws (escape o.name) [.string ⟨(escape o.name).toArray⟩] (fun _ => True) (fun _ => False) rfl ?hx ?hp ?hokp (fun _ _ => trivial) ?HO ?HB ?hbase ?hl ?_))
          case hx => show Value.slice (some ⟨w3.heap.size, 0, none⟩) 1 1 = _; rfl
          case hp => exact rfl
          case hokp => exact fun k hk => hk.elim
          case HO => exact HL3.out.words
          case HB => exact HL3.out.below
          case hbase => exact HL3.out.below.size
          case hl => have := HN.out; omega
          intro v1 w4 hR4 hBw hg hat
          have HPR := Lib.hid (HL3.out.push hR4 hBw hg)
          obtain ⟨A3, c3, hvv⟩ := Kd.R_slice hR4
          rw [List.length_append, List.length_singleton] at hvv
          subst hvv
          clear hR4 hBw hg hat
          go_wp2_with fail
          go_roundw
          case rel =>
            refine ⟨p + 1, A3, c3, _, ?_, hlt, ?_, HX⟩
            · rw [List.length_append, List.length_singleton]
            · rw [List.length_append, List.length_singleton]; exact HPR.out
          case measure =>
            have h1 := iterPos_of hm1
            have h2 := iterPos_of HPR.out.iter
            show F.length - w4.iterPos it < F.length - wr.iterPos it
            omega
        · have HX := Lib.hid (show ws ++ [escape o.text] ++ (F.drop (p + 1)).flatMap (fieldWords o) = piecesOf o by rw [← hcon.out, hdp]; simp [fieldWords])
          clear hcon hdp hf hpf hlt0
          go_wp2_with fail
          refine (escape_any ⟨o.text.toArray⟩ _ (by rw [mk_size]; exact htx)).mono ?_
          rintro e w3 ⟨rfl, hw3⟩
          have HL3 := Lib.hid (hLn.later hw3)
          clear hLn hw3
          go_wp2_with (at_builtin; go_must (refine Kd.R_append kStr (w0 := w) w.heap.size rfl (.tmp 62) (.tmp 66) 70 9 (.string ⟨#[]⟩) 16 rfl Tryz.underlying70 info_string rfl (by decide) (by decide) (.slice A1 ws.length c1) ws (escape o.text) [.string ⟨(escape o.text).toArray⟩] (fun _ => True) (fun _ => False) rfl ?hx ?hp ?hokp (fun _ _ => trivial) ?HO ?HB ?hbase ?hl ?_))
          case hx => show Value.slice (some ⟨w3.heap.size, 0, none⟩) 1 1 = _; rfl
          case hp => exact rfl
          case hokp => exact fun k hk => hk.elim
          case HO => exact HL3.out.words
          case HB => exact HL3.out.below
          case hbase => exact HL3.out.below.size
          case hl => have := HN.out; omega
          intro v1 w4 hR4 hBw hg hat
          have HPR := Lib.hid (HL3.out.push hR4 hBw hg)
          obtain ⟨A3, c3, hvv⟩ := Kd.R_slice hR4
          rw [List.length_append, List.length_singleton] at hvv
          subst hvv
          clear hR4 hBw hg hat
          go_wp2_with fail
          go_roundw
          case rel =>
            refine ⟨p + 1, A3, c3, _, ?_, hlt, ?_, HX⟩
            · rw [List.length_append, List.length_singleton]
            · rw [List.length_append, List.length_singleton]; exact HPR.out
          case measure =>
            have h1 := iterPos_of hm1
            have h2 := iterPos_of HPR.out.iter
            show F.length - w4.iterPos it < F.length - wr.iterPos it
            omega
        · have HX := Lib.hid (show ws ++ [Lib.itoa o.a] ++ (F.drop (p + 1)).flatMap (fieldWords o) = piecesOf o by rw [← hcon.out, hdp]; simp [fieldWords])
          clear hcon hdp hf hpf hlt0
          go_wp2_with fail
          refine (itoa_any o.a (by have := HA.out; omega) (by have := HA.out; omega) _ HEN.out).mono ?_
          rintro e w3 ⟨rfl, hw3⟩
          have HL3 := Lib.hid (hLn.later hw3)
          clear hLn hw3
          go_wp2_with (at_builtin; go_must (refine Kd.R_append kStr (w0 := w) w.heap.size rfl (.tmp 70) (.tmp 74) 70 9 (.string ⟨#[]⟩) 16 rfl Tryz.underlying70 info_string rfl (by decide) (by decide) (.slice A1 ws.length c1) ws (Lib.itoa o.a) [.string ⟨(Lib.itoa o.a).toArray⟩] (fun _ => True) (fun _ => False) rfl ?hx ?hp ?hokp (fun _ _ => trivial) ?HO ?HB ?hbase ?hl ?_))
          case hx => show Value.slice (some ⟨w3.heap.size, 0, none⟩) 1 1 = _; rfl
          case hp => exact rfl
          case hokp => exact fun k hk => hk.elim
          case HO => exact HL3.out.words
          case HB => exact HL3.out.below
          case hbase => exact HL3.out.below.size
          case hl => have := HN.out; omega
          intro v1 w4 hR4 hBw hg hat
          have HPR := Lib.hid (HL3.out.push hR4 hBw hg)
          obtain ⟨A3, c3, hvv⟩ := Kd.R_slice hR4
          rw [List.length_append, List.length_singleton] at hvv
          subst hvv
          clear hR4 hBw hg hat
          go_wp2_with fail
          go_roundw
          case rel =>
            refine ⟨p + 1, A3, c3, _, ?_, hlt, ?_, HX⟩
            · rw [List.length_append, List.length_singleton]
            · rw [List.length_append, List.length_singleton]; exact HPR.out
          case measure =>
            have h1 := iterPos_of hm1
            have h2 := iterPos_of HPR.out.iter
            show F.length - w4.iterPos it < F.length - wr.iterPos it
            omega
        · have HX := Lib.hid (show ws ++ [Lib.itoa o.b] ++ (F.drop (p + 1)).flatMap (fieldWords o) = piecesOf o by rw [← hcon.out, hdp]; simp [fieldWords])
          clear hcon hdp hf hpf hlt0
          go_wp2_with fail
          refine (itoa_any o.b (by have := HA.out; omega) (by have := HA.out; omega) _ HEN.out).mono ?_
          rintro e w3 ⟨rfl, hw3⟩
          have HL3 := Lib.hid (hLn.later hw3)
          clear hLn hw3
          go_wp2_with (at_builtin; go_must (refine Kd.R_append kStr (w0 := w) w.heap.size rfl (.tmp 78) (.tmp 82) 70 9 (.string ⟨#[]⟩) 16 rfl Tryz.underlying70 info_string rfl (by decide) (by decide) (.slice A1 ws.length c1) ws (Lib.itoa o.b) [.string ⟨(Lib.itoa o.b).toArray⟩] (fun _ => True) (fun _ => False) rfl ?hx ?hp ?hokp (fun _ _ => trivial) ?HO ?HB ?hbase ?hl ?_))
          case hx => show Value.slice (some ⟨w3.heap.size, 0, none⟩) 1 1 = _; rfl
          case hp => exact rfl
          case hokp => exact fun k hk => hk.elim
          case HO => exact HL3.out.words
          case HB => exact HL3.out.below
          case hbase => exact HL3.out.below.size
          case hl => have := HN.out; omega
          intro v1 w4 hR4 hBw hg hat
          have HPR := Lib.hid (HL3.out.push hR4 hBw hg)
          obtain ⟨A3, c3, hvv⟩ := Kd.R_slice hR4
          rw [List.length_append, List.length_singleton] at hvv
          subst hvv
          clear hR4 hBw hg hat
          go_wp2_with fail
          go_roundw
          case rel =>
            refine ⟨p + 1, A3, c3, _, ?_, hlt, ?_, HX⟩
            · rw [List.length_append, List.length_singleton]
            · rw [List.length_append, List.length_singleton]; exact HPR.out
          case measure =>
            have h1 := iterPos_of hm1
            have h2 := iterPos_of HPR.out.iter
            show F.length - w4.iterPos it < F.length - wr.iterPos it
            omega
        · have HX := Lib.hid (show ws ++ o.list.map Lib.itoa ++ (F.drop (p + 1)).flatMap (fieldWords o) = piecesOf o by rw [← hcon.out, hdp]; simp [fieldWords])
          have HL := Lib.hid hLn
          obtain ⟨ws0, hws0⟩ : ∃ ws0, ws0 = ws := ⟨_, rfl⟩
          have HC0 := Lib.hid (show ws = ws0 ++ (o.list.take 0).map Lib.itoa by rw [hws0]; simp)
          rw [← hws0] at HX
          clear hcon hdp hf hpf hlt0 hLn hws0
          go_wp2_with fail
          go_loopw [89, 7] (fun i v wr => ∃ (q : Nat) (A1 : Option Addr) (c1 : Nat) (ws : List By), i = .int .i64 (q : Int) ∧ v = .slice A1 ws.length c1 ∧ q ≤ n ∧ LM w o A n c it F (p + 1) (.slice A1 ws.length c1) ws wr ∧ Hid (ws = ws0 ++ (o.list.take q).map Lib.itoa)) (fun i _ _ => n - (intOf i).toNat)
          case atStart => exact ⟨0, _, _, _, rfl, rfl, Nat.zero_le _, HL.out, HC0⟩
          case round =>
          clear HL HC0 hwl
          clear b0 b1 b2 b3 b4 b5 hnx
          clear A1 c1 ws
          obtain ⟨q, A1, c1, ws, rfl, rfl, hq, hLM, hws⟩ := hrel
          have hwl : ws.length ≤ 5 + 4 * n := by
            have h1 := HPL.out
            rw [← HX.out, List.length_append, List.length_append, List.length_map] at h1
            rw [hws.out, List.length_append, List.length_map, List.length_take]
            have := HN.out; omega
          by_cases hql : q < n
          · obtain ⟨x, hx⟩ : ∃ x, o.list[q]? = some x := ⟨o.list[q]'(by have := HN.out; omega), List.getElem?_eq_getElem _⟩
            obtain ⟨ad, hAd, hcell⟩ := (HRD.out.below (hLM.below)).at_ (q : Int) (by omega) (by omega)
            rw [Int.toNat_natCast] at hcell
            have hxr : rd o.list (q : Int) = x := by simp [rd, hx]
            rw [hxr] at hcell
            have HBD := Lib.hid (HNUM.out.2.2 x (List.mem_of_getElem? hx))
            have HW := Lib.hid (show ws ++ [Lib.itoa x] = ws0 ++ (o.list.take (q + 1)).map Lib.itoa by rw [hws.out, List.take_add_one, hx]; simp)
            have HEN2 := Lib.hid (hEW.belowB hLM.below)
            have HLMM := Lib.hid hLM
            clear hx hxr hws hLM
            subst hAd
            go_wp2_with fail
            refine (itoa_any x (by have := HBD.out; unfold Sc.bounded at this; omega) (by have := HBD.out; unfold Sc.bounded at this; omega) _ HEN2.out).mono ?_
            rintro e w3 ⟨rfl, hw3⟩
            have HL3 := Lib.hid (HLMM.out.later hw3)
            clear hw3
            go_wp2_with (at_builtin; go_must (refine Kd.R_append kStr (w0 := w) w.heap.size rfl (.tmp 93) (.tmp 96) 70 9 (.string ⟨#[]⟩) 16 rfl Tryz.underlying70 info_string rfl (by decide) (by decide) (.slice A1 ws.length c1) ws (Lib.itoa x) [.string ⟨(Lib.itoa x).toArray⟩] (fun _ => True) (fun _ => False) rfl ?hx ?hp ?hokp (fun _ _ => trivial) ?HO ?HB ?hbase ?hl ?_))
            case hx => show Value.slice (some ⟨w3.heap.size, 0, none⟩) 1 1 = _; rfl
            case hp => exact rfl
            case hokp => exact fun k hk => hk.elim
            case HO => exact HL3.out.words
            case HB => exact HL3.out.below
            case hbase => exact HL3.out.below.size
            case hl => have := HN.out; omega
            intro v1 w4 hR4 hBw hg hat
            have HPR := Lib.hid (HL3.out.push hR4 hBw hg)
            obtain ⟨A3, c3, hvv⟩ := Kd.R_slice hR4
            rw [List.length_append, List.length_singleton] at hvv
            subst hvv
            clear hR4 hBw hg hat
            go_wp2_with fail
            go_roundw
            case rel =>
              refine ⟨q + 1, A3, c3, _, by go_num, ?_, hql, ?_, HW⟩
              · rw [List.length_append, List.length_singleton]
              · rw [List.length_append, List.length_singleton]; exact HPR.out
            case measure => simp [intOf]; omega
          · have HPR := Lib.hid hLM
            have HX2 := Lib.hid (show ws ++ (F.drop (p + 1)).flatMap (fieldWords o) = piecesOf o by
              rw [← HX.out, hws.out, List.take_of_length_le (by have := HN.out; omega)])
            clear hws hLM
            go_wp2_with fail
            go_roundw
            case rel => exact ⟨p + 1, A1, c1, _, rfl, hlt, HPR.out, HX2⟩
            case measure =>
              have h1 := iterPos_of hm1
              have h2 := iterPos_of HPR.out.iter
              show F.length - World.iterPos _ it < F.length - World.iterPos _ it
              omega
      · obtain rfl : p = F.length := by omega
        have hnx := fun ty => Lib.run_next_end_at (P := Tryz.prog) wr it ⟨F.toArray⟩ F.length ty hLM.iter (by rw [mk_size]; omega)
        have HX := Lib.hid (show ws = piecesOf o by have := hcon.out; rw [List.drop_length] at this; simpa using this)
        have HLL := Lib.hid hLM
        clear hcon hLM
        go_wp2_with fail
        go_ret2
        exact LinePost.ok HF.out (by rw [← HX.out]; exact HLL.out.words) HLL.out.below
  · have hwe : (wordOf o.kind).isEmpty = true := by rw [wordOf_none hkk]; rfl
    have HF := Lib.hid (show faultOf o = 261 by unfold faultOf; rw [if_pos hkk])
    clear hkk hn
    go_enter Tryz.func35, Tryz.ntmps35
    go_wp2_with fail
    refine (Word_any o.kind _ (hEW.belowB hb1) hk0 hk1).mono ?_
    rintro e w1 ⟨rfl, rfl⟩
    go_wp2_with fail
    go_ret2
    exact LinePost.error HF.out (by decide) hb1
end Go.Proofs.YtbpackopicngmaaGreatDoor
