/- Walks, part K: script.Print. -/
import Derived.Test.YtbpackopicngmaaGreatDoorSwJ
namespace Go.Proofs.YtbpackopicngmaaGreatDoor
open Go.RowKit Go.Proofs.Sc Go.Proofs.YtbpackopicngmaaGreatDoorW.PrintWords

/-! ### plain: lengths, and the text as far as it is written -/

theorem joinW_len : ∀ ws : List By, (joinW ws).length ≤ (ws.map (fun x => x.length + 1)).sum
  | [] => by simp [joinW]
  | [w] => by simp [joinW]
  | w :: x :: ws => by
    rw [joinW_cons _ _ (by simp)]
    have := joinW_len (x :: ws)
    simp only [List.length_append, List.length_cons, List.map_cons, List.sum_cons] at this ⊢
    omega

theorem join_joinW : ∀ ws : List By, Lib.join ws [32] = joinW ws
  | [] => rfl
  | [w] => Lib.join_one _ _
  | w :: x :: ws => by
    rw [joinW_cons _ _ (by simp), ← join_joinW (x :: ws), Lib.join_cons, Lib.join_cons]
    simp [Lib.joinTail]

/-- The step's sizes, as they are needed. -/
structure OpFits (o : POp) : Prop where
  k0 : -9223372036854775808 ≤ o.kind
  k1 : o.kind ≤ 9223372036854775807
  name : o.name.length ≤ 33554432
  text : o.text.length ≤ 33554432
  list : o.list.length ≤ 33554432

theorem sum_itoa : ∀ l : List Int, (∀ n ∈ l, Sc.bounded n) → ((l.map Lib.itoa).map (fun x => x.length + 1)).sum ≤ 12 * l.length
  | [], _ => by simp
  | n :: l, h => by
    have h1 := sum_itoa l (fun x hx => h x (by simp [hx]))
    have h2 := (itoa_len (h n (by simp))).2
    simp only [List.map_cons, List.sum_cons, List.length_cons] at h1 ⊢
    omega

theorem fieldWords_len {o : POp} (ho : OpFits o) (hn : numsOk o) (f : UInt8) : ((fieldWords o f).map (fun x => x.length + 1)).sum ≤ 402653196 := by
  have h1 := (escape_len o.name).2.2
  have h2 := (escape_len o.text).2.2
  have h3 := (itoa_len hn.1).2
  have h4 := (itoa_len hn.2.1).2
  have h5 := sum_itoa o.list hn.2.2
  have := ho.name; have := ho.text; have := ho.list
  unfold fieldWords
  split
  · simp only [List.map_cons, List.map_nil, List.sum_cons, List.sum_nil]; omega
  split
  · simp only [List.map_cons, List.map_nil, List.sum_cons, List.sum_nil]; omega
  split
  · simp only [List.map_cons, List.map_nil, List.sum_cons, List.sum_nil]; omega
  split
  · simp only [List.map_cons, List.map_nil, List.sum_cons, List.sum_nil]; omega
  · exact Nat.le_trans h5 (by omega)

theorem flat_len {o : POp} (ho : OpFits o) (hn : numsOk o) : ∀ fs : By, ((fs.flatMap (fieldWords o)).map (fun x => x.length + 1)).sum ≤ fs.length * 402653196
  | [] => by simp
  | f :: fs => by
    have h1 := fieldWords_len ho hn f
    have h2 := flat_len ho hn fs
    simp only [List.flatMap_cons, List.map_append, List.sum_append, List.length_cons, Nat.add_mul]
    omega

theorem faultOf_zero {o : POp} (hf : faultOf o = 0) : Sc.kindOk o.kind ∧ Sc.spare o = false ∧ numsOk o := by
  unfold faultOf at hf
  split at hf
  · cases hf
  · rename_i h1
    split at hf
    · cases hf
    · split at hf
      · cases hf
      · rename_i h2 h3; exact ⟨Decidable.not_not.1 h1, by simpa using h2, Decidable.not_not.1 h3⟩

theorem pieces_count {o : POp} (ho : OpFits o) (hf : faultOf o = 0) : (piecesOf o).length ≤ 140737488355328 := by
  obtain ⟨_, _, _, _, h4⟩ := fields_suffix (faultOf_zero hf).1
  have := pieces_len o h4
  have := ho.list
  omega

theorem lineOf_len {o : POp} (ho : OpFits o) (hf : faultOf o = 0) : (lineOf o).length ≤ 2000000000 := by
  have hk := faultOf_zero hf
  obtain ⟨_, _, _, _, h4⟩ := fields_suffix hk.1
  have h1 := flat_len ho hk.2.2 (fieldsOf o.kind)
  have h2 := joinW_len (piecesOf o)
  have h3 := wordOf_len o.kind
  have h5 : (fieldsOf o.kind).length * 402653196 ≤ 4 * 402653196 := Nat.mul_le_mul_right _ h4
  unfold lineOf
  unfold piecesOf at h2 ⊢
  simp only [List.map_cons, List.sum_cons] at h2
  omega

def textTo (cap : Int) (os : List POp) : By := textOf (headLine cap :: os.map lineOf)

theorem textTo_nil (cap : Int) : textTo cap [] = headLine cap ++ [10] := by simp [textTo, textOf]
theorem textTo_snoc (cap : Int) (os : List POp) (o : POp) : textTo cap (os ++ [o]) = textTo cap os ++ (lineOf o ++ [10]) := by simp [textTo, textOf]

/-- What stands in the builder when the steps os are behind. -/
def Writ (cap : Int) (os : List POp) (l : By) : Prop := (l = textTo cap os ∨ (1048576 < l.length ∧ 1048576 < (textTo cap os).length)) ∧ l.length ≤ 4000000000

theorem Writ.more {cap : Int} {os : List POp} {l : By} (h : Writ cap os l) (hl : l.length ≤ 1048576) {o : POp} (ho : OpFits o) (hf : faultOf o = 0) : Writ cap (os ++ [o]) (l ++ (lineOf o ++ [10])) := by
  have h1 : l = textTo cap os := h.1.resolve_right (fun h => by omega)
  refine ⟨Or.inl (by rw [textTo_snoc, h1]), ?_⟩
  have := lineOf_len ho hf
  simp only [List.length_append, List.length_singleton]; omega
theorem Writ.still {cap : Int} {os : List POp} {l : By} (h : Writ cap os l) (hl : 1048576 < l.length) (o : POp) : Writ cap (os ++ [o]) l := by
  refine ⟨Or.inr ⟨hl, ?_⟩, h.2⟩
  rw [textTo_snoc, List.length_append]
  rcases h.1 with h1 | h1
  · rw [← h1]; omega
  · omega

theorem faults_drop {ops : List POp} {i : Nat} {o : POp} (h : ops[i]? = some o) (hf : faultOf o = 0) : faults (ops.drop i) = faults (ops.drop (i + 1)) := by
  rw [Lib.drop_at h]; simp only [faults]; rw [if_pos hf]
theorem faults_at {ops : List POp} {i : Nat} {o : POp} (h : ops[i]? = some o) (hf : faultOf o ≠ 0) : faults (ops.drop i) = faultOf o := by
  rw [Lib.drop_at h]; simp only [faults]; rw [if_neg hf]

/-! ### the walk -/

theorem kOp_open {w : World} {x : POp} {cs : List Value} (h : kOp.K w x cs) : ∃ A5 c5, cs = [.int .i64 x.kind, .int .i64 x.a, .int .i64 x.b, .string ⟨x.name.toArray⟩, .string ⟨x.text.toArray⟩, .slice A5 x.list.length c5] ∧ x.list.length ≤ c5 ∧ (Kd.int .i64).C w A5 x.list.length x.list := by
  obtain ⟨_, _, rfl, rfl, ⟨_, _, rfl, rfl, ⟨_, _, rfl, rfl, ⟨_, _, rfl, rfl, ⟨_, _, rfl, rfl, ⟨A5, c5, rfl, l5, g5⟩⟩⟩⟩⟩⟩ := h
  exact ⟨A5, c5, rfl, l5, g5⟩

def zPOp : POp := ⟨0, 0, 0, [], [], []⟩

theorem at_op {w : World} {A : Option Addr} {n : Nat} {xs : List POp} (h : Kd.C kOp w A n xs) (i : Nat) (x : POp) (hx : xs[i]? = some x) : ∃ ad A5 c5, A = some ad ∧ w.cell? (ad.add (i * 6)) = some (.int .i64 x.kind) ∧ w.cell? ⟨(ad.add (i * 6)).block, (ad.add (i * 6)).off + 1, none⟩ = some (.int .i64 x.a) ∧ w.cell? ⟨(ad.add (i * 6)).block, (ad.add (i * 6)).off + 2, none⟩ = some (.int .i64 x.b) ∧ w.cell? ⟨(ad.add (i * 6)).block, (ad.add (i * 6)).off + 3, none⟩ = some (.string ⟨x.name.toArray⟩) ∧ w.cell? ⟨(ad.add (i * 6)).block, (ad.add (i * 6)).off + 4, none⟩ = some (.string ⟨x.text.toArray⟩) ∧ w.cell? ⟨(ad.add (i * 6)).block, (ad.add (i * 6)).off + 5, none⟩ = some (.slice A5 x.list.length c5) ∧ x.list.length ≤ c5 ∧ (Kd.int .i64).C w A5 x.list.length x.list := by
  have hlt : i < n := by rw [← h.1]; exact (List.getElem?_eq_some_iff.1 hx).1
  obtain ⟨ad, c, e, _, hK, hc0⟩ := Kd.C_get h zPOp (i : Int) (by omega) (by omega)
  have hrd : xs.getD (i : Int).toNat zPOp = x := by simp [hx]
  rw [hrd] at hK
  rw [Int.toNat_natCast] at hc0
  have hc : ∀ j u, c[j]? = some u → w.cell? (ad.add (i * 6 + j)) = some u := hc0
  obtain ⟨A5, c5, rfl, l5, g5⟩ := kOp_open hK
  exact ⟨ad, A5, c5, e, hc 0 _ rfl, by rw [← add_field _ _ 1 (by omega)]; exact hc 1 _ rfl, by rw [← add_field _ _ 2 (by omega)]; exact hc 2 _ rfl, by rw [← add_field _ _ 3 (by omega)]; exact hc 3 _ rfl, by rw [← add_field _ _ 4 (by omega)]; exact hc 4 _ rfl, by rw [← add_field _ _ 5 (by omega)]; exact hc 5 _ rfl, l5, g5⟩

theorem Bld.fresh_at {B : Nat} (w : World) (hB : B ≤ w.heap.size) : Bld B w.heap.size [] (w.alloc (.cells #[.pointer none, .slice none 0 0] 87)) :=
  Or.inl ⟨hB, .slice none 0 0, heap_alloc_new w _, World.ownsRow_nil _ _ _ _, by simp [Value.ownBlock]⟩

theorem len_any {B b : Nat} {l : By} (w : World) (h : Bld B b l w) : Calls Tryz.prog 36 #[.pointer (some ⟨b, 0, none⟩)] w fun e w' => e = .returned (.int .i64 l.length) ∧ w = w' :=
  (Tryz.Builder_Len B b _ w h).mono fun e w' ⟨h1, h2⟩ => ⟨by rw [h1, Lib.byteCells_length], h2.symm⟩

theorem join_any {B : Nat} {ws : List By} {v : Value} (w : World) (hne : ws ≠ []) (h : kStr.R 9 w B (fun _ => True) v ws) (hl : (joinW ws).length ≤ 140737488355328) (hn : ws.length ≤ 140737488355328) :
    Calls Tryz.prog 37 #[v, .string ⟨#[32]⟩] w fun e w' => e = .returned (.string ⟨(joinW ws).toArray⟩) ∧ Below w.heap.size w w' := by
  have hown := Kd.own_of_R h
  obtain ⟨g, c, rfl, hgb, hgl⟩ := hown.form (List.length_pos_iff.2 hne)
  have hc : ws.length ≤ c := by
    rcases hown.2 with ⟨h1, _⟩ | ⟨g', cap', cur, he, _, _, h1, h2, _⟩
    · cases h1
    · cases he; exact h1
  have hm : ((ws.map fun x => (⟨x.toArray⟩ : ByteArray)).map (·.data.toList)) = ws := by rw [List.map_map]; simp [Function.comp_def]
  have := Tryz.strings_Join g 0 c (ws.map fun x => (⟨x.toArray⟩ : ByteArray)) ⟨#[32]⟩ w (fun j x hx => by
    rw [List.getElem?_map] at hx
    cases hy : ws[j]? with
    | none => rw [hy] at hx; cases hx
    | some y =>
      rw [hy] at hx; cases hx
      have := hown.cells (g := g) rfl j (.string ⟨y.toArray⟩) (by simp [encs, hy])
      rw [add_plain] at this
      rw [Nat.zero_add]; exact this) hgl (by rw [List.length_map]; exact hn) (by rw [List.length_map]; exact hc) (by rw [hm]; show (Lib.join ws [32]).length ≤ _; rw [join_joinW]; exact hl)
  rw [List.length_map, hm] at this
  refine this.mono fun e w' ⟨h1, h2⟩ => ⟨?_, h2⟩
  rw [h1]; show Ending.returned (.string ⟨(Lib.join ws [32]).toArray⟩) = _; rw [join_joinW]

def PrintPost (s : PScript) (w : World) (e : Ending) (w' : World) : Prop := e = .returned (.tuple #[.string ⟨(Sc.print s).1.toArray⟩, .int .i64 (Sc.print s).2]) ∧ Below w.heap.size w w'

theorem PrintPost.mk' {s : PScript} {w w' : World} {t : By} {c : Int} (h : Sc.print s = (t, c)) (hb : Below w.heap.size w w') : PrintPost s w (.returned (.tuple #[.string ⟨t.toArray⟩, .int .i64 c])) w' := by
  unfold PrintPost; rw [h]; exact ⟨rfl, hb⟩

/-- What stands when i steps are behind. -/
structure PL (w : World) (cap : Int) (ops : List POp) (i : Nat) (l : By) (wr : World) : Prop where
  bld : Bld (w.heap.size + 1) (w.heap.size + 1) l wr
  below : Below w.heap.size w wr
  writ : Writ cap (ops.take i) l
  good : faults ops = faults (ops.drop i)

set_option maxHeartbeats 8000000 in
set_option maxRecDepth 100000 in
theorem Print_any (cap : Int) (ops : List POp) (A : Option Addr) (c : Nat) (w : World) {B : Nat} (hE : Env B w) (hfit : ∀ o ∈ ops, OpFits o) (hC : kOp.C w A ops.length ops) :
    Calls Tryz.prog 14 #[.agg #[.int .i64 cap, .slice A ops.length c]] w (PrintPost ⟨cap, ops⟩ w) := by
  have hEW : Env w.heap.size w := hE.up hE.le (Nat.le_refl _)
  clear hE
  have hb1 : Below w.heap.size w (w.alloc (.cells #[.int .i64 cap, .slice A ops.length c] 25)) := (Below.refl _ _).alloc (Nat.le_refl _) _
  by_cases hcap : Sc.bounded cap
  · obtain ⟨n, hn⟩ : ∃ n, n = ops.length := ⟨_, rfl⟩
    rw [← hn] at hC hb1 ⊢
    have HBC := Lib.hid (show decide (Sc.bounded cap) = true from decide_eq_true hcap)
    have HCAP := Lib.hid hcap
    have HN := Lib.hid hn
    have HC := Lib.hid hC
    have HFIT := Lib.hid hfit
    clear hn hcap hC hfit
    by_cases hmany : 2000 < n
    · have HF := Lib.hid (show Sc.print ⟨cap, ops⟩ = ([], 264) by
        unfold Sc.print; rw [if_neg (not_not_intro HCAP.out), if_pos (by rw [← HN.out]; exact hmany)])
      have k1 : decide (2000 < n) = true := decide_eq_true hmany
      have k2 : decide ((2000 : Int) < (n : Int)) = true := decide_eq_true (by omega)
      clear hmany
      go_enter Tryz.func14, Tryz.ntmps14
      go_wp2_with fail
      refine (bounded_any cap _).mono ?_
      rw [HBC.out]
      rintro e w1 ⟨rfl, rfl⟩
      go_wp2_with fail
      go_ret2
      exact PrintPost.mk' HF.out hb1
    have HPR := Lib.hid (show Sc.print ⟨cap, ops⟩ = if faults ops ≠ 0 then ([], faults ops) else if 1048576 < (textTo cap ops).length then ([], 264) else (textTo cap ops, 0) by
      unfold Sc.print; rw [if_neg (not_not_intro HCAP.out), if_neg (by rw [← HN.out]; exact hmany)]; rfl)
    have k1 : decide (2000 < n) = false := decide_eq_false hmany
    have k2 : decide ((2000 : Int) < (n : Int)) = false := decide_eq_false (by omega)
    have hc0 := HCAP.out.1
    have hc1 := HCAP.out.2
    have HA := Lib.hid (And.intro hc0 hc1)
    clear hc0 hc1
    have hbl0 : Bld (w.heap.size + 1) (w.heap.size + 1) [] ((w.alloc (.cells #[.int .i64 cap, .slice A n c] 25)).alloc (.cells #[.pointer none, .slice none 0 0] 87)) := by
      have := Bld.fresh_at (B := w.heap.size + 1) (w.alloc (.cells #[.int .i64 cap, .slice A n c] 25)) (by simp)
      simpa using this
    have hb2 := hb1.alloc hb1.size (.cells #[.pointer none, .slice none 0 0] 87)
    go_enter Tryz.func14, Tryz.ntmps14
    go_wp2_with fail
    refine (bounded_any cap _).mono ?_
    rw [HBC.out]
    rintro e w1 ⟨rfl, rfl⟩
    go_wp2_with fail
    refine (itoa_any cap (by have := HA.out; omega) (by have := HA.out; omega) _ (hEW.belowB hb2)).mono ?_
    rintro e w1 ⟨rfl, hw1⟩
    have hil := (itoa_len HCAP.out).2
    have hbl1 := hbl0.below hw1
    have hb3 := hb2.trans (hw1.mono hb2.size)
    have HBX := Lib.hid (show w1.cell? ⟨w.heap.size, 1, none⟩ = some (.slice A n c) by
      rw [blk_cell ((hw1.block w.heap.size (by simp; omega)).trans ((Below.heap_alloc _ _ _ (by simp)).trans (heap_alloc_new w _)))]; rfl)
    have HBL := Lib.hid hbl1
    have HB3 := Lib.hid hb3
    have hn2 : n ≤ 2000 := by omega
    clear hbl0 hb2 hbl1 hb3 hw1 hmany
    have hlc : w.heap.size + 1 < w1.heap.size := HBL.out.lt
    have hbx : w1.cell? ⟨w.heap.size, 1, none⟩ = some (.slice A n c) := HBX.out
    go_wp2_with fail
    refine (ws_any (w.heap.size + 1) (w.heap.size + 1) [] _ _ HBL.out (by simp [mk_size]; omega) (by omega)).mono ?_
    rintro e w2 ⟨rfl, hbl2, hw2⟩
    have hbx2 : w2.cell? ⟨w.heap.size, 1, none⟩ = some (.slice A n c) := (hw2.cell (p := ⟨w.heap.size, 1, none⟩) (by simp)).trans hbx
    have HPL := Lib.hid (show PL w cap ops 0 (textTo cap []) w2 from ⟨by
        have e : ([] : By) ++ ((⟨#[112, 105, 116, 104, 32]⟩ : ByteArray) ++ (⟨(Lib.itoa cap).toArray⟩ : ByteArray) ++ (⟨#[10]⟩ : ByteArray)).data.toList = textTo cap [] := by
          rw [textTo_nil]; simp [headLine, headWord]
        rw [← e]; exact hbl2, HB3.out.trans (hw2.mono (Nat.le_succ _)), ⟨Or.inl rfl, by rw [textTo_nil]; simp [headLine, headWord]; omega⟩, rfl⟩)
    clear hbl2 hw2 HBL HB3 hlc HBX hbx
    go_wp2_with fail
    go_loopw [28] (fun v wr => ∃ (i : Nat) (l : By), v = .int .i64 (i : Int) ∧ i ≤ n ∧ PL w cap ops i l wr) (fun v _ => n - (intOf v).toNat)
    case atStart => exact ⟨0, _, rfl, Nat.zero_le _, HPL.out⟩
    case round =>
    clear HPL hbx2
    obtain ⟨i, l, rfl, hi, hL⟩ := hrel
    by_cases hlt : i < n
    · obtain ⟨o, ho⟩ : ∃ o, ops[i]? = some o := ⟨ops[i]'(by have := HN.out; omega), List.getElem?_eq_getElem _⟩
      obtain ⟨ad, A5, c5, hAd, p0, p1, p2, p3, p4, p5, hc5, hC5⟩ := at_op (Kd.C_below HC.out hL.below) i o ho
      have hfo := HFIT.out o (List.mem_of_getElem? ho)
      have HO := Lib.hid ho
      have HFO := Lib.hid hfo
      have HL := Lib.hid hL
      obtain ⟨m, hm⟩ : ∃ m, m = o.list.length := ⟨_, rfl⟩
      rw [← hm] at p5 hc5 hC5
      have HC5 := Lib.hid hC5
      have HM := Lib.hid hm
      clear ho hfo hC5 hL hm
      subst hAd
      go_wp2_with fail
      have HBA := Lib.hid (show Below wr.heap.size wr (wr.alloc (.cells #[.int .i64 o.kind, .int .i64 o.a, .int .i64 o.b, .string ⟨o.name.toArray⟩, .string ⟨o.text.toArray⟩, .slice A5 m c5] 44)) from (Below.refl _ _).alloc (Nat.le_refl _) _)
      refine (line_any o A5 m c5 _ (hEW.belowB (HL.out.below.trans (HBA.out.mono HL.out.below.size))) HFO.out.k0 HFO.out.k1 HFO.out.name HFO.out.text HM.out (by rw [HM.out]; exact HFO.out.list) (Kd.C_below HC5.out HBA.out)).mono ?_
      rintro e w3 hLP
      have HB3 := Lib.hid (HBA.out.trans (hLP.2.mono HBA.out.size))
      by_cases hfz : faultOf o = 0
      · have HFZ := Lib.hid hfz
        unfold LinePost at hLP
        rw [if_neg (by rw [hfz]; decide)] at hLP
        obtain ⟨⟨v, rfl, hv⟩, _⟩ := hLP
        obtain ⟨A6, c6, rfl⟩ := Kd.R_slice hv
        have HV := Lib.hid hv
        have hbl3 := HL.out.bld.below HB3.out
        have HBL3 := Lib.hid hbl3
        have hw3 := HL.out.below.trans (HB3.out.mono HL.out.below.size)
        have HW3 := Lib.hid hw3
        have hwl := HL.out.writ.2
        have HLN := Lib.hid (lineOf_len HFO.out hfz)
        clear hfz hv hbl3 hw3
        go_wp2_with fail
        refine (len_any _ HBL3.out).mono ?_
        rintro e w4 ⟨rfl, rfl⟩
        by_cases hll : l.length ≤ 1048576
        · have k3 : decide (l.length ≤ 1048576) = true := decide_eq_true hll
          have k4 : decide ((l.length : Int) ≤ 1048576) = true := decide_eq_true (by omega)
          have HLL := Lib.hid hll
          clear hll
          go_wp2_with fail
          refine (join_any _ (by simp [piecesOf]) HV.out (by have := HLN.out; unfold lineOf at this; omega) ?_).mono ?_
          · exact pieces_count HFO.out HFZ.out
          rintro e w5 ⟨rfl, hw5⟩
          have hjl : (joinW (piecesOf o)).length ≤ 2000000000 := HLN.out
          have HBL5 := Lib.hid (HBL3.out.below hw5)
          have HW5 := Lib.hid (HW3.out.trans (hw5.mono HW3.out.size))
          have hb5 := HBL5.out.lt
          clear hw5
          go_wp2_with fail
          refine (ws_any (w.heap.size + 1) (w.heap.size + 1) l _ _ HBL5.out (by simp [mk_size]; omega) (by omega)).mono ?_
          rintro e w6 ⟨rfl, hbl6, hw6⟩
          have HPL := Lib.hid (show PL w cap ops (i + 1) (l ++ (lineOf o ++ [10])) w6 from ⟨by
              have e : l ++ ((⟨(joinW (piecesOf o)).toArray⟩ : ByteArray) ++ (⟨#[10]⟩ : ByteArray)).data.toList = l ++ (lineOf o ++ [10]) := by simp [lineOf]
              rw [← e]; exact hbl6, HW5.out.trans (hw6.mono (Nat.le_succ _)), by
              rw [List.take_add_one, HO.out]; exact HL.out.writ.more HLL.out HFO.out HFZ.out, by rw [HL.out.good]; exact faults_drop HO.out HFZ.out⟩)
          clear hbl6 hw6
          go_wp2_with fail
          go_roundw
          case rel => exact ⟨i + 1, _, by go_num, hlt, HPL.out⟩
          case measure => simp [intOf]; omega
        · have k3 : decide (l.length ≤ 1048576) = false := decide_eq_false hll
          have k4 : decide ((l.length : Int) ≤ 1048576) = false := decide_eq_false (by omega)
          have HPL := Lib.hid (show PL w cap ops (i + 1) l w3 from ⟨HBL3.out, HW3.out, by
              rw [List.take_add_one, HO.out]; exact HL.out.writ.still (by omega) o, by rw [HL.out.good]; exact faults_drop HO.out HFZ.out⟩)
          clear hll
          go_wp2_with fail
          go_roundw
          case rel => exact ⟨i + 1, _, by go_num, hlt, HPL.out⟩
          case measure => simp [intOf]; omega
      · unfold LinePost at hLP
        rw [if_pos hfz] at hLP
        obtain ⟨rfl, _⟩ := hLP
        have HF := Lib.hid (show Sc.print ⟨cap, ops⟩ = ([], faultOf o) by
          rw [HPR.out, HL.out.good, faults_at HO.out hfz, if_pos hfz])
        have k3 : (faultOf o != 0) = true := by simpa using hfz
        have HW3 := Lib.hid (HL.out.below.trans (HB3.out.mono HL.out.below.size))
        clear hfz
        go_wp2_with fail
        go_ret2
        exact PrintPost.mk' HF.out HW3.out
    · obtain rfl : i = n := by omega
      have HT := Lib.hid (show ops.take i = ops by rw [List.take_of_length_le (by rw [← HN.out]; exact Nat.le_refl _)])
      have HG := Lib.hid (show faults ops = 0 by rw [hL.good, List.drop_of_length_le (by rw [← HN.out]; exact Nat.le_refl _)]; rfl)
      have HL := Lib.hid hL
      clear hL
      go_wp2_with fail
      refine (len_any _ HL.out.bld).mono ?_
      rintro e w4 ⟨rfl, rfl⟩
      by_cases hll : 1048576 < l.length
      · have k3 : decide (1048576 < l.length) = true := decide_eq_true hll
        have k4 : decide ((1048576 : Int) < (l.length : Int)) = true := decide_eq_true (by omega)
        have HF := Lib.hid (show Sc.print ⟨cap, ops⟩ = ([], 264) by
          have h1 := HL.out.writ.1
          rw [HT.out] at h1
          rw [HPR.out, if_neg (not_not_intro HG.out), if_pos (by rcases h1 with h1 | h1; rw [← h1]; exact hll; exact h1.2)])
        clear hll
        go_wp2_with fail
        go_ret2
        exact PrintPost.mk' HF.out HL.out.below
      · have k3 : decide (1048576 < l.length) = false := decide_eq_false hll
        have k4 : decide ((1048576 : Int) < (l.length : Int)) = false := decide_eq_false (by omega)
        have HF := Lib.hid (show Sc.print ⟨cap, ops⟩ = (l, 0) by
          have h1 := HL.out.writ.1
          rw [HT.out] at h1
          have h2 := h1.resolve_right (fun h => hll h.1)
          rw [HPR.out, if_neg (not_not_intro HG.out), ← h2, if_neg hll])
        have hbs := HL.out.bld.lt
        clear hll
        go_wp2_with fail
        refine (Tryz.Builder_String_any _ _ _ _ HL.out.bld (by omega)).mono ?_
        rintro e w5 ⟨rfl, hw5⟩
        go_wp2_with fail
        go_ret2
        exact PrintPost.mk' HF.out (HL.out.below.trans (hw5.mono (Nat.le_succ _)))
  · have HF := Lib.hid (show Sc.print ⟨cap, ops⟩ = ([], 262) by unfold Sc.print; rw [if_pos hcap])
    have HBC := Lib.hid (show decide (Sc.bounded cap) = false from decide_eq_false hcap)
    obtain ⟨n, hn⟩ : ∃ n, n = ops.length := ⟨_, rfl⟩
    rw [← hn] at hb1 ⊢
    clear hcap hn hC hfit
    go_enter Tryz.func14, Tryz.ntmps14
    go_wp2_with fail
    refine (bounded_any cap _).mono ?_
    rw [HBC.out]
    rintro e w1 ⟨rfl, rfl⟩
    go_wp2_with fail
    go_ret2
    exact PrintPost.mk' HF.out hb1
end Go.Proofs.YtbpackopicngmaaGreatDoor
