/- The document's filled (written by gen/mkFill.py). -/
import Derived.Test.YtbpackopicngmaaGreatDoorRfH
import Derived.Test.YtbpackopicngmaaGreatDoorLwUn
namespace Go.Proofs.YtbpackopicngmaaGreatDoor
open Go.RowKit Go.Proofs.Sc Go.Proofs.YtbpackopicngmaaGreatDoorW.PrintWords

/-- What stands while a field is filled: the list in a row of its own, all else of the elder memory as it was. -/
structure FS (B : Nat) (w : World) (b0 : Option Nat) (lv : Value) (l : List Int) (W : World) : Prop where
  own : W.ownsRow B 3 1 lv l.length (nums .i64 l)
  below : Below B w W
  kept : ∀ k, k < w.heap.size → some k ≠ b0 → W.heap[k]? = w.heap[k]?

theorem FS.set {B : Nat} {w : World} {b0 : Option Nat} {lv : Value} {l : List Int} {W : World} (h : FS B w b0 lv l W) (hB : B ≤ w.heap.size) {b : Nat} {cs : Array Value} (hb : W.heap[b]? = some (.cells cs 44 (0, 0))) (hge : w.heap.size ≤ b) (j : Nat) (u : Value) : FS B w b0 lv l (W.setCell ⟨b, j, none⟩ u) :=
  ⟨own_set hb h.own u, h.below.setCell (by simp only; omega) u, fun k hk hn => (Below.heap_setCell _ _ _ _ (by simp only; omega)).trans (h.kept k hk hn)⟩

theorem FS.six {B : Nat} {w : World} {b0 : Option Nat} {lv : Value} {l : List Int} {W : World} (h : FS B w b0 lv l W) (hB : B ≤ w.heap.size) {b : Nat} {cs : Array Value} (hb : W.heap[b]? = some (.cells cs 44 (0, 0))) (hge : w.heap.size ≤ b) (u0 u1 u2 u3 u4 u5 : Value) :
    FS B w b0 lv l ((((((W.setCell ⟨b, 0, none⟩ u0).setCell ⟨b, 1, none⟩ u1).setCell ⟨b, 2, none⟩ u2).setCell ⟨b, 3, none⟩ u3).setCell ⟨b, 4, none⟩ u4).setCell ⟨b, 5, none⟩ u5) :=
  have hb0 := blk_set hb 0 u0
  have hb1 := blk_set hb0 1 u1
  have hb2 := blk_set hb1 2 u2
  have hb3 := blk_set hb2 3 u3
  have hb4 := blk_set hb3 4 u4
  (((((h.set hB hb hge 0 u0).set hB hb0 hge 1 u1).set hB hb1 hge 2 u2).set hB hb2 hge 3 u3).set hB hb3 hge 4 u4).set hB hb4 hge 5 u5

theorem op_frozen {b : Nat} {w : World} {cs : Array Value} (h : w.heap[b]? = some (.cells cs 44 (0, 0))) :
    w.frozen? ⟨b, 0, none⟩ = false ∧ w.frozen? ⟨b, 1, none⟩ = false ∧ w.frozen? ⟨b, 2, none⟩ = false ∧ w.frozen? ⟨b, 3, none⟩ = false ∧ w.frozen? ⟨b, 4, none⟩ = false ∧ w.frozen? ⟨b, 5, none⟩ = false :=
  ⟨blk_frozen h 0, blk_frozen h 1, blk_frozen h 2, blk_frozen h 3, blk_frozen h 4, blk_frozen h 5⟩

def FillPost (B : Nat) (w : World) (b0 : Option Nat) (r : Except Int POp) (e : Ending) (w' : World) : Prop :=
  ∃ (o : POp) (A : Option Addr) (c : Nat) (n : Int), e = .returned (.tuple #[.agg #[.int .i64 o.kind, .int .i64 o.a, .int .i64 o.b, .string ⟨o.name.toArray⟩, .string ⟨o.text.toArray⟩, .slice A o.list.length c], .int .i64 n]) ∧ ((r = .ok o ∧ n = 0) ∨ (r = .error n ∧ n ≠ 0)) ∧ FS B w b0 (.slice A o.list.length c) o.list w'

theorem fs_two {B : Nat} {w : World} {A : Option Addr} {c : Nat} {l : List Int} (hB : B ≤ w.heap.size) (hown : w.ownsRow B 3 1 (.slice A l.length c) l.length (nums .i64 l)) (o1 o2 : Obj) : FS B w (Value.slice A l.length c).ownBlock (.slice A l.length c) l ((w.alloc o1).alloc o2) :=
  have hb : Below w.heap.size w ((w.alloc o1).alloc o2) := ((Below.refl _ _).alloc (Nat.le_refl _) _).alloc (by simp) _
  ⟨own_move hown (fun k hk => hb.block k (own_lt hown k hk)), hb.mono hB, fun k hk _ => hb.block k hk⟩

/-- The memory as filled finds it. -/
theorem fs_start {B : Nat} {w : World} {o : POp} {A : Option Addr} {c : Nat} (hB : B ≤ w.heap.size) (hown : w.ownsRow B 3 1 (.slice A o.list.length c) o.list.length (nums .i64 o.list)) (W : World) (hW : W = (w.alloc (.cells #[.int .i64 o.kind, .int .i64 o.a, .int .i64 o.b, .string ⟨o.name.toArray⟩, .string ⟨o.text.toArray⟩, .slice A o.list.length c] 44)).alloc (.cells zeroOp 44)) :
    FS B w (Value.slice A o.list.length c).ownBlock (.slice A o.list.length c) o.list W ∧ W.heap[w.heap.size]? = some (.cells #[.int .i64 o.kind, .int .i64 o.a, .int .i64 o.b, .string ⟨o.name.toArray⟩, .string ⟨o.text.toArray⟩, .slice A o.list.length c] 44 (0, 0)) ∧ W.heap[w.heap.size + 1]? = some (.cells zeroOp 44 (0, 0)) := by
  have hb : Below w.heap.size w W := by subst hW; exact ((Below.refl _ _).alloc (Nat.le_refl _) _).alloc (by simp) _
  refine ⟨⟨own_move hown (fun k hk => hb.block k (own_lt hown k hk)), hb.mono hB, fun k hk _ => hb.block k hk⟩, ?_, ?_⟩
  · subst hW; exact (Below.heap_alloc _ _ _ (by simp)).trans (heap_alloc_new w _)
  · subst hW; exact new_at _ _ _ (by simp)

theorem FS.later {B : Nat} {w : World} {b0 : Option Nat} {lv : Value} {l : List Int} {W W1 : World} (h : FS B w b0 lv l W) (hB : B ≤ w.heap.size) (hw : w.heap.size ≤ W.heap.size) (hb : Below W.heap.size W W1) : FS B w b0 lv l W1 :=
  ⟨own_move h.own (fun k hk => hb.block k (own_lt h.own k hk)), h.below.trans (hb.mono (by omega)), fun k hk hn => (hb.block k (by omega)).trans (h.kept k hk hn)⟩


set_option maxHeartbeats 8000000 in
set_option maxRecDepth 100000 in
theorem filled_name (o : POp) (f : UInt8) (x : By) (A : Option Addr) (c : Nat) (w : World) {B : Nat} (hB : B ≤ w.heap.size) (hown : w.ownsRow B 3 1 (.slice A o.list.length c) o.list.length (nums .i64 o.list)) (hx : x.length ≤ 33554432) (hl : o.list.length ≤ 33554432) (hf : f = 78) :
    Calls Tryz.prog 62 #[.agg #[.int .i64 o.kind, .int .i64 o.a, .int .i64 o.b, .string ⟨o.name.toArray⟩, .string ⟨o.text.toArray⟩, .slice A o.list.length c], .int .u8 f.toNat, .string ⟨x.toArray⟩] w (FillPost B w (Value.slice A o.list.length c).ownBlock (setF o f x)) := by
  obtain ⟨hs0, hbx0, hz0⟩ := fs_start hB hown _ rfl
  have HS0 := Lib.hid hs0
  have HBX0 := Lib.hid hbx0
  have HZ0 := Lib.hid hz0
  have HBB := Lib.hid hB
  have hW0 : w.heap.size + 2 = ((w.alloc (.cells #[.int .i64 o.kind, .int .i64 o.a, .int .i64 o.b, .string ⟨o.name.toArray⟩, .string ⟨o.text.toArray⟩, .slice A o.list.length c] 44)).alloc (.cells zeroOp 44)).heap.size := by simp
  have HW0 := Lib.hid hW0
  have HOL := Lib.hid (own_lt hown)
  have HTW := Lib.hid (fs_two hB hown)
  unfold zeroOp at HS0 HBX0 HZ0 HW0
  clear hs0 hbx0 hz0 hB hW0 hown
  subst hf
  by_cases hu : ∃ t, unescape x = some t
  · obtain ⟨t, hu⟩ := hu
    have HR := Lib.hid (show setF o 78 x = .ok { o with name := t } by simp [setF, hu])
    have HU := Lib.hid (unRes_some hu)
    clear hu
    go_enter Tryz.func62, Tryz.ntmps62
    go_wp2_with fail
    refine (refUnescape_any ⟨x.toArray⟩ _ (by rw [mk_size]; omega)).mono ?_
    rintro e w1 ⟨he, hB1⟩
    obtain rfl := he.trans (congrArg Ending.returned HU.out)
    have hs1 := HS0.out.later HBB.out (by have := HW0.out; omega) hB1
    have hbx1 := (hB1.block _ (blk_lt HBX0.out)).trans HBX0.out
    have hz1 := (hB1.block _ (blk_lt HZ0.out)).trans HZ0.out
    obtain ⟨b0, b1, b2, b3, b4, b5⟩ := op_cells hbx1
    obtain ⟨g0, g1, g2, g3, g4, g5⟩ := op_frozen hbx1
    obtain ⟨z0, z1, z2, z3, z4, z5⟩ := op_cells hz1
    obtain ⟨y0, y1, y2, y3, y4, y5⟩ := op_frozen hz1
    have HFS := Lib.hid (show ∀ u0 u1 u2 u3 u4 u5 : Value, _ from fun u0 u1 u2 u3 u4 u5 => (hs1.set HBB.out hbx1 (Nat.le_refl _) 3 (.string ⟨t.toArray⟩)).six HBB.out (b := w.heap.size + 1) ((Below.heap_setCell _ _ _ _ (by simp)).trans hz1) (Nat.le_succ _) u0 u1 u2 u3 u4 u5)
    clear he hB1 hs1 hbx1 hz1 HS0 HBX0 HZ0 HW0
    go_wp2_with fail
    exact bodyPost_ret (v := .tuple #[.agg #[.int .i64 o.kind, .int .i64 o.a, .int .i64 o.b, .string ⟨(t).toArray⟩, .string ⟨(o.text).toArray⟩, .slice A o.list.length c], .int .i64 0]) (by simp [results, Tryz.results62, go_sem, b0, b1, b2, b3, b4, b5, z0, z1, z2, z3, z4, z5]) rfl ⟨{ o with name := t }, A, c, 0, rfl, Or.inl ⟨HR.out, rfl⟩, HFS.out _ _ _ _ _ _⟩
  · have hu : unescape x = none := by
      cases h : unescape x with
      | none => rfl
      | some t => exact absurd ⟨t, h⟩ hu
    have HR := Lib.hid (show setF o 78 x = .error 265 by simp [setF, hu])
    have HU := Lib.hid (unRes_none hu)
    clear hu
    go_enter Tryz.func62, Tryz.ntmps62
    go_wp2_with fail
    refine (refUnescape_any ⟨x.toArray⟩ _ (by rw [mk_size]; omega)).mono ?_
    rintro e w1 ⟨he, hB1⟩
    obtain rfl := he.trans (congrArg Ending.returned HU.out)
    have hs1 := HS0.out.later HBB.out (by have := HW0.out; omega) hB1
    have hbx1 := (hB1.block _ (blk_lt HBX0.out)).trans HBX0.out
    have hz1 := (hB1.block _ (blk_lt HZ0.out)).trans HZ0.out
    obtain ⟨b0, b1, b2, b3, b4, b5⟩ := op_cells hbx1
    obtain ⟨z0, z1, z2, z3, z4, z5⟩ := op_cells hz1
    obtain ⟨y0, y1, y2, y3, y4, y5⟩ := op_frozen hz1
    have HFS := Lib.hid (show ∀ u0 u1 u2 u3 u4 u5 : Value, _ from fun u0 u1 u2 u3 u4 u5 => hs1.six HBB.out (b := w.heap.size + 1) hz1 (Nat.le_succ _) u0 u1 u2 u3 u4 u5)
    clear he hB1 hs1 hbx1 hz1 HS0 HBX0 HZ0 HW0
    go_wp2_with fail
    exact bodyPost_ret (v := .tuple #[.agg #[.int .i64 o.kind, .int .i64 o.a, .int .i64 o.b, .string ⟨o.name.toArray⟩, .string ⟨o.text.toArray⟩, .slice A o.list.length c], .int .i64 265]) (by simp [results, Tryz.results62, go_sem, b0, b1, b2, b3, b4, b5, z0, z1, z2, z3, z4, z5]) rfl ⟨o, A, c, 265, rfl, Or.inr ⟨HR.out, by decide⟩, HFS.out _ _ _ _ _ _⟩

set_option maxHeartbeats 8000000 in
set_option maxRecDepth 100000 in
theorem filled_text (o : POp) (f : UInt8) (x : By) (A : Option Addr) (c : Nat) (w : World) {B : Nat} (hB : B ≤ w.heap.size) (hown : w.ownsRow B 3 1 (.slice A o.list.length c) o.list.length (nums .i64 o.list)) (hx : x.length ≤ 33554432) (hl : o.list.length ≤ 33554432) (hf : f = 84) :
    Calls Tryz.prog 62 #[.agg #[.int .i64 o.kind, .int .i64 o.a, .int .i64 o.b, .string ⟨o.name.toArray⟩, .string ⟨o.text.toArray⟩, .slice A o.list.length c], .int .u8 f.toNat, .string ⟨x.toArray⟩] w (FillPost B w (Value.slice A o.list.length c).ownBlock (setF o f x)) := by
  obtain ⟨hs0, hbx0, hz0⟩ := fs_start hB hown _ rfl
  have HS0 := Lib.hid hs0
  have HBX0 := Lib.hid hbx0
  have HZ0 := Lib.hid hz0
  have HBB := Lib.hid hB
  have hW0 : w.heap.size + 2 = ((w.alloc (.cells #[.int .i64 o.kind, .int .i64 o.a, .int .i64 o.b, .string ⟨o.name.toArray⟩, .string ⟨o.text.toArray⟩, .slice A o.list.length c] 44)).alloc (.cells zeroOp 44)).heap.size := by simp
  have HW0 := Lib.hid hW0
  have HOL := Lib.hid (own_lt hown)
  have HTW := Lib.hid (fs_two hB hown)
  unfold zeroOp at HS0 HBX0 HZ0 HW0
  clear hs0 hbx0 hz0 hB hW0 hown
  subst hf
  by_cases hu : ∃ t, unescape x = some t
  · obtain ⟨t, hu⟩ := hu
    have HR := Lib.hid (show setF o 84 x = .ok { o with text := t } by simp [setF, hu])
    have HU := Lib.hid (unRes_some hu)
    clear hu
    go_enter Tryz.func62, Tryz.ntmps62
    go_wp2_with fail
    refine (refUnescape_any ⟨x.toArray⟩ _ (by rw [mk_size]; omega)).mono ?_
    rintro e w1 ⟨he, hB1⟩
    obtain rfl := he.trans (congrArg Ending.returned HU.out)
    have hs1 := HS0.out.later HBB.out (by have := HW0.out; omega) hB1
    have hbx1 := (hB1.block _ (blk_lt HBX0.out)).trans HBX0.out
    have hz1 := (hB1.block _ (blk_lt HZ0.out)).trans HZ0.out
    obtain ⟨b0, b1, b2, b3, b4, b5⟩ := op_cells hbx1
    obtain ⟨g0, g1, g2, g3, g4, g5⟩ := op_frozen hbx1
    obtain ⟨z0, z1, z2, z3, z4, z5⟩ := op_cells hz1
    obtain ⟨y0, y1, y2, y3, y4, y5⟩ := op_frozen hz1
    have HFS := Lib.hid (show ∀ u0 u1 u2 u3 u4 u5 : Value, _ from fun u0 u1 u2 u3 u4 u5 => (hs1.set HBB.out hbx1 (Nat.le_refl _) 4 (.string ⟨t.toArray⟩)).six HBB.out (b := w.heap.size + 1) ((Below.heap_setCell _ _ _ _ (by simp)).trans hz1) (Nat.le_succ _) u0 u1 u2 u3 u4 u5)
    clear he hB1 hs1 hbx1 hz1 HS0 HBX0 HZ0 HW0
    go_wp2_with fail
    exact bodyPost_ret (v := .tuple #[.agg #[.int .i64 o.kind, .int .i64 o.a, .int .i64 o.b, .string ⟨(o.name).toArray⟩, .string ⟨(t).toArray⟩, .slice A o.list.length c], .int .i64 0]) (by simp [results, Tryz.results62, go_sem, b0, b1, b2, b3, b4, b5, z0, z1, z2, z3, z4, z5]) rfl ⟨{ o with text := t }, A, c, 0, rfl, Or.inl ⟨HR.out, rfl⟩, HFS.out _ _ _ _ _ _⟩
  · have hu : unescape x = none := by
      cases h : unescape x with
      | none => rfl
      | some t => exact absurd ⟨t, h⟩ hu
    have HR := Lib.hid (show setF o 84 x = .error 265 by simp [setF, hu])
    have HU := Lib.hid (unRes_none hu)
    clear hu
    go_enter Tryz.func62, Tryz.ntmps62
    go_wp2_with fail
    refine (refUnescape_any ⟨x.toArray⟩ _ (by rw [mk_size]; omega)).mono ?_
    rintro e w1 ⟨he, hB1⟩
    obtain rfl := he.trans (congrArg Ending.returned HU.out)
    have hs1 := HS0.out.later HBB.out (by have := HW0.out; omega) hB1
    have hbx1 := (hB1.block _ (blk_lt HBX0.out)).trans HBX0.out
    have hz1 := (hB1.block _ (blk_lt HZ0.out)).trans HZ0.out
    obtain ⟨b0, b1, b2, b3, b4, b5⟩ := op_cells hbx1
    obtain ⟨z0, z1, z2, z3, z4, z5⟩ := op_cells hz1
    obtain ⟨y0, y1, y2, y3, y4, y5⟩ := op_frozen hz1
    have HFS := Lib.hid (show ∀ u0 u1 u2 u3 u4 u5 : Value, _ from fun u0 u1 u2 u3 u4 u5 => hs1.six HBB.out (b := w.heap.size + 1) hz1 (Nat.le_succ _) u0 u1 u2 u3 u4 u5)
    clear he hB1 hs1 hbx1 hz1 HS0 HBX0 HZ0 HW0
    go_wp2_with fail
    exact bodyPost_ret (v := .tuple #[.agg #[.int .i64 o.kind, .int .i64 o.a, .int .i64 o.b, .string ⟨o.name.toArray⟩, .string ⟨o.text.toArray⟩, .slice A o.list.length c], .int .i64 265]) (by simp [results, Tryz.results62, go_sem, b0, b1, b2, b3, b4, b5, z0, z1, z2, z3, z4, z5]) rfl ⟨o, A, c, 265, rfl, Or.inr ⟨HR.out, by decide⟩, HFS.out _ _ _ _ _ _⟩

set_option maxHeartbeats 8000000 in
set_option maxRecDepth 100000 in
theorem filled_bad (o : POp) (f : UInt8) (x : By) (A : Option Addr) (c : Nat) (w : World) {B : Nat} (hB : B ≤ w.heap.size) (hown : w.ownsRow B 3 1 (.slice A o.list.length c) o.list.length (nums .i64 o.list)) (hx : x.length ≤ 33554432) (hl : o.list.length ≤ 33554432) (n78 : f ≠ 78) (n84 : f ≠ 84) (hm : numR x = none) :
    Calls Tryz.prog 62 #[.agg #[.int .i64 o.kind, .int .i64 o.a, .int .i64 o.b, .string ⟨o.name.toArray⟩, .string ⟨o.text.toArray⟩, .slice A o.list.length c], .int .u8 f.toNat, .string ⟨x.toArray⟩] w (FillPost B w (Value.slice A o.list.length c).ownBlock (setF o f x)) := by
  obtain ⟨hs0, hbx0, hz0⟩ := fs_start hB hown _ rfl
  have HS0 := Lib.hid hs0
  have HBX0 := Lib.hid hbx0
  have HZ0 := Lib.hid hz0
  have HBB := Lib.hid hB
  have hW0 : w.heap.size + 2 = ((w.alloc (.cells #[.int .i64 o.kind, .int .i64 o.a, .int .i64 o.b, .string ⟨o.name.toArray⟩, .string ⟨o.text.toArray⟩, .slice A o.list.length c] 44)).alloc (.cells zeroOp 44)).heap.size := by simp
  have HW0 := Lib.hid hW0
  have HOL := Lib.hid (own_lt hown)
  have HTW := Lib.hid (fs_two hB hown)
  unfold zeroOp at HS0 HBX0 HZ0 HW0
  clear hs0 hbx0 hz0 hB hW0 hown
  have e78 : ((f.toNat : Int) == 78) = false := toNat_ne n78
  have e84 : ((f.toNat : Int) == 84) = false := toNat_ne n84
  have HR := Lib.hid (show setF o f x = .error 262 by { unfold setF; rw [if_neg n78, if_neg n84, hm] })
  have HM := Lib.hid hm
  clear hm HS0 HBX0 HZ0 HW0
  go_enter Tryz.func62, Tryz.ntmps62
  go_wp2_with fail
  refine (refNumber_fail ⟨x.toArray⟩ (by rw [mk_size]; omega) HM.out _).mono ?_
  rintro e w1 ⟨⟨v, rfl⟩, rfl⟩
  go_wp2_with fail
  exact bodyPost_ret (v := .tuple #[.agg #[.int .i64 o.kind, .int .i64 o.a, .int .i64 o.b, .string ⟨o.name.toArray⟩, .string ⟨o.text.toArray⟩, .slice A o.list.length c], .int .i64 262]) (by simp [results, Tryz.results62, go_sem]) rfl ⟨o, A, c, 262, rfl, Or.inr ⟨HR.out, by decide⟩, HTW.out _ _⟩

set_option maxHeartbeats 8000000 in
set_option maxRecDepth 100000 in
theorem filled_a (o : POp) (f : UInt8) (x : By) (A : Option Addr) (c : Nat) (w : World) {B : Nat} (hB : B ≤ w.heap.size) (hown : w.ownsRow B 3 1 (.slice A o.list.length c) o.list.length (nums .i64 o.list)) (hx : x.length ≤ 33554432) (hl : o.list.length ≤ 33554432) (hf : f = 65) (q : Int) (hm : numR x = some q) :
    Calls Tryz.prog 62 #[.agg #[.int .i64 o.kind, .int .i64 o.a, .int .i64 o.b, .string ⟨o.name.toArray⟩, .string ⟨o.text.toArray⟩, .slice A o.list.length c], .int .u8 f.toNat, .string ⟨x.toArray⟩] w (FillPost B w (Value.slice A o.list.length c).ownBlock (setF o f x)) := by
  obtain ⟨hs0, hbx0, hz0⟩ := fs_start hB hown _ rfl
  have HS0 := Lib.hid hs0
  have HBX0 := Lib.hid hbx0
  have HZ0 := Lib.hid hz0
  have HBB := Lib.hid hB
  have hW0 : w.heap.size + 2 = ((w.alloc (.cells #[.int .i64 o.kind, .int .i64 o.a, .int .i64 o.b, .string ⟨o.name.toArray⟩, .string ⟨o.text.toArray⟩, .slice A o.list.length c] 44)).alloc (.cells zeroOp 44)).heap.size := by simp
  have HW0 := Lib.hid hW0
  have HOL := Lib.hid (own_lt hown)
  have HTW := Lib.hid (fs_two hB hown)
  unfold zeroOp at HS0 HBX0 HZ0 HW0
  clear hs0 hbx0 hz0 hB hW0 hown
  subst hf
  have n78 : (65 : UInt8) ≠ 78 := by decide
  have n84 : (65 : UInt8) ≠ 84 := by decide
  have HR := Lib.hid (show setF o 65 x = .ok { o with a := q } by { unfold setF; rw [if_neg n78, if_neg n84, hm]; rfl })
  have HM := Lib.hid hm
  clear hm HS0 HBX0 HZ0 HW0
  go_enter Tryz.func62, Tryz.ntmps62
  go_wp2_with fail
  refine (refNumber_good ⟨x.toArray⟩ (by rw [mk_size]; omega) q HM.out _).mono ?_
  rintro e w1 ⟨rfl, rfl⟩
  go_wp2_with fail
  exact bodyPost_ret (v := .tuple #[.agg #[.int .i64 o.kind, .int .i64 q, .int .i64 o.b, .string ⟨(o.name).toArray⟩, .string ⟨(o.text).toArray⟩, .slice A o.list.length c], .int .i64 0]) (by simp [results, Tryz.results62, go_sem]) rfl ⟨{ o with a := q }, A, c, 0, rfl, Or.inl ⟨HR.out, rfl⟩, HTW.out _ _⟩

set_option maxHeartbeats 8000000 in
set_option maxRecDepth 100000 in
theorem filled_b (o : POp) (f : UInt8) (x : By) (A : Option Addr) (c : Nat) (w : World) {B : Nat} (hB : B ≤ w.heap.size) (hown : w.ownsRow B 3 1 (.slice A o.list.length c) o.list.length (nums .i64 o.list)) (hx : x.length ≤ 33554432) (hl : o.list.length ≤ 33554432) (hf : f = 66) (q : Int) (hm : numR x = some q) :
    Calls Tryz.prog 62 #[.agg #[.int .i64 o.kind, .int .i64 o.a, .int .i64 o.b, .string ⟨o.name.toArray⟩, .string ⟨o.text.toArray⟩, .slice A o.list.length c], .int .u8 f.toNat, .string ⟨x.toArray⟩] w (FillPost B w (Value.slice A o.list.length c).ownBlock (setF o f x)) := by
  obtain ⟨hs0, hbx0, hz0⟩ := fs_start hB hown _ rfl
  have HS0 := Lib.hid hs0
  have HBX0 := Lib.hid hbx0
  have HZ0 := Lib.hid hz0
  have HBB := Lib.hid hB
  have hW0 : w.heap.size + 2 = ((w.alloc (.cells #[.int .i64 o.kind, .int .i64 o.a, .int .i64 o.b, .string ⟨o.name.toArray⟩, .string ⟨o.text.toArray⟩, .slice A o.list.length c] 44)).alloc (.cells zeroOp 44)).heap.size := by simp
  have HW0 := Lib.hid hW0
  have HOL := Lib.hid (own_lt hown)
  have HTW := Lib.hid (fs_two hB hown)
  unfold zeroOp at HS0 HBX0 HZ0 HW0
  clear hs0 hbx0 hz0 hB hW0 hown
  subst hf
  have n78 : (66 : UInt8) ≠ 78 := by decide
  have n84 : (66 : UInt8) ≠ 84 := by decide
  have HR := Lib.hid (show setF o 66 x = .ok { o with b := q } by { unfold setF; rw [if_neg n78, if_neg n84, hm]; rfl })
  have HM := Lib.hid hm
  clear hm HS0 HBX0 HZ0 HW0
  go_enter Tryz.func62, Tryz.ntmps62
  go_wp2_with fail
  refine (refNumber_good ⟨x.toArray⟩ (by rw [mk_size]; omega) q HM.out _).mono ?_
  rintro e w1 ⟨rfl, rfl⟩
  go_wp2_with fail
  exact bodyPost_ret (v := .tuple #[.agg #[.int .i64 o.kind, .int .i64 o.a, .int .i64 q, .string ⟨(o.name).toArray⟩, .string ⟨(o.text).toArray⟩, .slice A o.list.length c], .int .i64 0]) (by simp [results, Tryz.results62, go_sem]) rfl ⟨{ o with b := q }, A, c, 0, rfl, Or.inl ⟨HR.out, rfl⟩, HTW.out _ _⟩

set_option maxHeartbeats 8000000 in
set_option maxRecDepth 100000 in
theorem filled_list (o : POp) (f : UInt8) (x : By) (A : Option Addr) (c : Nat) (w : World) {B : Nat} (hB : B ≤ w.heap.size) (hown : w.ownsRow B 3 1 (.slice A o.list.length c) o.list.length (nums .i64 o.list)) (hx : x.length ≤ 33554432) (hl : o.list.length ≤ 33554432) (n78 : f ≠ 78) (n84 : f ≠ 84) (n65 : f ≠ 65) (n66 : f ≠ 66) (q : Int) (hm : numR x = some q) :
    Calls Tryz.prog 62 #[.agg #[.int .i64 o.kind, .int .i64 o.a, .int .i64 o.b, .string ⟨o.name.toArray⟩, .string ⟨o.text.toArray⟩, .slice A o.list.length c], .int .u8 f.toNat, .string ⟨x.toArray⟩] w (FillPost B w (Value.slice A o.list.length c).ownBlock (setF o f x)) := by
  obtain ⟨hs0, hbx0, hz0⟩ := fs_start hB hown _ rfl
  have HS0 := Lib.hid hs0
  have HBX0 := Lib.hid hbx0
  have HZ0 := Lib.hid hz0
  have HBB := Lib.hid hB
  have hW0 : w.heap.size + 2 = ((w.alloc (.cells #[.int .i64 o.kind, .int .i64 o.a, .int .i64 o.b, .string ⟨o.name.toArray⟩, .string ⟨o.text.toArray⟩, .slice A o.list.length c] 44)).alloc (.cells zeroOp 44)).heap.size := by simp
  have HW0 := Lib.hid hW0
  have HOL := Lib.hid (own_lt hown)
  have HTW := Lib.hid (fs_two hB hown)
  unfold zeroOp at HS0 HBX0 HZ0 HW0
  clear hs0 hbx0 hz0 hB hW0 hown
  have e78 : ((f.toNat : Int) == 78) = false := toNat_ne n78
  have e84 : ((f.toNat : Int) == 84) = false := toNat_ne n84
  have e65 : ((f.toNat : Int) == 65) = false := toNat_ne n65
  have e66 : ((f.toNat : Int) == 66) = false := toNat_ne n66
  have HR := Lib.hid (show setF o f x = .ok { o with list := o.list ++ [q] } by { unfold setF; rw [if_neg n78, if_neg n84, hm]; simp [n65, n66] })
  have HM := Lib.hid hm
  clear hm
  go_enter Tryz.func62, Tryz.ntmps62
  go_wp2_with fail
  refine (refNumber_good ⟨x.toArray⟩ (by rw [mk_size]; omega) q HM.out _).mono ?_
  rintro e w1 ⟨rfl, rfl⟩
  go_wp2_with (at_builtin; go_must (refine print_append_num (w0 := w) B rfl (.tmp 44) (.tmp 46) 42 3 .i64 8 rfl Tryz.underlying42 info_int (by decide) (.slice A o.list.length c) o.list q rfl ?hx ?HO ?HB ?hbase ?hl ?_))
  case hx => show Value.slice (some ⟨w.heap.size + 1 + 1, 0, none⟩) 1 1 = _; simp
  case HO => exact HS0.out.own
  case HB => exact HS0.out.below
  case hbase => have := HW0.out; have := HBB.out; simp; omega
  case hl => omega
  intro v1 w2 hown2 hB2 hg2 _
  have hne : ∀ k, w.heap.size ≤ k → some k ≠ (Value.slice A o.list.length c).ownBlock := fun k hk e => by have := HOL.out k e.symm; omega
  have hbx2 := (hg2.block _ (blk_lt HBX0.out) (hne _ (Nat.le_refl _))).trans HBX0.out
  have hz2 := (hg2.block _ (blk_lt HZ0.out) (hne _ (Nat.le_succ _))).trans HZ0.out
  have hs2 : FS B w (Value.slice A o.list.length c).ownBlock v1 (o.list ++ [q]) w2 := ⟨by have := hown2; simpa using this, hB2, fun k hk hn => (hg2.block k (by have := HW0.out; omega) hn).trans (HS0.out.kept k hk hn)⟩
  obtain ⟨A1, c1, rfl⟩ := own_slice hs2.own
  obtain ⟨d0, d1, d2, d3, d4, d5⟩ := op_cells hbx2
  obtain ⟨g0, g1, g2, g3, g4, g5⟩ := op_frozen hbx2
  obtain ⟨z0, z1, z2, z3, z4, z5⟩ := op_cells hz2
  obtain ⟨y0, y1, y2, y3, y4, y5⟩ := op_frozen hz2
  have HFS := Lib.hid (show ∀ u u0 u1 u2 u3 u4 u5 : Value, _ from fun u u0 u1 u2 u3 u4 u5 => (hs2.set HBB.out hbx2 (Nat.le_refl _) 5 u).six HBB.out (b := w.heap.size + 1) ((Below.heap_setCell _ _ _ _ (by simp)).trans hz2) (Nat.le_succ _) u0 u1 u2 u3 u4 u5)
  clear hown2 hB2 hg2 hbx2 hz2 hs2 HS0 HBX0 HZ0 HW0 hne
  go_wp2_with fail
  exact bodyPost_ret (v := .tuple #[.agg #[.int .i64 o.kind, .int .i64 o.a, .int .i64 o.b, .string ⟨(o.name).toArray⟩, .string ⟨(o.text).toArray⟩, .slice A1 (o.list ++ [q]).length c1], .int .i64 0]) (by simp [results, Tryz.results62, go_sem, d0, d1, d2, d3, d4, d5, z0, z1, z2, z3, z4, z5]) rfl ⟨{ o with list := o.list ++ [q] }, A1, c1, 0, rfl, Or.inl ⟨HR.out, rfl⟩, HFS.out _ _ _ _ _ _ _⟩

set_option maxHeartbeats 8000000 in
set_option maxRecDepth 100000 in
theorem refFilled_any (o : POp) (f : UInt8) (x : By) (A : Option Addr) (c : Nat) (w : World) {B : Nat} (hB : B ≤ w.heap.size) (hown : w.ownsRow B 3 1 (.slice A o.list.length c) o.list.length (nums .i64 o.list)) (hx : x.length ≤ 33554432) (hl : o.list.length ≤ 33554432)  :
    Calls Tryz.prog 62 #[.agg #[.int .i64 o.kind, .int .i64 o.a, .int .i64 o.b, .string ⟨o.name.toArray⟩, .string ⟨o.text.toArray⟩, .slice A o.list.length c], .int .u8 f.toNat, .string ⟨x.toArray⟩] w (FillPost B w (Value.slice A o.list.length c).ownBlock (setF o f x)) := by
  by_cases n78 : f = 78
  · exact filled_name o f x A c w hB hown hx hl n78
  by_cases n84 : f = 84
  · exact filled_text o f x A c w hB hown hx hl n84
  cases hm : numR x with
  | none => exact filled_bad o f x A c w hB hown hx hl n78 n84 hm
  | some q =>
    by_cases n65 : f = 65
    · exact filled_a o f x A c w hB hown hx hl n65 q hm
    by_cases n66 : f = 66
    · exact filled_b o f x A c w hB hown hx hl n66 q hm
    exact filled_list o f x A c w hB hown hx hl n78 n84 n65 n66 q hm
end Go.Proofs.YtbpackopicngmaaGreatDoor
