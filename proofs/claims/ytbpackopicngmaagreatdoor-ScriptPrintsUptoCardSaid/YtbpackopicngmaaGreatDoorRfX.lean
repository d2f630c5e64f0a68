/- Merged out of RfK RfD RfE RfL RfM RfN by gen/merge.py (a claim has at most 60 files). -/
import Derived.Test.YtbpackopicngmaaGreatDoorLwBk
import Derived.Test.YtbpackopicngmaaGreatDoorRfWd
import Derived.Test.YtbpackopicngmaaGreatDoorLwEsc
import Derived.Test.YtbpackopicngmaaGreatDoorPrP
import Derived.ArgAppend
import Derived.Lib.SmallJoins
namespace Go.Proofs.Sc
/-- What is left of a step if but the fields of G are kept. -/
def keptTo (o : POp) (G : By) : POp := ⟨o.kind, if 65 ∈ G then o.a else 0, if 66 ∈ G then o.b else 0, if 78 ∈ G then o.name else [], if 84 ∈ G then o.text else [], if 76 ∈ G then o.list else []⟩
theorem keptTo_nil (o : POp) : keptTo o [] = ⟨o.kind, 0, 0, [], [], []⟩ := by simp [keptTo]
theorem keptTo_a (o : POp) (G : By) : keptTo o (G ++ [65]) = { keptTo o G with a := o.a } := by simp [keptTo]
theorem keptTo_b (o : POp) (G : By) : keptTo o (G ++ [66]) = { keptTo o G with b := o.b } := by simp [keptTo]
theorem keptTo_n (o : POp) (G : By) : keptTo o (G ++ [78]) = { keptTo o G with name := o.name } := by simp [keptTo]
theorem keptTo_t (o : POp) (G : By) : keptTo o (G ++ [84]) = { keptTo o G with text := o.text } := by simp [keptTo]
theorem keptTo_l (o : POp) (G : By) : keptTo o (G ++ [76]) = { keptTo o G with list := o.list } := by simp [keptTo]
theorem spare_kept (o : POp) : spare o = false ↔ o = keptTo o (fieldsOf o.kind) := by
  obtain ⟨k, a, b, nm, tx, l⟩ := o
  simp only [spare, keptTo, POp.mk.injEq, true_and]
  by_cases h1 : (65 : UInt8) ∈ fieldsOf k <;> by_cases h2 : (66 : UInt8) ∈ fieldsOf k <;> by_cases h3 : (78 : UInt8) ∈ fieldsOf k <;> by_cases h4 : (84 : UInt8) ∈ fieldsOf k <;> by_cases h5 : (76 : UInt8) ∈ fieldsOf k <;>
    simp [h1, h2, h3, h4, h5] <;> (constructor <;> intro h <;> simp_all)
end Go.Proofs.Sc
namespace Go.Proofs.YtbpackopicngmaaGreatDoor
open Go.RowKit Go.Proofs.Sc Go.Proofs.YtbpackopicngmaaGreatDoorW.PrintWords

theorem refSmall_any (n : Int) (w : World) : Calls Tryz.prog 39 #[.int .i64 n] w fun e w' => e = .returned (.bool (decide (Sc.bounded n))) ∧ w = w' := by
  by_cases h1 : (-2147483647 : Int) ≤ n
  · have k1 : decide ((-2147483647 : Int) ≤ n) = true := by simpa using h1
    by_cases h2 : n ≤ 2147483647
    · have k2 : decide (n ≤ 2147483647) = true := by simpa using h2
      have hr : decide (Sc.bounded n) = true := by simp [Sc.bounded, h1, h2]
      rw [hr]
      clear h1 h2 hr
      go_enter Tryz.func39, Tryz.ntmps39
      go_wp2
      go_ret
      exact ⟨rfl, rfl⟩
    · have k2 : decide (n ≤ 2147483647) = false := by simp; omega
      have hr : decide (Sc.bounded n) = false := decide_eq_false (fun h => h2 h.2)
      rw [hr]
      clear h1 h2 hr
      go_enter Tryz.func39, Tryz.ntmps39
      go_wp2
      go_ret
      exact ⟨rfl, rfl⟩
  · have k1 : decide ((-2147483647 : Int) ≤ n) = false := by simp; omega
    have hr : decide (Sc.bounded n) = false := decide_eq_false (fun h => h1 h.1)
    rw [hr]
    clear h1 hr
    go_enter Tryz.func39, Tryz.ntmps39
    go_wp2
    go_ret
    exact ⟨rfl, rfl⟩

structure KS (w : World) (o : POp) (A : Option Addr) (c : Nat) (q : POp) (kA : Option Addr) (kc : Nat) (W : World) : Prop where
  box : W.heap[w.heap.size]? = some (.cells #[.int .i64 o.kind, .int .i64 o.a, .int .i64 o.b, .string ⟨o.name.toArray⟩, .string ⟨o.text.toArray⟩, .slice A o.list.length c] 44 (0, 0))
  res : W.heap[w.heap.size + 1]? = some (.cells #[.int .i64 0, .int .i64 0, .int .i64 0, .string ⟨#[]⟩, .string ⟨#[]⟩, .slice none 0 0] 44 (0, 0))
  t3 : W.heap[w.heap.size + 2]? = some (.cells #[.int .i64 q.kind, .int .i64 q.a, .int .i64 q.b, .string ⟨q.name.toArray⟩, .string ⟨q.text.toArray⟩, .slice kA q.list.length kc] 44 (0, 0))
  below : Below w.heap.size w W

def KQ (o : POp) (A : Option Addr) (c : Nat) (G : By) (q : POp) (kA : Option Addr) (kc : Nat) : Prop := q = keptTo o G ∧ ((76 ∈ G ∧ kA = A ∧ kc = c) ∨ (76 ∉ G ∧ kA = none ∧ kc = 0))

section
variable {w W : World} {o q : POp} {A kA : Option Addr} {c kc : Nat} {G : By}
theorem KS.later {W1 : World} (h : KS w o A c q kA kc W) (hb : Below W.heap.size W W1) : KS w o A c q kA kc W1 :=
  ⟨(hb.block _ (blk_lt h.box)).trans h.box, (hb.block _ (blk_lt h.res)).trans h.res, (hb.block _ (blk_lt h.t3)).trans h.t3, h.below.trans (hb.mono h.below.size)⟩
theorem KS.a (h : KS w o A c q kA kc W) : KS w o A c { q with a := o.a } kA kc (W.setCell ⟨w.heap.size + 2, 1, none⟩ (.int .i64 o.a)) :=
  ⟨(Below.heap_setCell _ _ _ _ (by simp)).trans h.box, (Below.heap_setCell _ _ _ _ (by simp)).trans h.res, blk_set h.t3 1 _, h.below.setCell (by simp) _⟩
theorem KS.b (h : KS w o A c q kA kc W) : KS w o A c { q with b := o.b } kA kc (W.setCell ⟨w.heap.size + 2, 2, none⟩ (.int .i64 o.b)) :=
  ⟨(Below.heap_setCell _ _ _ _ (by simp)).trans h.box, (Below.heap_setCell _ _ _ _ (by simp)).trans h.res, blk_set h.t3 2 _, h.below.setCell (by simp) _⟩
theorem KS.n (h : KS w o A c q kA kc W) : KS w o A c { q with name := o.name } kA kc (W.setCell ⟨w.heap.size + 2, 3, none⟩ (.string ⟨o.name.toArray⟩)) :=
  ⟨(Below.heap_setCell _ _ _ _ (by simp)).trans h.box, (Below.heap_setCell _ _ _ _ (by simp)).trans h.res, blk_set h.t3 3 _, h.below.setCell (by simp) _⟩
theorem KS.t (h : KS w o A c q kA kc W) : KS w o A c { q with text := o.text } kA kc (W.setCell ⟨w.heap.size + 2, 4, none⟩ (.string ⟨o.text.toArray⟩)) :=
  ⟨(Below.heap_setCell _ _ _ _ (by simp)).trans h.box, (Below.heap_setCell _ _ _ _ (by simp)).trans h.res, blk_set h.t3 4 _, h.below.setCell (by simp) _⟩
theorem KS.l (h : KS w o A c q kA kc W) : KS w o A c { q with list := o.list } A c (W.setCell ⟨w.heap.size + 2, 5, none⟩ (.slice A o.list.length c)) :=
  ⟨(Below.heap_setCell _ _ _ _ (by simp)).trans h.box, (Below.heap_setCell _ _ _ _ (by simp)).trans h.res, blk_set h.t3 5 _, h.below.setCell (by simp) _⟩
theorem KQ.a (h : KQ o A c G q kA kc) : KQ o A c (G ++ [65]) { q with a := o.a } kA kc := by
  obtain ⟨rfl, h⟩ := h; exact ⟨(keptTo_a o G).symm, by simpa using h⟩
theorem KQ.b (h : KQ o A c G q kA kc) : KQ o A c (G ++ [66]) { q with b := o.b } kA kc := by
  obtain ⟨rfl, h⟩ := h; exact ⟨(keptTo_b o G).symm, by simpa using h⟩
theorem KQ.n (h : KQ o A c G q kA kc) : KQ o A c (G ++ [78]) { q with name := o.name } kA kc := by
  obtain ⟨rfl, h⟩ := h; exact ⟨(keptTo_n o G).symm, by simpa using h⟩
theorem KQ.t (h : KQ o A c G q kA kc) : KQ o A c (G ++ [84]) { q with text := o.text } kA kc := by
  obtain ⟨rfl, h⟩ := h; exact ⟨(keptTo_t o G).symm, by simpa using h⟩
theorem KQ.l (h : KQ o A c G q kA kc) : KQ o A c (G ++ [76]) { q with list := o.list } A c := by
  obtain ⟨rfl, _⟩ := h; exact ⟨(keptTo_l o G).symm, Or.inl ⟨by simp, rfl, rfl⟩⟩
end

theorem KS.start (w : World) (o : POp) (A : Option Addr) (c : Nat) : KS w o A c ⟨o.kind, 0, 0, [], [], []⟩ none 0 (((w.alloc (.cells #[.int .i64 o.kind, .int .i64 o.a, .int .i64 o.b, .string ⟨o.name.toArray⟩, .string ⟨o.text.toArray⟩, .slice A o.list.length c] 44)).alloc (.cells #[.int .i64 0, .int .i64 0, .int .i64 0, .string ⟨#[]⟩, .string ⟨#[]⟩, .slice none 0 0] 44)).alloc (.cells #[.int .i64 o.kind, .int .i64 0, .int .i64 0, .string ⟨#[]⟩, .string ⟨#[]⟩, .slice none 0 0] 44)) :=
  ⟨(Below.heap_alloc _ _ _ (by simp; omega)).trans ((Below.heap_alloc _ _ _ (by simp)).trans (heap_alloc_new w _)), (Below.heap_alloc _ _ _ (by simp)).trans (new_at _ _ _ (by simp)), new_at _ _ _ (by simp), (((Below.refl _ _).alloc (Nat.le_refl _) _).alloc (by simp) _).alloc (by simp; omega) _⟩

set_option maxHeartbeats 8000000 in
set_option maxRecDepth 100000 in
theorem refKept_any (o : POp) (A : Option Addr) (c : Nat) (w : World) (hk : Sc.kindOk o.kind) : Calls Tryz.prog 68 #[.agg #[.int .i64 o.kind, .int .i64 o.a, .int .i64 o.b, .string ⟨o.name.toArray⟩, .string ⟨o.text.toArray⟩, .slice A o.list.length c]] w fun e w' =>
    (∃ (q : POp) (kA : Option Addr) (kc : Nat), e = .returned (.agg #[.int .i64 q.kind, .int .i64 q.a, .int .i64 q.b, .string ⟨q.name.toArray⟩, .string ⟨q.text.toArray⟩, .slice kA q.list.length kc]) ∧ KQ o A c (fieldsOf o.kind) q kA kc) ∧ Below w.heap.size w w' := by
  have HST := Lib.hid (KS.start w o A c)
  have HK := Lib.hid hk
  have HF5 := Lib.hid (fields_mem hk)
  obtain ⟨F, hF⟩ : ∃ F, F = fieldsOf o.kind := ⟨_, rfl⟩
  obtain ⟨m, hm⟩ : ∃ m, m = F.length := ⟨_, rfl⟩
  have hfs : (⟨F.toArray⟩ : ByteArray).size = m := by rw [mk_size, hm]
  have hm4 : m ≤ 4 := by
    rw [hm, hF]
    obtain ⟨i, hi⟩ := wordOf_nat hk
    have : ∀ i : Fin 19, (fieldsOf ((i.val : Int) + 1)).length ≤ 4 := by decide +kernel
    rw [hi]; exact this i
  rw [← hF] at HF5 ⊢
  have HF := Lib.hid hF
  have HM := Lib.hid hm
  clear hF hm hk
  go_enter Tryz.func68, Tryz.ntmps68
  go_wp2_with fail
  refine (refFields_any o.kind HK.out _).mono ?_
  rw [← HF.out]
  rintro e w1 ⟨rfl, hB1⟩
  have HS1 := Lib.hid (HST.out.later hB1)
  clear HST hB1
  go_wp2_with fail
  go_loopw [5] (fun v wr => ∃ (i : Nat) (q : POp) (kA : Option Addr) (kc : Nat), v = .int .i64 (i : Int) ∧ i ≤ m ∧ Hid (KS w o A c q kA kc wr) ∧ Hid (KQ o A c (F.take i) q kA kc)) (fun v _ => m - (intOf v).toNat)
  case atStart => exact ⟨0, ⟨o.kind, 0, 0, [], [], []⟩, none, 0, rfl, Nat.zero_le _, HS1, Lib.hid ⟨(keptTo_nil o).symm, Or.inr ⟨by simp, rfl, rfl⟩⟩⟩
  case round =>
  clear HS1
  obtain ⟨i, q, kA, kc, rfl, hi, hS, hQ⟩ := hrel
  by_cases hlt : i < m
  · obtain ⟨f, hf⟩ : ∃ f, F[i]? = some f := ⟨F[i]'(by rw [← HM.out]; exact hlt), List.getElem?_eq_getElem _⟩
    have hb : ∀ h, (⟨F.toArray⟩ : ByteArray)[i]'h = f := fun h => list_at _ i f hf h
    have HTK := Lib.hid (show F.take (i + 1) = F.take i ++ [f] by rw [List.take_add_one, hf]; rfl)
    have h5 := HF5.out f (List.mem_of_getElem? hf)
    have hS' := hS.out
    obtain ⟨x0, x1, x2, x3, x4, x5⟩ := op_cells hS'.box
    obtain ⟨b0, b1, b2, b3, b4, b5⟩ := op_cells hS'.t3
    obtain ⟨g0, g1, g2, g3, g4, g5⟩ : wr.frozen? ⟨w.heap.size + 2, 0, none⟩ = false ∧ wr.frozen? ⟨w.heap.size + 2, 1, none⟩ = false ∧ wr.frozen? ⟨w.heap.size + 2, 2, none⟩ = false ∧ wr.frozen? ⟨w.heap.size + 2, 3, none⟩ = false ∧ wr.frozen? ⟨w.heap.size + 2, 4, none⟩ = false ∧ wr.frozen? ⟨w.heap.size + 2, 5, none⟩ = false := ⟨blk_frozen hS'.t3 0, blk_frozen hS'.t3 1, blk_frozen hS'.t3 2, blk_frozen hS'.t3 3, blk_frozen hS'.t3 4, blk_frozen hS'.t3 5⟩
    clear hf hS'
    rcases h5 with rfl | rfl | rfl | rfl | rfl
    · have HS2 := Lib.hid hS.out.n
      have HQ2 := Lib.hid hQ.out.n
      rw [← HTK.out] at HQ2
      clear hS hQ HTK
      go_wp2_with fail
      go_roundw
      case rel => exact ⟨i + 1, _, _, _, by go_num, hlt, HS2, HQ2⟩
      case measure => simp [intOf]; omega
    · have HS2 := Lib.hid hS.out.t
      have HQ2 := Lib.hid hQ.out.t
      rw [← HTK.out] at HQ2
      clear hS hQ HTK
      go_wp2_with fail
      go_roundw
      case rel => exact ⟨i + 1, _, _, _, by go_num, hlt, HS2, HQ2⟩
      case measure => simp [intOf]; omega
    · have HS2 := Lib.hid hS.out.a
      have HQ2 := Lib.hid hQ.out.a
      rw [← HTK.out] at HQ2
      clear hS hQ HTK
      go_wp2_with fail
      go_roundw
      case rel => exact ⟨i + 1, _, _, _, by go_num, hlt, HS2, HQ2⟩
      case measure => simp [intOf]; omega
    · have HS2 := Lib.hid hS.out.b
      have HQ2 := Lib.hid hQ.out.b
      rw [← HTK.out] at HQ2
      clear hS hQ HTK
      go_wp2_with fail
      go_roundw
      case rel => exact ⟨i + 1, _, _, _, by go_num, hlt, HS2, HQ2⟩
      case measure => simp [intOf]; omega
    · have HS2 := Lib.hid hS.out.l
      have HQ2 := Lib.hid hQ.out.l
      rw [← HTK.out] at HQ2
      clear hS hQ HTK
      go_wp2_with fail
      go_roundw
      case rel => exact ⟨i + 1, _, _, _, by go_num, hlt, HS2, HQ2⟩
      case measure => simp [intOf]; omega
  · obtain rfl : i = m := by omega
    have hQ' := hQ.out
    rw [List.take_of_length_le (by rw [← HM.out]; exact Nat.le_refl _)] at hQ'
    have HQ' := Lib.hid hQ'
    have hS' := hS.out
    obtain ⟨b0, b1, b2, b3, b4, b5⟩ := op_cells hS'.t3
    obtain ⟨z0, z1, z2, z3, z4, z5⟩ := op_cells hS'.res
    obtain ⟨y0, y1, y2, y3, y4, y5⟩ : wr.frozen? ⟨w.heap.size + 1, 0, none⟩ = false ∧ wr.frozen? ⟨w.heap.size + 1, 1, none⟩ = false ∧ wr.frozen? ⟨w.heap.size + 1, 2, none⟩ = false ∧ wr.frozen? ⟨w.heap.size + 1, 3, none⟩ = false ∧ wr.frozen? ⟨w.heap.size + 1, 4, none⟩ = false ∧ wr.frozen? ⟨w.heap.size + 1, 5, none⟩ = false := ⟨blk_frozen hS'.res 0, blk_frozen hS'.res 1, blk_frozen hS'.res 2, blk_frozen hS'.res 3, blk_frozen hS'.res 4, blk_frozen hS'.res 5⟩
    have hbw := hS'.below
    clear hlt hQ hQ' hS hS'
    go_wp2_with fail
    exact bodyPost_ret (v := .agg #[.int .i64 q.kind, .int .i64 q.a, .int .i64 q.b, .string ⟨q.name.toArray⟩, .string ⟨q.text.toArray⟩, .slice kA q.list.length kc]) (by simp [results, Tryz.results68, go_sem, z0, z1, z2, z3, z4, z5]) rfl ⟨⟨q, kA, kc, rfl, HQ'.out⟩, six_below hbw (by omega) _ _ _ _ _ _⟩

theorem sameOp_any (o q : POp) (A kA : Option Addr) (c kc : Nat) (w : World) (hC : (Kd.int .i64).C w A o.list.length o.list) (hc : o.list.length ≤ c) (hC1 : (Kd.int .i64).C w kA q.list.length q.list) (hc1 : q.list.length ≤ kc) :
    Calls Tryz.prog 63 #[.agg #[.int .i64 o.kind, .int .i64 o.a, .int .i64 o.b, .string ⟨o.name.toArray⟩, .string ⟨o.text.toArray⟩, .slice A o.list.length c], .agg #[.int .i64 q.kind, .int .i64 q.a, .int .i64 q.b, .string ⟨q.name.toArray⟩, .string ⟨q.text.toArray⟩, .slice kA q.list.length kc]] w fun e w' => (∃ r : Bool, e = .returned (.bool r) ∧ (r = true ↔ o = q)) ∧ Below w.heap.size w w' := by
  obtain ⟨r, h1, h2⟩ := op_f o q hC.2.1 (o.list.length + 1) (by omega)
  exact (Pr.pithref_SameOp.calls (o.list.length + 1) o.kind o.a o.b ⟨o.name.toArray⟩ ⟨o.text.toArray⟩ A c o.list q.kind q.a q.b ⟨q.name.toArray⟩ ⟨q.text.toArray⟩ kA kc q.list r w hC hc hC1 hc1 h1).mono fun e w' ⟨h4, h5⟩ => ⟨⟨r, h4, h2⟩, h5⟩

theorem KQ.reads {o q : POp} {A kA : Option Addr} {c kc : Nat} {G : By} {W : World} (h : KQ o A c G q kA kc) (hC : (Kd.int .i64).C W A o.list.length o.list) (hc : o.list.length ≤ c) : (Kd.int .i64).C W kA q.list.length q.list ∧ q.list.length ≤ kc := by
  obtain ⟨rfl, ⟨h1, rfl, rfl⟩ | ⟨h1, rfl, rfl⟩⟩ := h
  · have e : (keptTo o G).list = o.list := by simp [keptTo, h1]
    rw [e]; exact ⟨hC, hc⟩
  · have e : (keptTo o G).list = [] := by simp [keptTo, h1]
    rw [e]; exact ⟨Kd.C_nil _ _, Nat.le_refl _⟩

theorem os_one {w W : World} {o : POp} {A : Option Addr} {c : Nat} (h : W.heap[w.heap.size]? = some (.cells #[.int .i64 o.kind, .int .i64 o.a, .int .i64 o.b, .string ⟨o.name.toArray⟩, .string ⟨o.text.toArray⟩, .slice A o.list.length c] 44 (0, 0))) (hb : Below w.heap.size w W) : W.cell? ⟨w.heap.size, 0, none⟩ = some (.int .i64 o.kind) ∧ W.cell? ⟨w.heap.size, 1, none⟩ = some (.int .i64 o.a) ∧ W.cell? ⟨w.heap.size, 2, none⟩ = some (.int .i64 o.b) ∧ W.cell? ⟨w.heap.size, 3, none⟩ = some (.string ⟨o.name.toArray⟩) ∧ W.cell? ⟨w.heap.size, 4, none⟩ = some (.string ⟨o.text.toArray⟩) ∧ W.cell? ⟨w.heap.size, 5, none⟩ = some (.slice A o.list.length c) ∧ Below w.heap.size w W := by
  obtain ⟨h0, h1, h2, h3, h4, h5⟩ := op_cells h
  exact ⟨h0, h1, h2, h3, h4, h5, hb⟩

set_option maxHeartbeats 8000000 in
set_option maxRecDepth 100000 in
theorem refFault_any (o : POp) (A : Option Addr) (c : Nat) (w : World) (hC : (Kd.int .i64).C w A o.list.length o.list) (hc : o.list.length ≤ c) : Calls Tryz.prog 41 #[.agg #[.int .i64 o.kind, .int .i64 o.a, .int .i64 o.b, .string ⟨o.name.toArray⟩, .string ⟨o.text.toArray⟩, .slice A o.list.length c]] w fun e w' => e = .returned (.int .i64 (faultOf o)) ∧ Below w.heap.size w w' := by
  have hb0 : Below w.heap.size w (w.alloc (.cells #[.int .i64 o.kind, .int .i64 o.a, .int .i64 o.b, .string ⟨o.name.toArray⟩, .string ⟨o.text.toArray⟩, .slice A o.list.length c] 44)) := (Below.refl _ _).alloc (Nat.le_refl _) _
  by_cases h1 : o.kind < 1
  · have k1 : decide (o.kind < 1) = true := decide_eq_true h1
    have HR := Lib.hid (show faultOf o = 261 by unfold faultOf Sc.kindOk; rw [if_pos (by omega)])
    clear h1 hC
    go_enter Tryz.func41, Tryz.ntmps41
    go_wp2_with fail
    go_ret
    exact ⟨ret_int HR.out.symm, hb0⟩
  have k1 : decide (o.kind < 1) = false := decide_eq_false h1
  by_cases h2 : 19 < o.kind
  · have k2 : decide (19 < o.kind) = true := decide_eq_true h2
    have HR := Lib.hid (show faultOf o = 261 by unfold faultOf Sc.kindOk; rw [if_pos (by omega)])
    clear h1 h2 hC
    go_enter Tryz.func41, Tryz.ntmps41
    go_wp2_with fail
    go_ret
    exact ⟨ret_int HR.out.symm, hb0⟩
  have k2 : decide (19 < o.kind) = false := decide_eq_false h2
  have HK := Lib.hid (show Sc.kindOk o.kind from ⟨by omega, by omega⟩)
  have HC := Lib.hid hC
  have HCC := Lib.hid hc
  have HFA := Lib.hid (show faultOf o = if spare o then 271 else if ¬ numsOk o then 262 else 0 by unfold faultOf; rw [if_neg (fun h => h HK.out)])
  have HSD := Lib.hid (show (w.alloc (.cells #[.int .i64 o.kind, .int .i64 o.a, .int .i64 o.b, .string ⟨o.name.toArray⟩, .string ⟨o.text.toArray⟩, .slice A o.list.length c] 44)).drew.cell? ⟨w.heap.size, 0, none⟩ = some (.int .i64 o.kind) ∧ (w.alloc (.cells #[.int .i64 o.kind, .int .i64 o.a, .int .i64 o.b, .string ⟨o.name.toArray⟩, .string ⟨o.text.toArray⟩, .slice A o.list.length c] 44)).drew.cell? ⟨w.heap.size, 1, none⟩ = some (.int .i64 o.a) ∧ (w.alloc (.cells #[.int .i64 o.kind, .int .i64 o.a, .int .i64 o.b, .string ⟨o.name.toArray⟩, .string ⟨o.text.toArray⟩, .slice A o.list.length c] 44)).drew.cell? ⟨w.heap.size, 2, none⟩ = some (.int .i64 o.b) ∧ (w.alloc (.cells #[.int .i64 o.kind, .int .i64 o.a, .int .i64 o.b, .string ⟨o.name.toArray⟩, .string ⟨o.text.toArray⟩, .slice A o.list.length c] 44)).drew.cell? ⟨w.heap.size, 3, none⟩ = some (.string ⟨o.name.toArray⟩) ∧ (w.alloc (.cells #[.int .i64 o.kind, .int .i64 o.a, .int .i64 o.b, .string ⟨o.name.toArray⟩, .string ⟨o.text.toArray⟩, .slice A o.list.length c] 44)).drew.cell? ⟨w.heap.size, 4, none⟩ = some (.string ⟨o.text.toArray⟩) ∧ (w.alloc (.cells #[.int .i64 o.kind, .int .i64 o.a, .int .i64 o.b, .string ⟨o.name.toArray⟩, .string ⟨o.text.toArray⟩, .slice A o.list.length c] 44)).drew.cell? ⟨w.heap.size, 5, none⟩ = some (.slice A o.list.length c) ∧ Below w.heap.size w (w.alloc (.cells #[.int .i64 o.kind, .int .i64 o.a, .int .i64 o.b, .string ⟨o.name.toArray⟩, .string ⟨o.text.toArray⟩, .slice A o.list.length c] 44)).drew from os_one (heap_alloc_new w _) hb0.drew)
  have HB0 := Lib.hid hb0
  clear hC hc h1 h2 hb0
  go_enter Tryz.func41, Tryz.ntmps41
  go_wp2_with fail
  go_region_held3 (fun W => W.cell? ⟨w.heap.size, 0, none⟩ = some (.int .i64 o.kind) ∧ W.cell? ⟨w.heap.size, 1, none⟩ = some (.int .i64 o.a) ∧ W.cell? ⟨w.heap.size, 2, none⟩ = some (.int .i64 o.b) ∧ W.cell? ⟨w.heap.size, 3, none⟩ = some (.string ⟨o.name.toArray⟩) ∧ W.cell? ⟨w.heap.size, 4, none⟩ = some (.string ⟨o.text.toArray⟩) ∧ W.cell? ⟨w.heap.size, 5, none⟩ = some (.slice A o.list.length c) ∧ Below w.heap.size w W) (first | with_reducible exact HSD.out | with_reducible exact os_later (by assumption) (by assumption)) (first | (go_at_call 68; refine (refKept_any o A c _ HK.out).mono ?_; rintro e w1 ⟨⟨q, kA, kc, rfl, hQ⟩, hB1⟩) | (go_at_call 63; refine (sameOp_any o q A kA c kc _ (Kd.C_below HC.out (os_below (by assumption))) HCC.out (hQ.reads (Kd.C_below HC.out (os_below (by assumption))) HCC.out).1 (hQ.reads (Kd.C_below HC.out (os_below (by assumption))) HCC.out).2).mono ?_; rintro e w2 ⟨⟨r, rfl, hr⟩, hB2⟩))
  have hS2 := os_later (os_later HSD.out hB1) hB2
  obtain ⟨x0, x1, x2, x3, x4, x5, hBW⟩ := hS2
  have HBW := Lib.hid hBW
  have HRQ := Lib.hid (show r = true ↔ spare o = false by rw [hr, spare_kept, ← hQ.1])
  clear hr hQ hB1 hB2 hBW HSD
  cases r with
  | false =>
    have HR := Lib.hid (show faultOf o = 271 by
      rw [HFA.out, if_pos]
      cases hs : spare o with
      | true => rfl
      | false => exact absurd (HRQ.out.2 hs) (by decide))
    go_wp2_with fail
    go_ret
    exact ⟨ret_int HR.out.symm, HBW.out⟩
  | true =>
    have hsp : spare o = false := HRQ.out.1 rfl
    have HFB := Lib.hid (show faultOf o = if ¬ numsOk o then 262 else 0 by rw [HFA.out, hsp]; rfl)
    clear hsp HRQ HFA
    by_cases ha : Sc.bounded o.a
    · have HA := Lib.hid (show decide (Sc.bounded o.a) = true from decide_eq_true ha)
      have HAA := Lib.hid ha
      clear ha
      by_cases hb : Sc.bounded o.b
      · have HB := Lib.hid (show decide (Sc.bounded o.b) = true from decide_eq_true hb)
        have HBB := Lib.hid hb
        clear hb
        go_wp2_with fail
        refine (refSmall_any o.a _).mono ?_
        rw [HA.out]
        rintro e w3 ⟨rfl, rfl⟩
        go_wp2_with fail
        refine (refSmall_any o.b _).mono ?_
        rw [HB.out]
        rintro e w3 ⟨rfl, rfl⟩
        go_wp2_with fail
        go_loopw [6] (fun v wr => ∃ p : Nat, w2 = wr ∧ p ≤ o.list.length ∧ v = .int .i64 (p : Int) ∧ Hid (∀ x ∈ o.list.take p, Sc.bounded x)) (fun v _ => o.list.length - (intOf v).toNat)
        case atStart => exact ⟨0, rfl, Nat.zero_le _, rfl, by intro x hx; simp at hx⟩
        case round =>
        obtain ⟨p, rfl, hp, rfl, hall⟩ := hrel
        by_cases hlt : p < o.list.length
        · obtain ⟨x, hx⟩ : ∃ x, o.list[p]? = some x := ⟨o.list[p], List.getElem?_eq_getElem hlt⟩
          obtain ⟨ad, hAd, hcell⟩ := Kd.at_int (Kd.C_below HC.out HBW.out) (p : Int) (by omega) (by omega)
          rw [Int.toNat_natCast, show rd o.list (p : Int) = x by simp [rd, hx]] at hcell
          have HX := Lib.hid hx
          have hmx : o.list.length ≤ 9223372036854775807 := HC.out.2.1
          subst hAd
          clear hx
          by_cases hbd : Sc.bounded x
          · have HXB := Lib.hid (show decide (Sc.bounded x) = true from decide_eq_true hbd)
            have HA2 := Lib.hid (show ∀ y ∈ o.list.take (p + 1), Sc.bounded y from by
              intro y hy
              rw [List.take_add_one, HX.out] at hy
              rcases List.mem_append.1 hy with hy | hy
              · exact hall.out y hy
              · simp at hy; rw [hy]; exact hbd)
            clear hbd
            go_wp2_with fail
            refine (refSmall_any x _).mono ?_
            rw [HXB.out]
            rintro e w3 ⟨rfl, rfl⟩
            go_wp2_with fail
            go_roundw
            case rel => exact ⟨p + 1, trivial, hlt, by go_num, HA2⟩
            case measure => simp [intOf]; omega
          · have HXB := Lib.hid (show decide (Sc.bounded x) = false from decide_eq_false hbd)
            have HR := Lib.hid (show faultOf o = 262 by
              rw [HFB.out, if_pos]
              intro h
              exact hbd (h.2.2 x (List.mem_of_getElem? HX.out)))
            clear hbd
            go_wp2_with fail
            refine (refSmall_any x _).mono ?_
            rw [HXB.out]
            rintro e w3 ⟨rfl, rfl⟩
            go_wp2_with fail
            go_ret
            exact ⟨ret_int HR.out.symm, HBW.out⟩
        · have HR := Lib.hid (show faultOf o = 0 by
            rw [HFB.out, if_neg]
            intro h
            exact h ⟨HAA.out, HBB.out, by have := hall.out; rwa [List.take_of_length_le (by omega)] at this⟩)
          have hmx : o.list.length ≤ 9223372036854775807 := HC.out.2.1
          obtain rfl : p = o.list.length := by omega
          clear hlt
          go_wp2_with fail
          go_ret
          exact ⟨ret_int HR.out.symm, HBW.out⟩
      · have HB := Lib.hid (show decide (Sc.bounded o.b) = false from decide_eq_false hb)
        have HR := Lib.hid (show faultOf o = 262 by rw [HFB.out, if_pos (fun h => hb h.2.1)])
        clear hb
        go_wp2_with fail
        refine (refSmall_any o.a _).mono ?_
        rw [HA.out]
        rintro e w3 ⟨rfl, rfl⟩
        go_wp2_with fail
        refine (refSmall_any o.b _).mono ?_
        rw [HB.out]
        rintro e w3 ⟨rfl, rfl⟩
        go_wp2_with fail
        go_ret
        exact ⟨ret_int HR.out.symm, HBW.out⟩
    · have HA := Lib.hid (show decide (Sc.bounded o.a) = false from decide_eq_false ha)
      have HR := Lib.hid (show faultOf o = 262 by rw [HFB.out, if_pos (fun h => ha h.1)])
      clear ha
      go_wp2_with fail
      refine (refSmall_any o.a _).mono ?_
      rw [HA.out]
      rintro e w3 ⟨rfl, rfl⟩
      go_wp2_with fail
      refine (refSmall_any o.b _).mono ?_
      rintro e w3 ⟨rfl, rfl⟩
      go_wp2_with fail
      go_ret
      exact ⟨ret_int HR.out.symm, HBW.out⟩
end Go.Proofs.YtbpackopicngmaaGreatDoor
namespace Go.Proofs.YtbpackopicngmaaGreatDoor
open Go.RowKit Go.Proofs.Sc Go.Proofs.YtbpackopicngmaaGreatDoorW.PrintWords
open Go.Lib (itoa decDigits)

def emitN (u : Nat) : Nat → List Int
  | 0 => [((48 + u % 10 : Nat) : Int)]
  | j + 1 => ((48 + u / 10 ^ (j + 1) % 10 : Nat) : Int) :: emitN u j

theorem emit_step : ∀ (j u : Nat), emitN u (j + 1) = emitN (u / 10) j ++ [((48 + u % 10 : Nat) : Int)]
  | 0, u => by simp [emitN]
  | j + 1, u => by
    have ih := emit_step j u
    have e : u / 10 ^ (j + 1 + 1) = u / 10 / 10 ^ (j + 1) := by rw [Nat.div_div_eq_div_mul, Nat.pow_succ (n := 10), Nat.mul_comm]
    show ((48 + u / 10 ^ (j + 1 + 1) % 10 : Nat) : Int) :: emitN u (j + 1) = (((48 + u / 10 / 10 ^ (j + 1) % 10 : Nat) : Int) :: emitN (u / 10) j) ++ _
    rw [ih, e]; rfl

theorem digit_int (d : Nat) (h : d < 10) : (UInt8.ofNat (48 + d)).toNat = 48 + d := by
  have : ∀ n : Fin 10, (UInt8.ofNat (48 + n.val)).toNat = 48 + n.val := by decide +kernel
  exact this ⟨d, h⟩

theorem emit_dec : ∀ (j u : Nat), u < 10 ^ (j + 1) → (j = 0 ∨ 10 ^ j ≤ u) → emitN u j = ints (decDigits u)
  | 0, u, h, _ => by
    rw [decDigits, dif_pos (by simpa using h)]
    have hu : u < 10 := by simpa using h
    simp only [emitN, ints, List.map_cons, List.map_nil]
    rw [digit_int u hu, Nat.mod_eq_of_lt hu]
  | j + 1, u, h, hg => by
    have hge : 10 ^ (j + 1) ≤ u := by rcases hg with h | h; cases h; exact h
    have h10 : 10 ≤ u := Nat.le_trans (by rw [Nat.pow_succ]; have := Nat.pow_pos (n := j) (show 0 < 10 by decide); omega) hge
    have h1 : u / 10 < 10 ^ (j + 1) := by rw [Nat.div_lt_iff_lt_mul (by decide), ← Nat.pow_succ]; exact h
    have h2 : 10 ^ j ≤ u / 10 := by rw [Nat.le_div_iff_mul_le (by decide), ← Nat.pow_succ]; exact hge
    rw [decDigits, dif_neg (by omega), emit_step, emit_dec j (u / 10) h1 (Or.inr h2)]
    simp only [ints, List.map_append, List.map_cons, List.map_nil]
    rw [digit_int _ (Nat.mod_lt _ (by decide))]

theorem wrap_small {x : Int} (h0 : 0 ≤ x) (h1 : x ≤ 9223372036854775807) : wrap64 x = x := by unfold wrap64; omega

theorem bt_digit (d : Nat) (h : d < 10) : bt (⟨#[48, 49, 50, 51, 52, 53, 54, 55, 56, 57, 97, 98, 99, 100, 101, 102]⟩ : ByteArray) (d : Int) = ((48 + d : Nat) : Int) := by
  have : ∀ n : Fin 10, bt (⟨#[48, 49, 50, 51, 52, 53, 54, 55, 56, 57, 97, 98, 99, 100, 101, 102]⟩ : ByteArray) (n.val : Int) = ((48 + n.val : Nat) : Int) := by decide +kernel
  exact this ⟨d, h⟩

theorem pow_le9 {j : Nat} (h : j ≤ 9) : 10 ^ j ≤ 1000000000 := by
  have : 10 ^ j ≤ 10 ^ 9 := Nat.pow_le_pow_right (by decide) h
  omega

theorem tdiv_nat (a b : Nat) : Int.tdiv (a : Int) (b : Int) = ((a / b : Nat) : Int) := rfl
theorem tmod_nat (a b : Nat) : Int.tmod (a : Int) (b : Int) = ((a % b : Nat) : Int) := rfl

theorem dec_l1 (u : Nat) (hu : u ≤ 2147483647) : ∀ (j k : Nat) (x0 : List Int), j ≤ 9 → j + 2 ≤ k → x0.length + j + 1 ≤ 100000000000000 → PrP.pithref26_decimal.l1 k x0 (u : Int) ((10 ^ j : Nat) : Int) = some (x0 ++ emitN u j) := by
  intro j
  induction j with
  | zero =>
    intro k x0 _ hk hl
    obtain ⟨k, rfl⟩ : ∃ q, k = q + 2 := ⟨k - 2, by omega⟩
    have hd : Int.tdiv (u : Int) ((10 ^ 0 : Nat) : Int) = (u : Int) := by rw [tdiv_nat]; simp
    have hm : Int.tmod (u : Int) 10 = ((u % 10 : Nat) : Int) := tmod_nat u 10
    have hlt : u % 10 < 10 := Nat.mod_lt _ (by decide)
    simp only [PrP.pithref26_decimal.l1]
    rw [hd, wrap_small (by omega) (by omega), hm, if_pos (by decide), if_neg (by decide), if_pos (by omega), if_pos (by omega), if_pos (by omega), bt_digit _ hlt, show Int.tdiv ((10 ^ 0 : Nat) : Int) 10 = 0 from rfl, wrap_small (x := 0) (by decide) (by decide), if_neg (by decide)]
    rfl
  | succ j ih =>
    intro k x0 hj hk hl
    obtain ⟨k, rfl⟩ : ∃ q, k = q + 1 := ⟨k - 1, by omega⟩
    have hp := pow_le9 hj
    have hp0 : 0 < 10 ^ (j + 1) := Nat.pow_pos (by decide)
    obtain ⟨Q, hQ⟩ : ∃ Q, Q = u / 10 ^ (j + 1) := ⟨_, rfl⟩
    have hq : Q ≤ u := by rw [hQ]; exact Nat.div_le_self _ _
    have hd : Int.tdiv (u : Int) ((10 ^ (j + 1) : Nat) : Int) = (Q : Int) := by rw [hQ]; exact tdiv_nat _ _
    have hm : Int.tmod (Q : Int) 10 = ((Q % 10 : Nat) : Int) := tmod_nat _ 10
    have hlt : Q % 10 < 10 := Nat.mod_lt _ (by decide)
    have hn : Int.tdiv ((10 ^ (j + 1) : Nat) : Int) 10 = ((10 ^ j : Nat) : Int) := by
      rw [show (10 : Int) = ((10 : Nat) : Int) from rfl, tdiv_nat, Nat.pow_succ, Nat.mul_div_cancel _ (by decide)]
    have hpj := pow_le9 (show j ≤ 9 by omega)
    have he : emitN u (j + 1) = ((48 + Q % 10 : Nat) : Int) :: emitN u j := by rw [hQ]; rfl
    obtain ⟨p1, hp1⟩ : ∃ p1, p1 = 10 ^ (j + 1) := ⟨_, rfl⟩
    obtain ⟨p2, hp2⟩ : ∃ p2, p2 = 10 ^ j := ⟨_, rfl⟩
    rw [← hp1] at hp hp0 hd hn ⊢
    rw [← hp2] at hpj hn
    have ih' := ih k (x0 ++ [((48 + Q % 10 : Nat) : Int)]) (by omega) (by omega) (by simp; omega)
    rw [← hp2] at ih'
    clear hQ hp1 hp2 ih
    simp only [PrP.pithref26_decimal.l1]
    rw [hd, wrap_small (by omega) (by omega), hm, if_pos (by omega), if_neg (by omega), if_pos (by omega), if_pos (by omega), if_pos (by omega), bt_digit _ hlt, hn, wrap_small (by omega) (by omega), ih', he]
    simp

theorem dec_l0 (u : Nat) (hu : u ≤ 2147483647) : ∀ (d j k : Nat) (x0 : List Int), j + d ≤ 9 → u < 10 ^ (j + d + 1) → (j = 0 ∨ 10 ^ j ≤ u) → d + j + d + 4 ≤ k → x0.length + 20 ≤ 100000000000000 → PrP.pithref26_decimal.l0 k x0 (u : Int) ((10 ^ j : Nat) : Int) = some (x0 ++ ints (decDigits u)) := by
  intro d
  induction d with
  | zero =>
    intro j k x0 hj hu2 hg hk hl
    obtain ⟨k, rfl⟩ : ∃ q, k = q + 1 := ⟨k - 1, by omega⟩
    have hp := pow_le9 (show j ≤ 9 by omega)
    have hp0 : 0 < 10 ^ j := Nat.pow_pos (by decide)
    obtain ⟨Q, hQ⟩ : ∃ Q, Q = u / 10 ^ j := ⟨_, rfl⟩
    have hq : Q < 10 := by rw [hQ, Nat.div_lt_iff_lt_mul hp0, Nat.mul_comm, ← Nat.pow_succ]; exact hu2
    have hd : Int.tdiv (u : Int) ((10 ^ j : Nat) : Int) = (Q : Int) := by rw [hQ]; exact tdiv_nat _ _
    have h1 := dec_l1 u hu j k x0 (by omega) (by omega) (by omega)
    rw [emit_dec j u hu2 hg] at h1
    obtain ⟨p1, hp1⟩ : ∃ p1, p1 = 10 ^ j := ⟨_, rfl⟩
    rw [← hp1] at hp hp0 hd h1 ⊢
    clear hQ hp1 hu2 hg
    simp only [PrP.pithref26_decimal.l0]
    rw [if_neg (by omega), hd, wrap_small (by omega) (by omega), if_neg (by omega), h1]
  | succ d ih =>
    intro j k x0 hj hu2 hg hk hl
    obtain ⟨k, rfl⟩ : ∃ q, k = q + 1 := ⟨k - 1, by omega⟩
    have hp := pow_le9 (show j ≤ 9 by omega)
    have hp0 : 0 < 10 ^ j := Nat.pow_pos (by decide)
    obtain ⟨Q, hQ⟩ : ∃ Q, Q = u / 10 ^ j := ⟨_, rfl⟩
    have hq : Q ≤ u := by rw [hQ]; exact Nat.div_le_self _ _
    have hd : Int.tdiv (u : Int) ((10 ^ j : Nat) : Int) = (Q : Int) := by rw [hQ]; exact tdiv_nat _ _
    by_cases h10 : 10 ≤ Q
    · have hge : 10 ^ (j + 1) ≤ u := by
        rw [hQ, Nat.le_div_iff_mul_le hp0, Nat.mul_comm, ← Nat.pow_succ] at h10; exact h10
      have e : ((10 ^ j : Nat) : Int) * 10 = ((10 ^ (j + 1) : Nat) : Int) := by rw [Nat.pow_succ]; omega
      have hp1 := pow_le9 (show j + 1 ≤ 9 by omega)
      have h1 := ih (j + 1) k x0 (by omega) (by rw [show j + 1 + d + 1 = j + (d + 1) + 1 by omega]; exact hu2) (Or.inr hge) (by omega) hl
      simp only [PrP.pithref26_decimal.l0]
      rw [hd, wrap_small (by omega) (by omega), e, wrap_small (by omega) (by omega), h1]
      rw [if_neg (by omega), if_pos (by omega)]
    · have hlt : u < 10 ^ (j + 1) := by
        rw [hQ, Nat.le_div_iff_mul_le hp0, Nat.mul_comm, ← Nat.pow_succ] at h10; omega
      have h1 := dec_l1 u hu j k x0 (by omega) (by omega) (by omega)
      rw [emit_dec j u hlt hg] at h1
      simp only [PrP.pithref26_decimal.l0]
      rw [hd, wrap_small (by omega) (by omega), h1]
      rw [if_neg (by omega), if_neg (by omega)]

theorem decimal_f (l : List Int) (a : Int) (hb : Sc.bounded a) (hl : l.length ≤ 10000000000000) : PrP.pithref26_decimal.f 40 l a = some (l ++ ints (itoa a)) := by
  unfold Sc.bounded at hb
  unfold PrP.pithref26_decimal.f
  by_cases hn : a < 0
  · obtain ⟨u, rfl, hu⟩ : ∃ u : Nat, a = -(u : Int) ∧ 1 ≤ u := ⟨a.natAbs, by omega, by omega⟩
    rw [if_pos hn, if_pos (by omega), Int.neg_neg, wrap_small (by omega) (by omega)]
    simp only [PrP.pithref26_decimal.j0]
    rw [show (1 : Int) = ((10 ^ 0 : Nat) : Int) from rfl, dec_l0 u (by omega) 9 0 39 _ (by omega) (by simp; omega) (Or.inl rfl) (by omega) (by simp; omega), itoa_neg u hu]
    simp [ints]
  · obtain ⟨u, rfl⟩ := Int.eq_ofNat_of_zero_le (show 0 ≤ a by omega)
    rw [if_neg hn]
    simp only [PrP.pithref26_decimal.j0]
    rw [show (1 : Int) = ((10 ^ 0 : Nat) : Int) from rfl, dec_l0 u (by omega) 9 0 39 _ (by omega) (by simp; omega) (Or.inl rfl) (by omega) (by omega), itoa_nonneg]

/-- All that is no row of bytes is as it was. -/
def KeptT (w W : World) : Prop := ∀ (k : Nat) (cs : Array Value) (t : TypeId), t ≠ 5 → w.heap[k]? = some (.cells cs t (0, 0)) → W.heap[k]? = some (.cells cs t (0, 0))
theorem KeptT.refl (w : World) : KeptT w w := fun _ _ _ _ h => h
theorem KeptT.trans {a b c : World} (h : KeptT a b) (k : KeptT b c) : KeptT a c := fun i cs t ht hi => k i cs t ht (h i cs t ht hi)
theorem KeptT.below {w W : World} (h : Below w.heap.size w W) : KeptT w W := fun _ _ _ _ hi => (h.block _ (blk_lt hi)).trans hi
theorem KeptT.grown {w0 w W : World} {v : Value} {l : By} (hr : Row8 w0 w v l) (hg : w.grownBy W v.ownBlock) : KeptT w W := fun i cs t ht hi => by
  refine (hg.block i (blk_lt hi) ?_).trans hi
  intro e
  obtain ⟨c8, h8⟩ := own_typed hr i e.symm
  rw [hi] at h8
  cases h8
  exact ht rfl

/-- A number that may be written, behind others. -/
theorem refDecimal_any (l : By) (a : Int) (hb : Sc.bounded a) (hl : l.length ≤ 10000000000000) (v : Value) (w0 w : World) (hB : Below w0.heap.size w0 w) (hv : Row8 w0 w v l) :
    Calls Tryz.prog 40 #[v, .int .i64 a] w fun e w' => ∃ v1, e = .returned v1 ∧ Row8 w0 w' v1 (l ++ itoa a) ∧ Below w0.heap.size w0 w' ∧ KeptT w w' := by
  refine (PrP.pithref26_decimal.calls 40 (fun k => v.ownBlock = some k) v (ints l) a _ w0 w hB (Kd.R_of_own hv (fun _ h => h)) (decimal_f _ a hb (by rw [ints_len]; exact hl))).mono ?_
  rintro e w' ⟨v1, rfl, hR, hB1, hK⟩
  refine ⟨v1, rfl, ?_, hB1, ?_⟩
  · have := Kd.own_of_R hR
    unfold Row8
    rw [ints_append]
    exact this
  · intro i cs t ht hi
    refine (hK.2 i (blk_lt hi) ?_).trans hi
    intro e
    obtain ⟨c8, h8⟩ := own_typed hv i e
    rw [hi] at h8
    cases h8
    exact ht rfl
end Go.Proofs.YtbpackopicngmaaGreatDoor
namespace Go.Proofs.YtbpackopicngmaaGreatDoor
open Go.RowKit Go.Proofs.Sc Go.Proofs.YtbpackopicngmaaGreatDoorW.PrintWords

def LitC (W : World) (b : Nat) (l : By) : Prop := ∀ (j : Nat) (c : UInt8), l[j]? = some c → W.cell? ⟨b, j, none⟩ = some (.int .u8 c.toNat)

structure DL (w0 w : World) (b : Nat) (l : By) (W : World) (v : Value) (cur : By) : Prop where
  row : Row8 w0 W v cur ∨ (W = w ∧ v = .slice (some ⟨b, 0, none⟩) l.length l.length ∧ cur = l)
  below : Below w0.heap.size w0 W
  kt : KeptT w W

/-- What is still to be written. -/
def Emit (u : Nat) (fin cur : List Int) (q : Nat) : Prop := (∃ j, j ≤ 9 ∧ q = 10 ^ j ∧ cur ++ emitN u j = fin) ∨ (q = 0 ∧ cur = fin)

theorem dec_size (u : Nat) (hu : u ≤ 2147483647) : ∃ J, J ≤ 9 ∧ (J = 0 ∨ 10 ^ J ≤ u) ∧ u < 10 ^ (J + 1) := by
  by_cases h : u < 10
  · exact ⟨0, by omega, Or.inl rfl, by simpa using h⟩
  have key : ∀ k, k ≤ 9 → 10 ^ 1 ≤ u → u < 10 ^ (k + 1) → ∃ J, J ≤ k ∧ (J = 0 ∨ 10 ^ J ≤ u) ∧ u < 10 ^ (J + 1) := by
    intro k
    induction k with
    | zero => intro _ h1 h2; exact ⟨0, by omega, Or.inl rfl, h2⟩
    | succ k ih =>
      intro hk h1 h2
      by_cases h3 : 10 ^ (k + 1) ≤ u
      · exact ⟨k + 1, by omega, Or.inr h3, h2⟩
      · obtain ⟨J, a, b, c⟩ := ih (by omega) h1 (by omega)
        exact ⟨J, by omega, b, c⟩
  exact key 9 (by omega) (by omega) (by omega)

theorem row8_push' {w w2 : World} {v1 : Value} {pre : By} {c : UInt8} (hown : w2.ownsRow w.heap.size 5 1 v1 ((ints pre).length + 1) (nums .u8 (ints pre ++ [(c.toNat : Int)]))) : Row8 w w2 v1 (pre ++ [c]) := by
  unfold Row8; rw [show ints (pre ++ [c]) = ints pre ++ [(c.toNat : Int)] by simp [ints], List.length_append, List.length_singleton]; exact hown

section
variable {ops : Array Oper} {rest : List Oper} {o : Oper} {a : Act} {Q : Exit → Act → World → Prop}
theorem lit_append {w0 W : World} {b : Nat} {l : By} (h0 : 0 < l.length) (hc : LitC W b l) (hB : Below w0.heap.size w0 W) (X : UInt8) (hgd : o.guard = none) (s x : Operand) (ho : o.op = .call { callee := .builtin .append, args := #[s, x], argTypes := #[85, 85] })
    (hs : a.eval s = .slice (some ⟨b, 0, none⟩) l.length l.length) (hx : a.eval x = .slice (some ⟨W.heap.size, 0, none⟩) 1 1) (hl : l.length ≤ 100000)
    (k : ∀ v1 w1, Row8 w0 w1 v1 (l ++ [X]) → Below w0.heap.size w0 w1 → KeptT W w1 → wpList Tryz.prog ops Q rest (a.put o.dst v1) w1) :
    wpList Tryz.prog ops Q (o :: rest) a (W.alloc (.cells #[.int .u8 X.toNat] 5)) := by
  obtain ⟨i, hi, hz⟩ := Option.map_eq_some_iff.1 info_u8
  simp only [Prod.mk.injEq] at hz
  obtain ⟨hz0, hz1, hz2⟩ := hz
  have hBA : Below w0.heap.size w0 (W.alloc (.cells #[.int .u8 X.toNat] 5)) := hB.alloc hB.size _
  refine wpList_append_grows (P := Tryz.prog) (W.alloc (.cells #[.int .u8 X.toNat] 5)) hgd s x 85 ho 5 i (.int .u8 0) 1 1 Tryz.underlying85 hi hz0 hz1 hz2 rfl (by decide) (some ⟨b, 0, none⟩) l.length l.length (nums .u8 (ints l)) hs (fun h => by cases h) (by simp [nums, ints]) ?_ ⟨W.heap.size, 0, none⟩ 1 1 [.int .u8 X.toNat] hx rfl ?_ (by intro u hu; rw [List.mem_singleton.1 hu]; rfl) (by omega) (by simp only [maxLen]; omega) (by omega) ?_
  · intro b' hb' j u hu
    obtain rfl := Option.some.inj hb'
    rw [add_plain]
    simp only [nums, ints, List.getElem?_map] at hu
    cases hj : l[j]? with
    | none => rw [hj] at hu; cases hu
    | some c =>
      rw [hj] at hu
      obtain rfl := Option.some.inj hu
      have hcell := hc j c hj
      rw [World.cell?_alloc_lt _ _ _ (World.block_lt_of_cell? W _ hcell)]
      exact hcell
  · intro j u hu
    match j, hu with
    | 0, hu =>
      obtain rfl := Option.some.inj hu
      exact blk_cell (heap_alloc_new W _) 0
  · intro v' w' hown hg
    refine k v' w' ?_ (hBA.grown hg hBA.size (fun _ h => by cases h)) ((KeptT.below ((Below.refl _ _).alloc (Nat.le_refl _) _)).trans (fun i cs t ht hi => (hg.block i (blk_lt hi) (by simp)).trans hi))
    have hown2 := own_weaken hown hBA.size
    refine row8_push' (w := w0) ?_
    rw [ints_len, nums_append]
    exact hown2
end

set_option maxHeartbeats 8000000 in
set_option maxRecDepth 100000 in
theorem refDecLit_any (l : By) (bb : Nat) (hl0 : 0 < l.length) (hl : l.length ≤ 1000) (a : Int) (hbd : Sc.bounded a) (w0 w : World) (hB : Below w0.heap.size w0 w) (hc : LitC w bb l) :
    Calls Tryz.prog 40 #[.slice (some ⟨bb, 0, none⟩) l.length l.length, .int .i64 a] w fun e w' => ∃ v1, e = .returned v1 ∧ Row8 w0 w' v1 (l ++ Lib.itoa a) ∧ Below w0.heap.size w0 w' ∧ KeptT w w' := by
  have HL0 := Lib.hid hl0
  have HLC := Lib.hid hc
  have HB := Lib.hid hB
  clear hc hB
  by_cases hneg : a < 0
  · obtain ⟨u, hua, hu1⟩ : ∃ u : Nat, a = -(u : Int) ∧ 1 ≤ u := ⟨a.natAbs, by omega, by omega⟩
    have hu : u ≤ 2147483647 := by unfold Sc.bounded at hbd; omega
    have s1 : decide (a < 0) = true := decide_eq_true hneg
    have s2 : -a = (u : Int) := by omega
    have HFIN := Lib.hid (show ints (l ++ [45]) ++ ints (Lib.decDigits u) = ints (l ++ Lib.itoa a) by rw [hua, itoa_neg u hu1]; simp [ints])
    clear hneg hua
    go_enter Tryz.func40, Tryz.ntmps40
    go_wp2_with (at_builtin; go_must (refine lit_append (w0 := w0) (W := w) (b := bb) (l := l) HL0.out HLC.out HB.out 45 rfl (.tmp 8) (.tmp 9) rfl rfl rfl (by omega) ?_))
    intro v1 w1 hrow1 hB1 hK1
    have HDL := Lib.hid (show DL w0 w bb l w1 v1 (l ++ [45]) from ⟨Or.inl hrow1, hB1, hK1⟩)
    obtain ⟨A1, n1, c1, rfl⟩ : ∃ A n c, v1 = .slice A n c := by
      obtain ⟨A, c, hv⟩ := own_slice hrow1
      exact ⟨A, _, c, hv⟩
    have hcur : (l ++ [45] : By).length ≤ 2000 := by simp; omega
    clear hrow1 hB1 hK1
    obtain ⟨J, hJ9, hJ1, hJ2⟩ := dec_size u hu
    have HJ1 := Lib.hid hJ1
    have HJ2 := Lib.hid hJ2
    clear hJ1 hJ2
    go_wp2_with fail
    go_loopw [5] (fun b wr => ∃ j p : Nat, w1 = wr ∧ b = .int .i64 (p : Int) ∧ j ≤ J ∧ Hid (p = 10 ^ j)) (fun b _ => 10000000000 - (intOf b).toNat)
    case atStart => exact ⟨0, 1, rfl, rfl, Nat.zero_le _, Lib.hid rfl⟩
    case round =>
    obtain ⟨j, p, rfl, rfl, hj, hp⟩ := hrel
    have hp0 : 0 < p := by rw [hp.out]; exact Nat.pow_pos (by decide)
    have hp9 : p ≤ 1000000000 := by rw [hp.out]; exact pow_le9 (by omega)
    have hpz : ((p : Int) == 0) = false := by rw [beq_eq_false_iff_ne]; omega
    have hpn : ¬ ((p : Int) = 0) := by omega
    obtain ⟨Q, hQ⟩ : ∃ Q, Q = u / p := ⟨_, rfl⟩
    have hq : Int.tdiv (u : Int) (p : Int) = (Q : Int) := by rw [hQ]; exact tdiv_nat _ _
    have hQu : Q ≤ u := by rw [hQ]; exact Nat.div_le_self _ _
    by_cases hjJ : j < J
    · have hge : 10 ≤ Q := by
        rw [hQ, hp.out, Nat.le_div_iff_mul_le (Nat.pow_pos (by decide)), Nat.mul_comm, ← Nat.pow_succ]
        have h1 : 10 ^ (j + 1) ≤ 10 ^ J := Nat.pow_le_pow_right (by decide) hjJ
        rcases HJ1.out with h | h
        · omega
        · omega
      have g1 : decide (10 ≤ Q) = true := decide_eq_true hge
      have g2 : decide ((10 : Int) ≤ (Q : Int)) = true := decide_eq_true (by omega)
      have HP2 := Lib.hid (show p * 10 = 10 ^ (j + 1) by rw [hp.out, Nat.pow_succ])
      have hp10 : p * 10 ≤ 1000000000 := by rw [HP2.out]; exact pow_le9 (by omega)
      clear hQ hge
      go_wp2_with fail
      go_roundw
      case rel => exact ⟨j + 1, p * 10, trivial, by go_num, hjJ, HP2⟩
      case measure => simp [intOf]; omega
    obtain rfl : j = J := by omega
    have hlt : Q < 10 := by
      rw [hQ, hp.out, Nat.div_lt_iff_lt_mul (Nat.pow_pos (by decide)), Nat.mul_comm, ← Nat.pow_succ]
      exact HJ2.out
    have g1 : decide (10 ≤ Q) = false := decide_eq_false (by omega)
    have g2 : decide ((10 : Int) ≤ (Q : Int)) = false := decide_eq_false (by omega)
    have HP := Lib.hid hp.out
    have HE := Lib.hid (show ints (l ++ [45]) ++ emitN u j = ints (l ++ Lib.itoa a) by rw [emit_dec j u HJ2.out HJ1.out]; exact HFIN.out)
    clear hQ hlt hpz hpn hjJ hp
    go_wp2_with fail
    clear hq hQu g1 g2
    go_loopw [0, 5] (fun v b wr => ∃ (q : Nat) (cur : By) (A : Option Addr) (n c : Nat), v = .slice A n c ∧ b = .int .i64 (q : Int) ∧ q ≤ 1000000000 ∧ Hid (DL w0 w bb l wr (.slice A n c) cur) ∧ Hid (Emit u (ints (l ++ Lib.itoa a)) (ints cur) q)) (fun _ b _ => (intOf b).toNat)
    case atStart => exact ⟨p, (l ++ [45]), _, _, _, rfl, rfl, hp9, HDL, Lib.hid (Or.inl ⟨j, hJ9, HP.out, HE.out⟩)⟩
    case round =>
    clear HDL HE HP hp0 hp9 hcur
    obtain ⟨q, cur, A, n, c, rfl, rfl, hq9, hDL, hE⟩ := hrel
    have hcl : cur.length ≤ 2000 := by
      have h1 : (ints cur).length ≤ (ints (l ++ Lib.itoa a)).length := by
        rcases hE.out with ⟨_, _, _, h⟩ | ⟨_, h⟩
        · rw [← h, List.length_append]; omega
        · rw [h]; exact Nat.le_refl _
      rw [ints_len, ints_len, List.length_append] at h1
      have := (itoa_len hbd).2
      omega
    by_cases hq0 : q = 0
    · subst hq0
      have hfin : Row8 w0 wr (.slice A n c) (l ++ Lib.itoa a) := by
        have h2 : ints cur = ints (l ++ Lib.itoa a) := by
          rcases hE.out with ⟨j, _, h, _⟩ | ⟨_, h⟩
          · have : 0 < 10 ^ j := Nat.pow_pos (by decide)
            omega
          · exact h
        rcases hDL.out.row with h | ⟨_, _, rfl⟩
        · unfold Row8 at h ⊢; rw [h2] at h; exact h
        · rw [ints_append] at h2
          have := congrArg List.length h2
          rw [List.length_append, ints_len, ints_len] at this
          have := (itoa_len hbd).1
          omega
      have HF := Lib.hid hfin
      have HBW := Lib.hid hDL.out.below
      have HKT := Lib.hid hDL.out.kt
      clear hDL hE hfin
      go_wp2_with fail
      go_ret
      exact ⟨_, rfl, HF.out, HBW.out, HKT.out⟩
    obtain ⟨j, hj9, hqj, hem⟩ : ∃ j, j ≤ 9 ∧ q = 10 ^ j ∧ ints cur ++ emitN u j = ints (l ++ Lib.itoa a) := by
      rcases hE.out with h | ⟨h, _⟩
      · exact h
      · exact absurd h hq0
    have hqz : ((q : Int) == 0) = false := by rw [beq_eq_false_iff_ne]; omega
    have hqn : ¬ ((q : Int) = 0) := by omega
    have hqp : 0 < q := by omega
    obtain ⟨Q, hQ⟩ : ∃ Q, Q = u / q := ⟨_, rfl⟩
    have hq1 : Int.tdiv (u : Int) (q : Int) = (Q : Int) := by rw [hQ]; exact tdiv_nat _ _
    have hQu : Q ≤ u := by rw [hQ]; exact Nat.div_le_self _ _
    obtain ⟨d, hd⟩ : ∃ d, d = Q % 10 := ⟨_, rfl⟩
    have hd10 : d < 10 := by rw [hd]; exact Nat.mod_lt _ (by decide)
    have hq2 : Int.tmod (Q : Int) 10 = (d : Int) := by rw [hd]; exact tmod_nat Q 10
    obtain ⟨q2, hq2e⟩ : ∃ q2, q2 = q / 10 := ⟨_, rfl⟩
    have hq3 : Int.tdiv (q : Int) 10 = (q2 : Int) := by rw [hq2e]; exact tdiv_nat q 10
    have hq4 : q2 < q := by omega
    have hd16 : d < 16 := Nat.lt_of_lt_of_le hd10 (by decide)
    have hdx := hex_at d hd16
    have hdn : (hexd d).toNat = 48 + d := by
      have : ∀ n : Fin 10, (hexd n.val).toNat = 48 + n.val := by decide +kernel
      exact this ⟨d, hd10⟩
    have HEM := Lib.hid (show Emit u (ints (l ++ Lib.itoa a)) (ints (cur ++ [hexd d])) q2 by
      rw [show ints (cur ++ [hexd d]) = ints cur ++ [((48 + d : Nat) : Int)] by simp [ints, hdn]]
      cases j with
      | zero =>
        refine Or.inr ⟨by rw [hq2e, hqj], ?_⟩
        rw [← hem]
        simp only [emitN]
        first | (rw [hd, hQ, hqj]; done) | (rw [hd, hQ, hqj]; simp)
      | succ j =>
        refine Or.inl ⟨j, by omega, by rw [hq2e, hqj, Nat.pow_succ, Nat.mul_div_cancel _ (by decide)], ?_⟩
        rw [← hem]
        simp only [emitN]
        first | (rw [hd, hQ, hqj]; done) | (rw [hd, hQ, hqj]; simp))
    clear hQ hd hq2e hem hE hq0 hqj hdn
    rcases hDL.out.row with hrow | ⟨hwe, hve, hce⟩
    · have HROW := Lib.hid hrow
      have HBW := Lib.hid hDL.out.below
      have HKT := Lib.hid hDL.out.kt
      clear hrow hDL
      go_wp2_with (at_builtin; go_must (refine print_append_num (w0 := w0) w0.heap.size rfl (.tmp 21) (.tmp 27) 85 5 .u8 1 rfl Tryz.underlying85 info_u8 (by decide) (.slice A n c) (ints cur) ((hexd d).toNat : Int) rfl rfl ?HO ?HB ?hbase ?hl ?_))
      case HO => exact HROW.out
      case HB => exact HBW.out
      case hbase => exact HBW.out.size
      case hl => rw [ints_len]; omega
      intro v2 w2 hown hB2 hg2 _
      have HD2 := Lib.hid (show DL w0 w bb l w2 v2 (cur ++ [hexd d]) from ⟨Or.inl (row8_push' hown), hB2, HKT.out.trans (KeptT.grown HROW.out hg2)⟩)
      obtain ⟨A2, n2, c2, rfl⟩ : ∃ A n c, v2 = .slice A n c := by
        obtain ⟨A, c, hv⟩ := own_slice hown
        exact ⟨A, _, c, hv⟩
      clear hown hB2 hg2
      go_wp2_with fail
      go_roundw
      case rel => exact ⟨q2, _, _, _, _, rfl, by go_num, by omega, HD2, HEM⟩
      case measure => simp [intOf]; omega
    · subst hwe
      subst hce
      cases hve
      have HBW := Lib.hid hDL.out.below
      clear hDL
      go_wp2_with (at_builtin; go_must (refine lit_append (w0 := w0) (W := wr) (b := bb) (l := cur) HL0.out HLC.out HBW.out (hexd d) rfl (.tmp 21) (.tmp 27) rfl rfl rfl (by omega) ?_))
      intro v2 w2 hrow2 hB2 hK2
      have HD2 := Lib.hid (show DL w0 wr bb cur w2 v2 (cur ++ [hexd d]) from ⟨Or.inl hrow2, hB2, hK2⟩)
      obtain ⟨A2, n2, c2, rfl⟩ : ∃ A n c, v2 = .slice A n c := by
        obtain ⟨A, c, hv⟩ := own_slice hrow2
        exact ⟨A, _, c, hv⟩
      clear hrow2 hB2 hK2
      go_wp2_with fail
      go_roundw
      case rel => exact ⟨q2, _, _, _, _, rfl, by go_num, by omega, HD2, HEM⟩
      case measure => simp [intOf]; omega
  · obtain ⟨u, rfl⟩ := Int.eq_ofNat_of_zero_le (show 0 ≤ a by omega)
    have hu : u ≤ 2147483647 := by unfold Sc.bounded at hbd; omega
    have HFIN := Lib.hid (show ints l ++ ints (Lib.decDigits u) = ints (l ++ Lib.itoa (u : Int)) by rw [itoa_nonneg]; simp [ints])
    have HDL := Lib.hid (show DL w0 w bb l w (.slice (some ⟨bb, 0, none⟩) l.length l.length) l from ⟨Or.inr ⟨rfl, rfl, rfl⟩, HB.out, KeptT.refl _⟩)
    have hcur : l.length ≤ 2000 := by omega
    clear hneg
    go_enter Tryz.func40, Tryz.ntmps40
    obtain ⟨J, hJ9, hJ1, hJ2⟩ := dec_size u hu
    have HJ1 := Lib.hid hJ1
    have HJ2 := Lib.hid hJ2
    clear hJ1 hJ2
    go_wp2_with fail
    go_loopw [5] (fun b wr => ∃ j p : Nat, w = wr ∧ b = .int .i64 (p : Int) ∧ j ≤ J ∧ Hid (p = 10 ^ j)) (fun b _ => 10000000000 - (intOf b).toNat)
    case atStart => exact ⟨0, 1, rfl, rfl, Nat.zero_le _, Lib.hid rfl⟩
    case round =>
    obtain ⟨j, p, rfl, rfl, hj, hp⟩ := hrel
    have hp0 : 0 < p := by rw [hp.out]; exact Nat.pow_pos (by decide)
    have hp9 : p ≤ 1000000000 := by rw [hp.out]; exact pow_le9 (by omega)
    have hpz : ((p : Int) == 0) = false := by rw [beq_eq_false_iff_ne]; omega
    have hpn : ¬ ((p : Int) = 0) := by omega
    obtain ⟨Q, hQ⟩ : ∃ Q, Q = u / p := ⟨_, rfl⟩
    have hq : Int.tdiv (u : Int) (p : Int) = (Q : Int) := by rw [hQ]; exact tdiv_nat _ _
    have hQu : Q ≤ u := by rw [hQ]; exact Nat.div_le_self _ _
    by_cases hjJ : j < J
    · have hge : 10 ≤ Q := by
        rw [hQ, hp.out, Nat.le_div_iff_mul_le (Nat.pow_pos (by decide)), Nat.mul_comm, ← Nat.pow_succ]
        have h1 : 10 ^ (j + 1) ≤ 10 ^ J := Nat.pow_le_pow_right (by decide) hjJ
        rcases HJ1.out with h | h
        · omega
        · omega
      have g1 : decide (10 ≤ Q) = true := decide_eq_true hge
      have g2 : decide ((10 : Int) ≤ (Q : Int)) = true := decide_eq_true (by omega)
      have HP2 := Lib.hid (show p * 10 = 10 ^ (j + 1) by rw [hp.out, Nat.pow_succ])
      have hp10 : p * 10 ≤ 1000000000 := by rw [HP2.out]; exact pow_le9 (by omega)
      clear hQ hge
      go_wp2_with fail
      go_roundw
      case rel => exact ⟨j + 1, p * 10, trivial, by go_num, hjJ, HP2⟩
      case measure => simp [intOf]; omega
    obtain rfl : j = J := by omega
    have hlt : Q < 10 := by
      rw [hQ, hp.out, Nat.div_lt_iff_lt_mul (Nat.pow_pos (by decide)), Nat.mul_comm, ← Nat.pow_succ]
      exact HJ2.out
    have g1 : decide (10 ≤ Q) = false := decide_eq_false (by omega)
    have g2 : decide ((10 : Int) ≤ (Q : Int)) = false := decide_eq_false (by omega)
    have HP := Lib.hid hp.out
    have HE := Lib.hid (show ints l ++ emitN u j = ints (l ++ Lib.itoa (u : Int)) by rw [emit_dec j u HJ2.out HJ1.out]; exact HFIN.out)
    clear hQ hlt hpz hpn hjJ hp
    go_wp2_with fail
    clear hq hQu g1 g2
    go_loopw [0, 5] (fun v b wr => ∃ (q : Nat) (cur : By) (A : Option Addr) (n c : Nat), v = .slice A n c ∧ b = .int .i64 (q : Int) ∧ q ≤ 1000000000 ∧ Hid (DL w0 w bb l wr (.slice A n c) cur) ∧ Hid (Emit u (ints (l ++ Lib.itoa (u : Int))) (ints cur) q)) (fun _ b _ => (intOf b).toNat)
    case atStart => exact ⟨p, l, _, _, _, rfl, rfl, hp9, HDL, Lib.hid (Or.inl ⟨j, hJ9, HP.out, HE.out⟩)⟩
    case round =>
    clear HDL HE HP hp0 hp9 hcur
    obtain ⟨q, cur, A, n, c, rfl, rfl, hq9, hDL, hE⟩ := hrel
    have hcl : cur.length ≤ 2000 := by
      have h1 : (ints cur).length ≤ (ints (l ++ Lib.itoa (u : Int))).length := by
        rcases hE.out with ⟨_, _, _, h⟩ | ⟨_, h⟩
        · rw [← h, List.length_append]; omega
        · rw [h]; exact Nat.le_refl _
      rw [ints_len, ints_len, List.length_append] at h1
      have := (itoa_len hbd).2
      omega
    by_cases hq0 : q = 0
    · subst hq0
      have hfin : Row8 w0 wr (.slice A n c) (l ++ Lib.itoa (u : Int)) := by
        have h2 : ints cur = ints (l ++ Lib.itoa (u : Int)) := by
          rcases hE.out with ⟨j, _, h, _⟩ | ⟨_, h⟩
          · have : 0 < 10 ^ j := Nat.pow_pos (by decide)
            omega
          · exact h
        rcases hDL.out.row with h | ⟨_, _, rfl⟩
        · unfold Row8 at h ⊢; rw [h2] at h; exact h
        · rw [ints_append] at h2
          have := congrArg List.length h2
          rw [List.length_append, ints_len, ints_len] at this
          have := (itoa_len hbd).1
          omega
      have HF := Lib.hid hfin
      have HBW := Lib.hid hDL.out.below
      have HKT := Lib.hid hDL.out.kt
      clear hDL hE hfin
      go_wp2_with fail
      go_ret
      exact ⟨_, rfl, HF.out, HBW.out, HKT.out⟩
    obtain ⟨j, hj9, hqj, hem⟩ : ∃ j, j ≤ 9 ∧ q = 10 ^ j ∧ ints cur ++ emitN u j = ints (l ++ Lib.itoa (u : Int)) := by
      rcases hE.out with h | ⟨h, _⟩
      · exact h
      · exact absurd h hq0
    have hqz : ((q : Int) == 0) = false := by rw [beq_eq_false_iff_ne]; omega
    have hqn : ¬ ((q : Int) = 0) := by omega
    have hqp : 0 < q := by omega
    obtain ⟨Q, hQ⟩ : ∃ Q, Q = u / q := ⟨_, rfl⟩
    have hq1 : Int.tdiv (u : Int) (q : Int) = (Q : Int) := by rw [hQ]; exact tdiv_nat _ _
    have hQu : Q ≤ u := by rw [hQ]; exact Nat.div_le_self _ _
    obtain ⟨d, hd⟩ : ∃ d, d = Q % 10 := ⟨_, rfl⟩
    have hd10 : d < 10 := by rw [hd]; exact Nat.mod_lt _ (by decide)
    have hq2 : Int.tmod (Q : Int) 10 = (d : Int) := by rw [hd]; exact tmod_nat Q 10
    obtain ⟨q2, hq2e⟩ : ∃ q2, q2 = q / 10 := ⟨_, rfl⟩
    have hq3 : Int.tdiv (q : Int) 10 = (q2 : Int) := by rw [hq2e]; exact tdiv_nat q 10
    have hq4 : q2 < q := by omega
    have hd16 : d < 16 := Nat.lt_of_lt_of_le hd10 (by decide)
    have hdx := hex_at d hd16
    have hdn : (hexd d).toNat = 48 + d := by
      have : ∀ n : Fin 10, (hexd n.val).toNat = 48 + n.val := by decide +kernel
      exact this ⟨d, hd10⟩
    have HEM := Lib.hid (show Emit u (ints (l ++ Lib.itoa (u : Int))) (ints (cur ++ [hexd d])) q2 by
      rw [show ints (cur ++ [hexd d]) = ints cur ++ [((48 + d : Nat) : Int)] by simp [ints, hdn]]
      cases j with
      | zero =>
        refine Or.inr ⟨by rw [hq2e, hqj], ?_⟩
        rw [← hem]
        simp only [emitN]
        first | (rw [hd, hQ, hqj]; done) | (rw [hd, hQ, hqj]; simp)
      | succ j =>
        refine Or.inl ⟨j, by omega, by rw [hq2e, hqj, Nat.pow_succ, Nat.mul_div_cancel _ (by decide)], ?_⟩
        rw [← hem]
        simp only [emitN]
        first | (rw [hd, hQ, hqj]; done) | (rw [hd, hQ, hqj]; simp))
    clear hQ hd hq2e hem hE hq0 hqj hdn
    rcases hDL.out.row with hrow | ⟨hwe, hve, hce⟩
    · have HROW := Lib.hid hrow
      have HBW := Lib.hid hDL.out.below
      have HKT := Lib.hid hDL.out.kt
      clear hrow hDL
      go_wp2_with (at_builtin; go_must (refine print_append_num (w0 := w0) w0.heap.size rfl (.tmp 21) (.tmp 27) 85 5 .u8 1 rfl Tryz.underlying85 info_u8 (by decide) (.slice A n c) (ints cur) ((hexd d).toNat : Int) rfl rfl ?HO ?HB ?hbase ?hl ?_))
      case HO => exact HROW.out
      case HB => exact HBW.out
      case hbase => exact HBW.out.size
      case hl => rw [ints_len]; omega
      intro v2 w2 hown hB2 hg2 _
      have HD2 := Lib.hid (show DL w0 w bb l w2 v2 (cur ++ [hexd d]) from ⟨Or.inl (row8_push' hown), hB2, HKT.out.trans (KeptT.grown HROW.out hg2)⟩)
      obtain ⟨A2, n2, c2, rfl⟩ : ∃ A n c, v2 = .slice A n c := by
        obtain ⟨A, c, hv⟩ := own_slice hown
        exact ⟨A, _, c, hv⟩
      clear hown hB2 hg2
      go_wp2_with fail
      go_roundw
      case rel => exact ⟨q2, _, _, _, _, rfl, by go_num, by omega, HD2, HEM⟩
      case measure => simp [intOf]; omega
    · subst hwe
      subst hce
      cases hve
      have HBW := Lib.hid hDL.out.below
      clear hDL
      go_wp2_with (at_builtin; go_must (refine lit_append (w0 := w0) (W := wr) (b := bb) (l := cur) HL0.out HLC.out HBW.out (hexd d) rfl (.tmp 21) (.tmp 27) rfl rfl rfl (by omega) ?_))
      intro v2 w2 hrow2 hB2 hK2
      have HD2 := Lib.hid (show DL w0 wr bb cur w2 v2 (cur ++ [hexd d]) from ⟨Or.inl hrow2, hB2, hK2⟩)
      obtain ⟨A2, n2, c2, rfl⟩ : ∃ A n c, v2 = .slice A n c := by
        obtain ⟨A, c, hv⟩ := own_slice hrow2
        exact ⟨A, _, c, hv⟩
      clear hrow2 hB2 hK2
      go_wp2_with fail
      go_roundw
      case rel => exact ⟨q2, _, _, _, _, rfl, by go_num, by omega, HD2, HEM⟩
      case measure => simp [intOf]; omega
end Go.Proofs.YtbpackopicngmaaGreatDoor
namespace Go.Proofs.Sc
open Go.Lib (itoa)
theorem joinW_flat : ∀ (x : By) (ws : List By), joinW (x :: ws) = x ++ ws.flatMap (fun w => 32 :: w)
  | x, [] => by simp [joinW]
  | x, y :: ws => by rw [joinW_cons _ _ (by simp), joinW_flat y ws]; simp
def fieldText (o : POp) (G : By) : By := (G.flatMap (fieldWords o)).flatMap fun w => 32 :: w
theorem fieldText_snoc (o : POp) (G : By) (f : UInt8) : fieldText o (G ++ [f]) = fieldText o G ++ (fieldWords o f).flatMap fun w => 32 :: w := by simp [fieldText, List.flatMap_append]
theorem lineOf_text (o : POp) : lineOf o = wordOf o.kind ++ fieldText o (fieldsOf o.kind) := joinW_flat _ _
def listText (l : List Int) : By := (l.map itoa).flatMap fun w => 32 :: w
theorem listText_snoc (l : List Int) (n : Int) : listText (l ++ [n]) = listText l ++ [32] ++ itoa n := by simp [listText, List.flatMap_append]
theorem wordOf_len (k : Int) : (wordOf k).length ≤ 9 := by
  by_cases h : kindOk k
  · obtain ⟨i, rfl⟩ := wordOf_nat h
    have : ∀ i : Fin 19, (wordOf ((i.val : Int) + 1)).length ≤ 9 := by decide +kernel
    exact this i
  · rw [wordOf_none h]; exact Nat.zero_le _
theorem fault_nums {o : POp} (h : faultOf o = 0) : kindOk o.kind ∧ numsOk o := by
  unfold faultOf at h
  split at h
  · cases h
  rename_i hk
  split at h
  · cases h
  split at h
  · cases h
  rename_i hn
  exact ⟨Classical.not_not.1 hk, Classical.not_not.1 hn⟩
end Go.Proofs.Sc
namespace Go.Proofs.YtbpackopicngmaaGreatDoor
open Go.RowKit Go.Proofs.Sc Go.Proofs.YtbpackopicngmaaGreatDoorW.PrintWords
open Go.Lib (itoa)

/-- What stands while a text is written behind W0. -/
structure LN (w0 W0 W : World) (v : Value) (l : By) : Prop where
  row : Row8 w0 W v l
  below : Below w0.heap.size w0 W
  kt : KeptT W0 W

section
variable {w0 W0 W W1 : World} {v v1 : Value} {l l1 : By}
theorem LN.step (h : LN w0 W0 W v l) (hr : Row8 w0 W1 v1 l1) (hb : Below w0.heap.size w0 W1) (hk : KeptT W W1) : LN w0 W0 W1 v1 l1 := ⟨hr, hb, h.kt.trans hk⟩
theorem LN.later (h : LN w0 W0 W v l) (hb : Below W.heap.size W W1) : LN w0 W0 W1 v l := ⟨h.row.keep hb, h.below.trans (hb.mono h.below.size), h.kt.trans (KeptT.below hb)⟩
theorem LN.drew (h : LN w0 W0 W v l) : LN w0 W0 W.drew v l := h.later (Below.refl _ _).drew
theorem LN.alloc (h : LN w0 W0 W v l) (o : Obj) : LN w0 W0 (W.alloc o) v l := h.later ((Below.refl _ _).alloc (Nat.le_refl _) o)
end

section
variable {ops : Array Oper} {o : Oper} {a : Act} {Q : Exit → Act → World → Prop} {Kc : Act → World → Prop} {w0 W0 W : World} {cur : By} {A : Option Addr} {n c : Nat}

/-- A byte behind the text, its literal just made. -/
theorem LN.push_alloc (h : LN w0 W0 W (.slice A n c) cur) (X : UInt8) (hw : Region.wanted o (yielded ops a.tmps) = true) (s x : Operand) (ho : o.op = .call { callee := .builtin .append, args := #[s, x], argTypes := #[85, 85] })
    (hs : a.eval s = .slice A n c) (hx : a.eval x = .slice (some ⟨W.heap.size, 0, none⟩) 1 1) (hl : cur.length + 1 ≤ 140737488355328) (k : ∀ v1 w1, LN w0 W0 w1 v1 (cur ++ [X]) → Kc (a.put o.dst v1) w1) :
    if Region.wanted o (yielded ops a.tmps) = true then Oper.wp Tryz.prog o a (W.alloc (.cells #[.int .u8 X.toNat] 5)) Kc Q else Kc (a.put o.dst undef) (W.alloc (.cells #[.int .u8 X.toNat] 5)) :=
  Kd.R_append_step (Kd.int .u8) (w0 := w0) (W := W) w0.heap.size hw s x 85 5 (.int .u8 0) 1 ho Tryz.underlying85 info_u8 rfl (by decide) (by decide) (.slice A n c) (ints cur) X.toNat [.int .u8 X.toNat] (fun _ => True) (fun _ => False) hs hx rfl (fun _ h => h.elim) (fun _ _ => trivial)
    (Kd.R_of_own h.row (fun _ _ => trivial)) h.below h.below.size (by rw [ints_len]; omega) (fun v1 w1 hR hB hg _ => k v1 w1 (h.step (by
      have := Kd.own_of_R hR
      unfold Row8
      rw [show ints (cur ++ [X]) = ints cur ++ [(X.toNat : Int)] by simp [ints]]
      exact this) hB (KeptT.grown h.row hg)))

theorem reads_one {b : Nat} {X : Int} (hlit : W.heap[b]? = some (.cells #[.int .u8 X] 5 (0, 0))) : ReadsRow (fun (x : Int) (cs : List Value) => cs = [.int .u8 x]) 1 W (some ⟨b, 0, none⟩) 1 [X] := by
  refine ⟨rfl, by decide, fun _ => ⟨_, rfl, fun j p hp => ?_⟩⟩
  match j, hp with
  | 0, hp =>
    obtain rfl := Option.some.inj hp
    refine ⟨_, rfl, rfl, fun i u hu => ?_⟩
    match i, hu with
    | 0, hu =>
      obtain rfl := Option.some.inj hu
      exact blk_cell hlit 0

theorem LN.push_rows (h : LN w0 W0 W (.slice A n c) cur) (X : UInt8) {b : Nat} (hlit : W.heap[b]? = some (.cells #[.int .u8 X.toNat] 5 (0, 0))) (hw : Region.wanted o (yielded ops a.tmps) = true) (s x : Operand) (ho : o.op = .call { callee := .builtin .append, args := #[s, x], argTypes := #[85, 85] })
    (hs : a.eval s = .slice A n c) (hx : a.eval x = .slice (some ⟨b, 0, none⟩) 1 1) (hl : cur.length + 1 ≤ 140737488355328) (k : ∀ v1 w1, LN w0 W0 w1 v1 (cur ++ [X]) → Kc (a.put o.dst v1) w1) :
    if Region.wanted o (yielded ops a.tmps) = true then Oper.wp Tryz.prog o a W Kc Q else Kc (a.put o.dst undef) W :=
  Kd.R_append_rows_step (Kd.int .u8) (Rr := fun (x : Int) (cs : List Value) => cs = [.int .u8 x]) (w0 := w0) (W := W) w0.heap.size hw s x 85 5 (.int .u8 0) 1 ho Tryz.underlying85 info_u8 rfl (by decide) (by decide) (.slice A n c) (ints cur) [(X.toNat : Int)] (some ⟨b, 0, none⟩) 1 1 (fun _ => True) (fun _ => False) hs hx
    (Kd.R_of_own h.row (fun _ _ => trivial)) (reads_one hlit) (fun _ _ h => h) (fun _ h => h.elim) (fun _ _ => trivial) h.below h.below.size (by rw [ints_len]; omega) (fun v1 w1 hR hB hg _ => k v1 w1 (h.step (by
      have := Kd.own_of_R hR
      unfold Row8
      rw [show ints (cur ++ [X]) = ints cur ++ [(X.toNat : Int)] by simp [ints]]
      exact this) hB (KeptT.grown h.row hg)))

theorem LN.push_str (h : LN w0 W0 W (.slice A n c) cur) (y : By) (hw : Region.wanted o (yielded ops a.tmps) = true) (s x : Operand) (ho : o.op = .call { callee := .builtin .append, args := #[s, x], argTypes := #[85, 9] })
    (hs : a.eval s = .slice A n c) (hx : a.eval x = .string ⟨y.toArray⟩) (hl : cur.length + y.length ≤ 140737488355328) (k : ∀ v1 w1, LN w0 W0 w1 v1 (cur ++ y) → Kc (a.put o.dst v1) w1) :
    if Region.wanted o (yielded ops a.tmps) = true then Oper.wp Tryz.prog o a W Kc Q else Kc (a.put o.dst undef) W := by
  obtain ⟨i0, hi, hzz⟩ := Option.map_eq_some_iff.1 info_u8
  simp only [Prod.mk.injEq] at hzz
  obtain ⟨hz0, hz1, hz2⟩ := hzz
  have hlen : (ints cur).length = cur.length := ints_len cur
  have hys : (⟨y.toArray⟩ : ByteArray).size = y.length := mk_size y
  rw [if_pos hw]
  obtain ⟨v', w', hr, h2, h3, _⟩ := Lib.run_append_own_string (P := Tryz.prog) W w0.heap.size 85 9 o.type 5 i0 Tryz.underlying85 Tryz.underlying9 hi hz0 hz1 hz2 (.slice A n c) (ints cur).length (nums .u8 (ints cur)) h.row ⟨y.toArray⟩ (by simp only [maxLen]; omega) (by omega) h.below.size
  unfold Oper.wp execOp
  simp only [ho, resolve, invoke, builtin, Sem.run_bind, Sem.run_pure, Result.andThen_ok, List.map_toArray, List.map_cons, List.map_nil, hs, hx, hr]
  refine k v' w' (h.step ?_ (h.below.grown h3 h.below.size (own_base h.row)) (KeptT.grown h.row h3))
  unfold Row8
  rw [ints_append, List.length_append, nums_append, ints_len y, ← hys]
  have e : nums .u8 (ints y) = Lib.strCells ⟨y.toArray⟩ := by simp [nums, ints, Lib.strCells]
  rw [e]; exact h2
end
end Go.Proofs.YtbpackopicngmaaGreatDoor
namespace Go.Proofs.YtbpackopicngmaaGreatDoor
open Go.RowKit Go.Proofs.Sc Go.Proofs.YtbpackopicngmaaGreatDoorW.PrintWords
open Go.Lib (itoa)

theorem cell_alloc {W : World} {a : Addr} {v : Value} (h : W.cell? a = some v) (ob : Obj) : (W.alloc ob).cell? a = some v := by
  rw [World.cell?_alloc_some W a ob (by rw [h]; rfl)]; exact h

theorem row8_str {w w1 : World} {v1 : Value} {l x : By} (hown : w1.ownsRow w.heap.size 5 1 v1 ((ints l).length + (bytesOf ⟨x.toArray⟩).length) (nums .u8 (ints l ++ bytesOf ⟨x.toArray⟩))) : Row8 w w1 v1 (l ++ x) := by
  unfold Row8; rw [ints_append, List.length_append]; exact hown
theorem row8_push {w w2 : World} {v1 : Value} {pre : By} {c : UInt8} (hown : w2.ownsRow w.heap.size 5 1 v1 ((ints pre).length + 1) (nums .u8 (ints pre ++ [(c.toNat : Int)]))) : Row8 w w2 v1 (pre ++ [c]) := by
  unfold Row8; rw [show ints (pre ++ [c]) = ints pre ++ [(c.toNat : Int)] by simp [ints], List.length_append, List.length_singleton]; exact hown
theorem Row8.slice {w wr : World} {v : Value} {l : By} (h : Row8 w wr v l) : ∃ A n c, v = .slice A n c := by
  obtain ⟨A, c, hv⟩ := own_slice h
  exact ⟨A, _, c, hv⟩

def Big (o : POp) : Prop := 1048576 < o.name.length ∨ 1048576 < o.text.length ∨ 1048576 < o.list.length

set_option maxHeartbeats 16000000 in
set_option maxRecDepth 100000 in
theorem refLine_any (o : POp) (A5 : Option Addr) (c5 : Nat) (w0 w : World) (hC : (Kd.int .i64).C w0 A5 o.list.length o.list) (hf : faultOf o = 0) (l : By) (hl : l.length ≤ 2000000000) (v : Value) (hB : Below w0.heap.size w0 w) (hv : Row8 w0 w v l) (hn : o.name.length ≤ 33554432) (ht : o.text.length ≤ 33554432) (hli : o.list.length ≤ 33554432) :
    Calls Tryz.prog 42 #[v, .agg #[.int .i64 o.kind, .int .i64 o.a, .int .i64 o.b, .string ⟨o.name.toArray⟩, .string ⟨o.text.toArray⟩, .slice A5 o.list.length c5]] w fun e w' => ∃ (v1 : Value) (l1 : By) (b : Bool), e = .returned (.tuple #[v1, .bool b]) ∧ Row8 w0 w' v1 l1 ∧ Below w0.heap.size w0 w' ∧ KeptT w w' ∧ ((b = true ∧ l1 = l ∧ Big o) ∨ (b = false ∧ l1 = l ++ (lineOf o ++ [10]) ∧ ¬ Big o)) := by
  obtain ⟨A, n, c, rfl⟩ := hv.slice
  have hb0 : Below w.heap.size w (w.alloc (.cells #[.int .i64 o.kind, .int .i64 o.a, .int .i64 o.b, .string ⟨o.name.toArray⟩, .string ⟨o.text.toArray⟩, .slice A5 o.list.length c5] 44)) := (Below.refl _ _).alloc (Nat.le_refl _) _
  have HB0 := Lib.hid hb0
  have HL0 := Lib.hid (show LN w0 (w.alloc (.cells #[.int .i64 o.kind, .int .i64 o.a, .int .i64 o.b, .string ⟨o.name.toArray⟩, .string ⟨o.text.toArray⟩, .slice A5 o.list.length c5] 44)) (w.alloc (.cells #[.int .i64 o.kind, .int .i64 o.a, .int .i64 o.b, .string ⟨o.name.toArray⟩, .string ⟨o.text.toArray⟩, .slice A5 o.list.length c5] 44)) (.slice A n c) l from ⟨hv.keep hb0, hB.trans (hb0.mono hB.size), KeptT.refl _⟩)
  have HNUM := Lib.hid (fault_nums hf).2
  have HK := Lib.hid (fault_nums hf).1
  have HC := Lib.hid hC
  clear hC hf hB hv hb0
  by_cases b1 : 1048576 < o.name.length
  · have k1 : decide (1048576 < o.name.length) = true := decide_eq_true b1
    have m1 : decide ((1048576 : Int) < (o.name.length : Int)) = true := decide_eq_true (by omega)
    go_enter Tryz.func42, Tryz.ntmps42
    go_wp2_with fail
    go_ret2
    exact ⟨_, _, _, rfl, HL0.out.row, HL0.out.below, KeptT.below HB0.out, Or.inl ⟨rfl, rfl, Or.inl b1⟩⟩
  have k1 : decide (1048576 < o.name.length) = false := decide_eq_false b1
  have m1 : decide ((1048576 : Int) < (o.name.length : Int)) = false := decide_eq_false (by omega)
  by_cases b2 : 1048576 < o.text.length
  · have k2 : decide (1048576 < o.text.length) = true := decide_eq_true b2
    have m2 : decide ((1048576 : Int) < (o.text.length : Int)) = true := decide_eq_true (by omega)
    go_enter Tryz.func42, Tryz.ntmps42
    go_wp2_with fail
    go_ret2
    exact ⟨_, _, _, rfl, HL0.out.row, HL0.out.below, KeptT.below HB0.out, Or.inl ⟨rfl, rfl, Or.inr (Or.inl b2)⟩⟩
  have k2 : decide (1048576 < o.text.length) = false := decide_eq_false b2
  have m2 : decide ((1048576 : Int) < (o.text.length : Int)) = false := decide_eq_false (by omega)
  by_cases b3 : 1048576 < o.list.length
  · have k3 : decide (1048576 < o.list.length) = true := decide_eq_true b3
    have m3 : decide ((1048576 : Int) < (o.list.length : Int)) = true := decide_eq_true (by omega)
    go_enter Tryz.func42, Tryz.ntmps42
    go_wp2_with fail
    go_ret2
    exact ⟨_, _, _, rfl, HL0.out.row, HL0.out.below, KeptT.below HB0.out, Or.inl ⟨rfl, rfl, Or.inr (Or.inr b3)⟩⟩
  have k3 : decide (1048576 < o.list.length) = false := decide_eq_false b3
  have m3 : decide ((1048576 : Int) < (o.list.length : Int)) = false := decide_eq_false (by omega)
  have HBIG := Lib.hid (show ¬ Big o by rintro (h | h | h) <;> omega)
  have HF5 := Lib.hid (fields_mem HK.out)
  obtain ⟨F, hF⟩ : ∃ F, F = fieldsOf o.kind := ⟨_, rfl⟩
  obtain ⟨m, hm⟩ : ∃ m, m = F.length := ⟨_, rfl⟩
  have hfs : (⟨F.toArray⟩ : ByteArray).size = m := by rw [mk_size, hm]
  have hm4 : m ≤ 4 := by
    rw [hm, hF]
    obtain ⟨i, hi⟩ := wordOf_nat HK.out
    have : ∀ i : Fin 19, (fieldsOf ((i.val : Int) + 1)).length ≤ 4 := by decide +kernel
    rw [hi]; exact this i
  rw [← hF] at HF5
  have HF := Lib.hid hF
  have HM := Lib.hid hm
  have hwl := wordOf_len o.kind
  have HWL := Lib.hid hwl
  clear hF hm
  go_enter Tryz.func42, Tryz.ntmps42
  go_wp2_with fail
  refine (refWord_any o.kind _).mono ?_
  rintro e w1 ⟨rfl, hB1⟩
  have HL1 := Lib.hid (HL0.out.later hB1)
  clear hB1
  go_wp2_with (at_builtin; go_must (refine print_append_str (w0 := w0) w0.heap.size rfl (.tmp 26) (.tmp 29) 85 9 5 rfl Tryz.underlying85 Tryz.underlying9 info_u8 (.slice A n c) (ints l) ⟨(wordOf o.kind).toArray⟩ rfl rfl ?HO ?HB ?hbase ?hl ?_))
  case HO => exact HL1.out.row
  case HB => exact HL1.out.below
  case hbase => exact HL1.out.below.size
  case hl => rw [ints_len, mk_size]; omega
  intro v2 w2 hown hB2 hg2
  have HL2 := Lib.hid (HL1.out.step (row8_str hown) hB2 (KeptT.grown HL1.out.row hg2))
  obtain ⟨A2, n2, c2, rfl⟩ := HL2.out.row.slice
  have hbx2 := HL2.out.kt _ _ _ (by decide) (heap_alloc_new w _)
  obtain ⟨x0, x1, x2, x3, x4, x5⟩ := op_cells hbx2
  clear hown hB2 hg2 hbx2 HL1
  go_wp2_with fail
  refine (refFields_any o.kind HK.out _).mono ?_
  rw [← HF.out]
  rintro e w3 ⟨rfl, hB3⟩
  have HL3 := Lib.hid (HL2.out.later hB3)
  clear hB3 HL2 x0 x1 x2 x3 x4 x5
  go_wp2_with fail
  go_loopw [0, 7] (fun v0 v7 wr => ∃ (i : Nat) (cur : By) (A : Option Addr) (n c : Nat), v0 = .slice A n c ∧ v7 = .int .i64 (i : Int) ∧ i ≤ m ∧ Hid (LN w0 (w.alloc (.cells #[.int .i64 o.kind, .int .i64 o.a, .int .i64 o.b, .string ⟨o.name.toArray⟩, .string ⟨o.text.toArray⟩, .slice A5 o.list.length c5] 44)) wr (.slice A n c) cur) ∧ Hid (cur = l ++ wordOf o.kind ++ fieldText o (F.take i)) ∧ Hid (cur.length ≤ l.length + 16 + i * 12600000)) (fun _ v _ => m - (intOf v).toNat)
  case atStart => exact ⟨0, _, _, _, _, rfl, rfl, Nat.zero_le _, HL3, Lib.hid (by simp [fieldText]), Lib.hid (by simp; omega)⟩
  case round =>
  clear HL3 HL0
  obtain ⟨i, cur, A, n, c, rfl, rfl, hi, hLN, hT, hbnd⟩ := hrel
  have hcl : cur.length ≤ 3000000000 := by have := hbnd.out; omega
  by_cases hlt : i < m
  · obtain ⟨f, hf⟩ : ∃ f, F[i]? = some f := ⟨F[i]'(by rw [← HM.out]; exact hlt), List.getElem?_eq_getElem _⟩
    have hb : ∀ h, (⟨F.toArray⟩ : ByteArray)[i]'h = f := fun h => list_at _ i f hf h
    have HTK := Lib.hid (show F.take (i + 1) = F.take i ++ [f] by rw [List.take_add_one, hf]; rfl)
    have h5 := HF5.out f (List.mem_of_getElem? hf)
    have hbx := hLN.out.kt _ _ _ (by decide) (heap_alloc_new w _)
    clear hf
    rcases h5 with rfl | rfl | rfl | rfl | rfl
    · have HKEY := Lib.hid (show ∀ (W : World) (v : Value) (l : By), LN w0 (w.alloc (.cells #[.int .i64 o.kind, .int .i64 o.a, .int .i64 o.b, .string ⟨o.name.toArray⟩, .string ⟨o.text.toArray⟩, .slice A5 o.list.length c5] 44)) W v l → W.cell? ⟨w.heap.size, 3, none⟩ = some (.string ⟨o.name.toArray⟩) from fun W v l h => blk_cell (h.kt _ _ _ (by decide) (heap_alloc_new w _)) 3)
      have HLD := Lib.hid hLN.out.drew
      have HLD2 := Lib.hid (show LN w0 (w.alloc (.cells #[.int .i64 o.kind, .int .i64 o.a, .int .i64 o.b, .string ⟨o.name.toArray⟩, .string ⟨o.text.toArray⟩, .slice A5 o.list.length c5] 44)) (wr.alloc (.cells #[.int .u8 32] 5)).drew (.slice A n c) cur from (hLN.out.alloc _).drew)
      have HSD := Lib.hid (HKEY.out _ _ _ HLD.out)
      have HSD2 := Lib.hid (HKEY.out _ _ _ HLD2.out)
      have HLIT := Lib.hid (show (wr.alloc (.cells #[.int .u8 32] 5)).drew.heap[wr.heap.size]? = some (.cells #[.int .u8 (32 : UInt8).toNat] 5 (0, 0)) from new_at _ _ _ rfl)
      have HT2 := Lib.hid (show cur ++ [32] ++ escape o.name = l ++ wordOf o.kind ++ fieldText o (F.take (i + 1)) by rw [hT.out, HTK.out, fieldText_snoc]; simp [fieldWords])
      have hil := (escape_len o.name).2.2
      clear hbx
      go_wp2_with fail
      go_region_held3 (fun W => W.cell? ⟨w.heap.size, 3, none⟩ = some (.string ⟨o.name.toArray⟩)) (first | with_reducible exact HSD.out | with_reducible exact HSD2.out | with_reducible exact hS5A _ | with_reducible assumption) (first | (go_at_call 69; refine (refEscape_any ⟨o.name.toArray⟩ _ (by rw [mk_size]; omega)).mono ?_; rintro e w5 ⟨rfl, hB5⟩; (first | have hL6 := hL2.later hB5 | have hL5 := HLD.out.later hB5 | have hL5 := HLD2.out.later hB5); have hS5 : w5.cell? ⟨w.heap.size, 3, none⟩ = some (.string ⟨o.name.toArray⟩) := (by first | exact HKEY.out _ _ _ hL6 | exact HKEY.out _ _ _ hL5); have hS5A := fun ob => cell_alloc hS5 ob) | (change if Region.wanted ⟨some 79, _, _, _, _, _⟩ _ = true then _ else _; (first | (have _h := hB5; change if Region.wanted _ _ = true then Oper.wp _ _ _ (World.alloc _ _) _ _ else _; refine hL5.push_alloc 32 (by rfl) (.tmp 77) (.tmp 78) (by rfl) (by rfl) (by rfl) (by omega) ?_) | (have _h := hB5; refine hL5.push_rows 32 ((hB5.block _ (blk_lt HLIT.out)).trans HLIT.out) (by rfl) (.tmp 77) (.tmp 78) (by rfl) (by rfl) (by rfl) (by omega) ?_) | (refine HLD.out.push_alloc 32 (by rfl) (.tmp 77) (.tmp 78) (by rfl) (by rfl) (by rfl) (by omega) ?_)); intro v2 w2 hL2; have hS2 := HKEY.out _ _ _ hL2; obtain ⟨A2, n2, c2, rfl⟩ := hL2.row.slice) | (change if Region.wanted ⟨some 83, _, _, _, _, _⟩ _ = true then _ else _; (first | (have _h := hL6; refine hL6.push_str (escape o.name) (by rfl) (.tmp 79) (.tmp 82) (by rfl) (by rfl) (by rfl) (by rw [List.length_append, List.length_singleton]; omega) ?_) | (refine hL2.push_str (escape o.name) (by rfl) (.tmp 79) (.tmp 82) (by rfl) (by rfl) (by rfl) (by rw [List.length_append, List.length_singleton]; omega) ?_)); intro v3 w3 hL3; have hS3 := HKEY.out _ _ _ hL3; obtain ⟨A3, n3, c3, rfl⟩ := hL3.row.slice))
      all_goals
        have HL3 := Lib.hid hL3
        have HB3 := Lib.hid (show (cur ++ [32] ++ escape o.name).length ≤ l.length + 16 + (i + 1) * 12600000 by simp only [List.length_append, List.length_singleton]; have := hbnd.out; omega)
        rw [HT2.out] at HB3 HL3
        clear hLN hT hbnd HSD HSD2 HLD HLD2 HLIT HTK HKEY hL3 hL2 hS2 hS3 hS5 hS5A hB5
        go_wp2_with fail
        go_roundw
        case rel => exact ⟨i + 1, _, _, _, _, rfl, by go_num, hlt, HL3, Lib.hid rfl, HB3⟩
        case measure => simp [intOf]; omega
    · have HKEY := Lib.hid (show ∀ (W : World) (v : Value) (l : By), LN w0 (w.alloc (.cells #[.int .i64 o.kind, .int .i64 o.a, .int .i64 o.b, .string ⟨o.name.toArray⟩, .string ⟨o.text.toArray⟩, .slice A5 o.list.length c5] 44)) W v l → W.cell? ⟨w.heap.size, 4, none⟩ = some (.string ⟨o.text.toArray⟩) from fun W v l h => blk_cell (h.kt _ _ _ (by decide) (heap_alloc_new w _)) 4)
      have HLD := Lib.hid hLN.out.drew
      have HLD2 := Lib.hid (show LN w0 (w.alloc (.cells #[.int .i64 o.kind, .int .i64 o.a, .int .i64 o.b, .string ⟨o.name.toArray⟩, .string ⟨o.text.toArray⟩, .slice A5 o.list.length c5] 44)) (wr.alloc (.cells #[.int .u8 32] 5)).drew (.slice A n c) cur from (hLN.out.alloc _).drew)
      have HSD := Lib.hid (HKEY.out _ _ _ HLD.out)
      have HSD2 := Lib.hid (HKEY.out _ _ _ HLD2.out)
      have HLIT := Lib.hid (show (wr.alloc (.cells #[.int .u8 32] 5)).drew.heap[wr.heap.size]? = some (.cells #[.int .u8 (32 : UInt8).toNat] 5 (0, 0)) from new_at _ _ _ rfl)
      have HT2 := Lib.hid (show cur ++ [32] ++ escape o.text = l ++ wordOf o.kind ++ fieldText o (F.take (i + 1)) by rw [hT.out, HTK.out, fieldText_snoc]; simp [fieldWords])
      have hil := (escape_len o.text).2.2
      clear hbx
      go_wp2_with fail
      go_region_held3 (fun W => W.cell? ⟨w.heap.size, 4, none⟩ = some (.string ⟨o.text.toArray⟩)) (first | with_reducible exact HSD.out | with_reducible exact HSD2.out | with_reducible exact hS5A _ | with_reducible assumption) (first | (go_at_call 69; refine (refEscape_any ⟨o.text.toArray⟩ _ (by rw [mk_size]; omega)).mono ?_; rintro e w5 ⟨rfl, hB5⟩; (first | have hL6 := hL2.later hB5 | have hL5 := HLD.out.later hB5 | have hL5 := HLD2.out.later hB5); have hS5 : w5.cell? ⟨w.heap.size, 4, none⟩ = some (.string ⟨o.text.toArray⟩) := (by first | exact HKEY.out _ _ _ hL6 | exact HKEY.out _ _ _ hL5); have hS5A := fun ob => cell_alloc hS5 ob) | (change if Region.wanted ⟨some 88, _, _, _, _, _⟩ _ = true then _ else _; (first | (have _h := hB5; change if Region.wanted _ _ = true then Oper.wp _ _ _ (World.alloc _ _) _ _ else _; refine hL5.push_alloc 32 (by rfl) (.tmp 86) (.tmp 87) (by rfl) (by rfl) (by rfl) (by omega) ?_) | (have _h := hB5; refine hL5.push_rows 32 ((hB5.block _ (blk_lt HLIT.out)).trans HLIT.out) (by rfl) (.tmp 86) (.tmp 87) (by rfl) (by rfl) (by rfl) (by omega) ?_) | (refine HLD.out.push_alloc 32 (by rfl) (.tmp 86) (.tmp 87) (by rfl) (by rfl) (by rfl) (by omega) ?_)); intro v2 w2 hL2; have hS2 := HKEY.out _ _ _ hL2; obtain ⟨A2, n2, c2, rfl⟩ := hL2.row.slice) | (change if Region.wanted ⟨some 92, _, _, _, _, _⟩ _ = true then _ else _; (first | (have _h := hL6; refine hL6.push_str (escape o.text) (by rfl) (.tmp 88) (.tmp 91) (by rfl) (by rfl) (by rfl) (by rw [List.length_append, List.length_singleton]; omega) ?_) | (refine hL2.push_str (escape o.text) (by rfl) (.tmp 88) (.tmp 91) (by rfl) (by rfl) (by rfl) (by rw [List.length_append, List.length_singleton]; omega) ?_)); intro v3 w3 hL3; have hS3 := HKEY.out _ _ _ hL3; obtain ⟨A3, n3, c3, rfl⟩ := hL3.row.slice))
      all_goals
        have HL3 := Lib.hid hL3
        have HB3 := Lib.hid (show (cur ++ [32] ++ escape o.text).length ≤ l.length + 16 + (i + 1) * 12600000 by simp only [List.length_append, List.length_singleton]; have := hbnd.out; omega)
        rw [HT2.out] at HB3 HL3
        clear hLN hT hbnd HSD HSD2 HLD HLD2 HLIT HTK HKEY hL3 hL2 hS2 hS3 hS5 hS5A hB5
        go_wp2_with fail
        go_roundw
        case rel => exact ⟨i + 1, _, _, _, _, rfl, by go_num, hlt, HL3, Lib.hid rfl, HB3⟩
        case measure => simp [intOf]; omega
    · have HSD := Lib.hid (show wr.drew.cell? ⟨w.heap.size, 1, none⟩ = some (.int .i64 o.a) from blk_cell (show wr.drew.heap[w.heap.size]? = _ from hbx) 1)
      have HSD2 := Lib.hid (show (wr.alloc (.cells #[.int .u8 32] 5)).drew.cell? ⟨w.heap.size, 1, none⟩ = some (.int .i64 o.a) from blk_cell (show (wr.alloc (.cells #[.int .u8 32] 5)).drew.heap[w.heap.size]? = _ from (Below.heap_alloc _ _ _ (blk_lt hbx)).trans hbx) 1)
      have HLD := Lib.hid hLN.out.drew
      have hbd := HNUM.out.1
      have HT2 := Lib.hid (show cur ++ [32] ++ itoa o.a = l ++ wordOf o.kind ++ fieldText o (F.take (i + 1)) by rw [hT.out, HTK.out, fieldText_snoc]; simp [fieldWords])
      have hil := (itoa_len hbd).2
      clear hbx
      go_wp2_with fail
      go_region_held3 (fun W => W.cell? ⟨w.heap.size, 1, none⟩ = some (.int .i64 o.a)) (first | with_reducible exact HSD.out | with_reducible exact HSD2.out | with_reducible assumption) (first | (go_at_call 40; refine (refDecimal_any (cur ++ [32]) o.a hbd (by rw [List.length_append, List.length_singleton]; omega) _ w0 _ hL2.below hL2.row).mono ?_; rintro e w3 ⟨v3, rfl, hr3, hB3, hK3⟩; have hL3 := hL2.step hr3 hB3 hK3; have hS3 : w3.cell? ⟨w.heap.size, 1, none⟩ = some (.int .i64 o.a) := blk_cell (hL3.kt _ _ _ (by decide) (heap_alloc_new w _)) 1; obtain ⟨A3, n3, c3, rfl⟩ := hr3.slice) | (change if Region.wanted ⟨some 63, _, _, _, _, _⟩ _ = true then _ else _; refine HLD.out.push_alloc 32 (by rfl) (.tmp 61) (.tmp 62) (by rfl) (by rfl) (by rfl) (by omega) ?_; intro v2 w2 hL2; have hS2 : w2.cell? ⟨w.heap.size, 1, none⟩ = some (.int .i64 o.a) := blk_cell (hL2.kt _ _ _ (by decide) (heap_alloc_new w _)) 1; obtain ⟨A2, n2, c2, rfl⟩ := hL2.row.slice))
      have HL3 := Lib.hid hL3
      have HB3 := Lib.hid (show (cur ++ [32] ++ itoa o.a).length ≤ l.length + 16 + (i + 1) * 12600000 by simp only [List.length_append, List.length_singleton]; have := hbnd.out; omega)
      rw [HT2.out] at HB3 HL3
      clear hL2 hL3 hr3 hB3 hK3 hS2 hS3 hLN hT hbnd HSD HSD2 HLD HTK
      go_wp2_with fail
      go_roundw
      case rel => exact ⟨i + 1, _, _, _, _, rfl, by go_num, hlt, HL3, Lib.hid rfl, HB3⟩
      case measure => simp [intOf]; omega
    · have HSD := Lib.hid (show wr.drew.cell? ⟨w.heap.size, 2, none⟩ = some (.int .i64 o.b) from blk_cell (show wr.drew.heap[w.heap.size]? = _ from hbx) 2)
      have HSD2 := Lib.hid (show (wr.alloc (.cells #[.int .u8 32] 5)).drew.cell? ⟨w.heap.size, 2, none⟩ = some (.int .i64 o.b) from blk_cell (show (wr.alloc (.cells #[.int .u8 32] 5)).drew.heap[w.heap.size]? = _ from (Below.heap_alloc _ _ _ (blk_lt hbx)).trans hbx) 2)
      have HLD := Lib.hid hLN.out.drew
      have hbd := HNUM.out.2.1
      have HT2 := Lib.hid (show cur ++ [32] ++ itoa o.b = l ++ wordOf o.kind ++ fieldText o (F.take (i + 1)) by rw [hT.out, HTK.out, fieldText_snoc]; simp [fieldWords])
      have hil := (itoa_len hbd).2
      clear hbx
      go_wp2_with fail
      go_region_held3 (fun W => W.cell? ⟨w.heap.size, 2, none⟩ = some (.int .i64 o.b)) (first | with_reducible exact HSD.out | with_reducible exact HSD2.out | with_reducible assumption) (first | (go_at_call 40; refine (refDecimal_any (cur ++ [32]) o.b hbd (by rw [List.length_append, List.length_singleton]; omega) _ w0 _ hL2.below hL2.row).mono ?_; rintro e w3 ⟨v3, rfl, hr3, hB3, hK3⟩; have hL3 := hL2.step hr3 hB3 hK3; have hS3 : w3.cell? ⟨w.heap.size, 2, none⟩ = some (.int .i64 o.b) := blk_cell (hL3.kt _ _ _ (by decide) (heap_alloc_new w _)) 2; obtain ⟨A3, n3, c3, rfl⟩ := hr3.slice) | (change if Region.wanted ⟨some 71, _, _, _, _, _⟩ _ = true then _ else _; refine HLD.out.push_alloc 32 (by rfl) (.tmp 69) (.tmp 70) (by rfl) (by rfl) (by rfl) (by omega) ?_; intro v2 w2 hL2; have hS2 : w2.cell? ⟨w.heap.size, 2, none⟩ = some (.int .i64 o.b) := blk_cell (hL2.kt _ _ _ (by decide) (heap_alloc_new w _)) 2; obtain ⟨A2, n2, c2, rfl⟩ := hL2.row.slice))
      have HL3 := Lib.hid hL3
      have HB3 := Lib.hid (show (cur ++ [32] ++ itoa o.b).length ≤ l.length + 16 + (i + 1) * 12600000 by simp only [List.length_append, List.length_singleton]; have := hbnd.out; omega)
      rw [HT2.out] at HB3 HL3
      clear hL2 hL3 hr3 hB3 hK3 hS2 hS3 hLN hT hbnd HSD HSD2 HLD HTK
      go_wp2_with fail
      go_roundw
      case rel => exact ⟨i + 1, _, _, _, _, rfl, by go_num, hlt, HL3, Lib.hid rfl, HB3⟩
      case measure => simp [intOf]; omega
    · obtain ⟨n5, hn5⟩ : ∃ n5, n5 = o.list.length := ⟨_, rfl⟩
      have HT2 := Lib.hid (show cur ++ listText o.list = l ++ wordOf o.kind ++ fieldText o (F.take (i + 1)) by rw [hT.out, HTK.out, fieldText_snoc]; simp [fieldWords, listText])
      obtain ⟨x0, x1, x2, x3, x4, x5⟩ := op_cells hbx
      have hmx : o.list.length ≤ 9223372036854775807 := HC.out.2.1
      clear hbx
      go_wp2_with fail
      go_loopw [0, 8] (fun v0 v8 wr => ∃ (j : Nat) (cur2 : By) (A : Option Addr) (n c : Nat), v0 = .slice A n c ∧ v8 = .int .i64 (j : Int) ∧ j ≤ o.list.length ∧ Hid (LN w0 (w.alloc (.cells #[.int .i64 o.kind, .int .i64 o.a, .int .i64 o.b, .string ⟨o.name.toArray⟩, .string ⟨o.text.toArray⟩, .slice A5 o.list.length c5] 44)) wr (.slice A n c) cur2) ∧ Hid (cur2 = cur ++ listText (o.list.take j)) ∧ Hid (cur2.length ≤ cur.length + j * 12)) (fun _ v _ => o.list.length - (intOf v).toNat)
      case atStart => exact ⟨0, cur, _, _, _, rfl, rfl, Nat.zero_le _, hLN, Lib.hid (by simp [listText]), Lib.hid (by omega)⟩
      case round =>
      clear hLN x0 x1 x2 x3 x4 x5
      obtain ⟨j, cur2, A, n, c, rfl, rfl, hj, hLN, hT3, hbnd2⟩ := hrel
      have hcl2 : cur2.length ≤ 3100000000 := by have := hbnd2.out; omega
      by_cases hjl : j < o.list.length
      · obtain ⟨x, hx⟩ : ∃ x, o.list[j]? = some x := ⟨o.list[j], List.getElem?_eq_getElem hjl⟩
        have hbd := HNUM.out.2.2 x (List.mem_of_getElem? hx)
        have HT4 := Lib.hid (show cur2 ++ [32] ++ itoa x = cur ++ listText (o.list.take (j + 1)) by rw [hT3.out, List.take_add_one, hx]; simp only [Option.toList_some]; rw [listText_snoc]; simp)
        obtain ⟨ad, hAd, _⟩ := Kd.at_int HC.out (j : Int) (by omega) (by omega)
        have HKEY := Lib.hid (show ∀ (W : World) (v : Value) (l : By), LN w0 (w.alloc (.cells #[.int .i64 o.kind, .int .i64 o.a, .int .i64 o.b, .string ⟨o.name.toArray⟩, .string ⟨o.text.toArray⟩, .slice A5 o.list.length c5] 44)) W v l → W.cell? ⟨w.heap.size, 5, none⟩ = some (.slice (some ad) o.list.length c5) ∧ W.cell? (ad.add j) = some (.int .i64 x) from fun W v l h => by
          refine ⟨by rw [← hAd]; exact blk_cell (h.kt _ _ _ (by decide) (heap_alloc_new w _)) 5, ?_⟩
          obtain ⟨ad', hAd', hcell⟩ := Kd.at_int (Kd.C_below HC.out h.below) (j : Int) (by omega) (by omega)
          obtain rfl := Option.some.inj (hAd.symm.trans hAd')
          rw [Int.toNat_natCast, show rd o.list (j : Int) = x by simp [rd, hx]] at hcell
          exact hcell)
        have HLD := Lib.hid hLN.out.drew
        have HLD2 := Lib.hid (show LN w0 (w.alloc (.cells #[.int .i64 o.kind, .int .i64 o.a, .int .i64 o.b, .string ⟨o.name.toArray⟩, .string ⟨o.text.toArray⟩, .slice A5 o.list.length c5] 44)) (wr.alloc (.cells #[.int .u8 32] 5)).drew (.slice A n c) cur2 from (hLN.out.alloc _).drew)
        have HSD := Lib.hid (HKEY.out _ _ _ HLD.out)
        have HSD2 := Lib.hid (HKEY.out _ _ _ HLD2.out)
        have hil := (itoa_len hbd).2
        have wj : IntKind.i64.wrap (j : Int) = (j : Int) := by rw [IntKind.wrap_i64]; omega
        have j0 : (0 : Int) ≤ (j : Int) := by omega
        have j1 : (j : Int) < (o.list.length : Int) := by omega
        obtain ⟨y5, y6⟩ := HKEY.out _ _ _ hLN.out
        clear hx hAd
        go_wp2_with fail
        go_region_held3 (fun W => W.cell? ⟨w.heap.size, 5, none⟩ = some (.slice (some ad) o.list.length c5) ∧ W.cell? (ad.add j) = some (.int .i64 x)) (first | with_reducible exact HSD.out | with_reducible exact HSD2.out | with_reducible assumption) (first | (go_at_call 40; refine (refDecimal_any (cur2 ++ [32]) x hbd (by rw [List.length_append, List.length_singleton]; omega) _ w0 _ hL2.below hL2.row).mono ?_; rintro e w3 ⟨v3, rfl, hr3, hB3, hK3⟩; have hL3 := hL2.step hr3 hB3 hK3; have hS3 := HKEY.out _ _ _ hL3; obtain ⟨A3, n3, c3, rfl⟩ := hr3.slice) | (change if Region.wanted ⟨some 52, _, _, _, _, _⟩ _ = true then _ else _; refine HLD.out.push_alloc 32 (by rfl) (.tmp 50) (.tmp 51) (by rfl) (by rfl) (by rfl) (by omega) ?_; intro v2 w2 hL2; have hS2 := HKEY.out _ _ _ hL2; obtain ⟨A2, n2, c2, rfl⟩ := hL2.row.slice))
        all_goals
          have HL3 := Lib.hid hL3
          have HB3 := Lib.hid (show (cur2 ++ [32] ++ itoa x).length ≤ cur.length + (j + 1) * 12 by simp only [List.length_append, List.length_singleton]; have := hbnd2.out; omega)
          rw [HT4.out] at HB3 HL3
          clear hLN hT3 hbnd2 HSD HSD2 HLD HLD2 HKEY hL3 hL2 hS2 hS3 hr3 hB3 hK3 y5 y6
          go_wp2_with fail
          go_roundw
          case rel => exact ⟨j + 1, _, _, _, _, rfl, by go_num, hjl, HL3, Lib.hid rfl, HB3⟩
          case measure => simp [intOf]; omega
      · obtain rfl : j = o.list.length := by omega
        have hT5 := hT3.out
        rw [List.take_of_length_le (Nat.le_refl _), HT2.out] at hT5
        have HL3 := Lib.hid hLN.out
        have HB3 := Lib.hid (show cur2.length ≤ l.length + 16 + (i + 1) * 12600000 by have := hbnd.out; have := hbnd2.out; omega)
        rw [hT5] at HB3 HL3
        have hbx := hLN.out.kt _ _ _ (by decide) (heap_alloc_new w _)
        obtain ⟨x0, x1, x2, x3, x4, x5⟩ := op_cells hbx
        clear hbx hT5 hLN hT3 hbnd hbnd2 hT HTK hjl
        go_wp2_with fail
        go_roundw
        case rel => exact ⟨i + 1, _, _, _, _, rfl, by go_num, hlt, HL3, Lib.hid rfl, HB3⟩
        case measure => simp [intOf]; omega
  · obtain rfl : i = m := by omega
    clear hlt
    have HT2 := Lib.hid (show cur ++ [10] = l ++ (lineOf o ++ [10]) by rw [hT.out, List.take_of_length_le (by rw [← HM.out]; exact Nat.le_refl _), lineOf_text, HF.out]; simp)
    go_wp2_with (at_builtin; go_must (refine print_append_num (w0 := w0) w0.heap.size rfl (.tmp 93) (.tmp 94) 85 5 .u8 1 rfl Tryz.underlying85 info_u8 (by decide) (.slice A n c) (ints cur) 10 rfl rfl ?HO ?HB ?hbase ?hl ?_))
    case HO => exact hLN.out.row
    case HB => exact hLN.out.below
    case hbase => exact hLN.out.below.size
    case hl => rw [ints_len]; omega
    intro v4 w4 hown hB4 hg4 _
    have HL4 := Lib.hid (hLN.out.step (v1 := v4) (l1 := cur ++ [10]) (row8_push (c := 10) hown) hB4 (KeptT.grown hLN.out.row hg4))
    obtain ⟨A4, n4, c4, rfl⟩ := HL4.out.row.slice
    clear hown hB4 hg4
    go_wp2_with fail
    go_ret2
    exact ⟨_, _, _, rfl, HL4.out.row, HL4.out.below, (KeptT.below HB0.out).trans HL4.out.kt, Or.inr ⟨rfl, HT2.out, HBIG.out⟩⟩
end Go.Proofs.YtbpackopicngmaaGreatDoor
namespace Go.Proofs.Sc
open Go.Lib (itoa)
theorem flat_mem : ∀ (ws : List By) (w : By), w ∈ ws → w.length < (ws.flatMap fun x => 32 :: x).length
  | x :: ws, w, h => by
    simp only [List.flatMap_cons, List.length_append, List.length_cons]
    rcases List.mem_cons.1 h with rfl | h
    · omega
    · have := flat_mem ws w h; omega
theorem flat_count : ∀ (ws : List By), ws.length ≤ (ws.flatMap fun x => 32 :: x).length
  | [] => Nat.zero_le _
  | x :: ws => by
    simp only [List.flatMap_cons, List.length_append, List.length_cons]
    have := flat_count ws; omega
theorem flat_part (o : POp) : ∀ (F : By) (f : UInt8), f ∈ F → (fieldWords o f).length ≤ (F.flatMap (fieldWords o)).length
  | x :: F, f, h => by
    simp only [List.flatMap_cons, List.length_append]
    rcases List.mem_cons.1 h with rfl | h
    · omega
    · have := flat_part o F f h; omega
theorem big_line {o : POp} (hf : faultOf o = 0) (h : 1048576 < o.name.length ∨ 1048576 < o.text.length ∨ 1048576 < o.list.length) : 1048576 < (lineOf o).length := by
  have hs : spare o = false := by
    unfold faultOf at hf
    split at hf
    · cases hf
    split at hf
    · cases hf
    · rename_i h; simpa using h
  have hk := (spare_kept o).1 hs
  rw [lineOf_text, List.length_append]
  unfold fieldText
  rcases h with h | h | h
  · have hm : (78 : UInt8) ∈ fieldsOf o.kind := by
      by_cases hm : (78 : UInt8) ∈ fieldsOf o.kind
      · exact hm
      · have : o.name = [] := by have := congrArg POp.name hk; simpa [keptTo, hm] using this
        rw [this] at h; simp at h
    have := flat_mem ((fieldsOf o.kind).flatMap (fieldWords o)) (escape o.name) (List.mem_flatMap.2 ⟨78, hm, by simp [fieldWords]⟩)
    have := (escape_len o.name).1
    omega
  · have hm : (84 : UInt8) ∈ fieldsOf o.kind := by
      by_cases hm : (84 : UInt8) ∈ fieldsOf o.kind
      · exact hm
      · have : o.text = [] := by have := congrArg POp.text hk; simpa [keptTo, hm] using this
        rw [this] at h; simp at h
    have := flat_mem ((fieldsOf o.kind).flatMap (fieldWords o)) (escape o.text) (List.mem_flatMap.2 ⟨84, hm, by simp [fieldWords]⟩)
    have := (escape_len o.text).1
    omega
  · have hm : (76 : UInt8) ∈ fieldsOf o.kind := by
      by_cases hm : (76 : UInt8) ∈ fieldsOf o.kind
      · exact hm
      · have : o.list = [] := by have := congrArg POp.list hk; simpa [keptTo, hm] using this
        rw [this] at h; simp at h
    have h1 := flat_count ((fieldsOf o.kind).flatMap (fieldWords o))
    have h2 := flat_part o (fieldsOf o.kind) 76 hm
    have h3 : (fieldWords o 76).length = o.list.length := by simp [fieldWords]
    omega
end Go.Proofs.Sc
namespace Go.Proofs.YtbpackopicngmaaGreatDoor
open Go.RowKit Go.Proofs.Sc Go.Proofs.YtbpackopicngmaaGreatDoorW.PrintWords
open Go.Lib (itoa)

/-- What is written when the steps os are behind, the document's way. -/
def WR (cap : Int) (os : List POp) (many : Bool) (l : By) : Prop := (many = false ∧ l = textTo cap os ∧ l.length ≤ 1048576) ∨ (many = true ∧ 1048576 < (textTo cap os).length)

theorem WR.still {cap : Int} {os : List POp} {l : By} (h : WR cap os true l) (o : POp) : WR cap (os ++ [o]) true l := by
  refine Or.inr ⟨rfl, ?_⟩
  rw [textTo_snoc, List.length_append]
  rcases h with ⟨h, _⟩ | ⟨_, h⟩
  · cases h
  · omega
theorem WR.big {cap : Int} {os : List POp} {l : By} {o : POp} (hf : faultOf o = 0) (hb : Big o) : WR cap (os ++ [o]) true l := by
  refine Or.inr ⟨rfl, ?_⟩
  rw [textTo_snoc, List.length_append, List.length_append]
  have := big_line hf hb
  omega
theorem WR.line {cap : Int} {os : List POp} {l : By} {o : POp} (h : WR cap os false l) : WR cap (os ++ [o]) (decide (1048576 < (l ++ (lineOf o ++ [10])).length)) (l ++ (lineOf o ++ [10])) := by
  rcases h with ⟨_, h1, _⟩ | ⟨h, _⟩
  · by_cases hl : 1048576 < (l ++ (lineOf o ++ [10])).length
    · refine Or.inr ⟨decide_eq_true hl, ?_⟩
      rw [textTo_snoc, ← h1]; exact hl
    · exact Or.inl ⟨decide_eq_false hl, by rw [textTo_snoc, ← h1], by omega⟩
  · cases h

theorem script_C {w : World} {cap : Int} {A : Option Addr} {n c : Nat} (W : World) (h : KeptT (w.alloc (.cells #[.int .i64 cap, .slice A n c] 25)) W) : W.heap[w.heap.size]? = some (.cells #[.int .i64 cap, .slice A n c] 25 (0, 0)) := h _ _ _ (by decide) (heap_alloc_new w _)

set_option maxHeartbeats 16000000 in
set_option maxRecDepth 100000 in
theorem refPrint_any (cap : Int) (ops : List POp) (A : Option Addr) (c : Nat) (w : World) (hC : kOp.C w A ops.length ops) (hfit : ∀ o ∈ ops, OpFits o) :
    Calls Tryz.prog 15 #[.agg #[.int .i64 cap, .slice A ops.length c]] w (PrintPost ⟨cap, ops⟩ w) := by
  obtain ⟨n, hn⟩ : ∃ n, n = ops.length := ⟨_, rfl⟩
  have hb0 : Below w.heap.size w (w.alloc (.cells #[.int .i64 cap, .slice A ops.length c] 25)) := (Below.refl _ _).alloc (Nat.le_refl _) _
  rw [← hn] at hC hb0 ⊢
  have HB0 := Lib.hid hb0
  by_cases hcap : Sc.bounded cap
  · have HBC := Lib.hid (show decide (Sc.bounded cap) = true from decide_eq_true hcap)
    have HCAP := Lib.hid hcap
    have HN := Lib.hid hn
    have HC := Lib.hid hC
    have HFIT := Lib.hid hfit
    clear hn hcap hC hfit hb0
    by_cases hmany : 2000 < n
    · have HF := Lib.hid (show Sc.print ⟨cap, ops⟩ = ([], 264) by
        unfold Sc.print; rw [if_neg (not_not_intro HCAP.out), if_pos (by rw [← HN.out]; exact hmany)])
      have k1 : decide (2000 < n) = true := decide_eq_true hmany
      have k2 : decide ((2000 : Int) < (n : Int)) = true := decide_eq_true (by omega)
      clear hmany
      go_enter Tryz.func15, Tryz.ntmps15
      go_wp2_with fail
      refine (refSmall_any cap _).mono ?_
      rw [HBC.out]
      rintro e w1 ⟨rfl, rfl⟩
      go_wp2_with fail
      go_ret2
      exact PrintPost.mk' HF.out HB0.out
    have HPR := Lib.hid (show Sc.print ⟨cap, ops⟩ = if faults ops ≠ 0 then ([], faults ops) else if 1048576 < (textTo cap ops).length then ([], 264) else (textTo cap ops, 0) by
      unfold Sc.print; rw [if_neg (not_not_intro HCAP.out), if_neg (by rw [← HN.out]; exact hmany)]; rfl)
    have k1 : decide (2000 < n) = false := decide_eq_false hmany
    have k2 : decide ((2000 : Int) < (n : Int)) = false := decide_eq_false (by omega)
    have hn2 : n ≤ 2000 := by omega
    have hcv0 := Go.Joins.run_convert_bytes_const_at (P := Tryz.prog) (w.alloc (.cells #[.int .i64 cap, .slice A n c] 25)) 85 5 #[.int .u8 112, .int .u8 105, .int .u8 116, .int .u8 104, .int .u8 32] 5 5 (w.heap.size + 1) (by simp) Tryz.underlying85 Tryz.underlying5
    clear hmany
    go_enter Tryz.func15, Tryz.ntmps15
    go_wp2_with fail
    refine (refSmall_any cap _).mono ?_
    rw [HBC.out]
    rintro e w1 ⟨rfl, rfl⟩
    go_wp2_with fail
    refine (refDecLit_any [112, 105, 116, 104, 32] (w.heap.size + 1) (by decide) (by decide) cap HCAP.out w _ ?hB ?hc).mono ?_
    case hB => exact HB0.out.alloc HB0.out.size _
    case hc =>
      intro j c hc
      rw [Go.Joins.cell_alloc_mark_at _ _ _ _ _ _ (by simp)]
      have hj : j < 5 := (List.getElem?_eq_some_iff.1 hc).1
      match j, hj, hc with
      | 0, _, hc => cases hc; rfl
      | 1, _, hc => cases hc; rfl
      | 2, _, hc => cases hc; rfl
      | 3, _, hc => cases hc; rfl
      | 4, _, hc => cases hc; rfl
    rintro e w2 ⟨v2, rfl, hr2, hB2, hK2⟩
    have HL2 := Lib.hid (show LN w (w.alloc (.cells #[.int .i64 cap, .slice A n c] 25)) w2 v2 ([112, 105, 116, 104, 32] ++ itoa cap) from ⟨hr2, hB2, (KeptT.below ((Below.refl _ _).alloc (Nat.le_refl _) _)).trans hK2⟩)
    obtain ⟨A2, n2, c2, rfl⟩ := hr2.slice
    have hil := (itoa_len HCAP.out).2
    clear hr2 hB2 hK2 hcv0
    go_wp2_with (at_builtin; go_must (refine print_append_num (w0 := w) w.heap.size rfl (.tmp 22) (.tmp 23) 85 5 .u8 1 rfl Tryz.underlying85 info_u8 (by decide) (.slice A2 n2 c2) (ints ([112, 105, 116, 104, 32] ++ itoa cap)) 10 rfl rfl ?HO ?HB ?hbase ?hl ?_))
    case HO => exact HL2.out.row
    case HB => exact HL2.out.below
    case hbase => exact HL2.out.below.size
    case hl => rw [ints_len]; simp; omega
    intro v3 w3 hown hB3 hg3 _
    have HL3 := Lib.hid (HL2.out.step (v1 := v3) (l1 := [112, 105, 116, 104, 32] ++ itoa cap ++ [10]) (row8_push (c := 10) hown) hB3 (KeptT.grown HL2.out.row hg3))
    have HW3 := Lib.hid (show WR cap (ops.take 0) false ([112, 105, 116, 104, 32] ++ itoa cap ++ [10]) from Or.inl ⟨rfl, by rw [List.take_zero, textTo_nil]; simp [headLine, headWord], by simp; omega⟩)
    obtain ⟨A3, n3, c3, rfl⟩ := HL3.out.row.slice
    obtain ⟨x0, x1, f0, f1⟩ := script_cells (script_C _ HL3.out.kt)
    clear hown hB3 hg3 HL2
    go_wp2_with fail
    go_loopw [5, 6, 7] (fun v5 v6 v7 wr => ∃ (i : Nat) (many : Bool) (l : By) (A' : Option Addr) (n' c' : Nat), v5 = .slice A' n' c' ∧ v6 = .bool many ∧ v7 = .int .i64 (i : Int) ∧ i ≤ n ∧ Hid (LN w (w.alloc (.cells #[.int .i64 cap, .slice A n c] 25)) wr (.slice A' n' c') l) ∧ Hid (WR cap (ops.take i) many l) ∧ Hid (faults ops = faults (ops.drop i))) (fun _ _ v _ => n - (intOf v).toNat)
    case atStart => exact ⟨0, false, _, _, _, _, rfl, rfl, rfl, Nat.zero_le _, HL3, HW3, Lib.hid (by rw [List.drop_zero])⟩
    case round =>
    clear HL3 HW3 x0 x1 f0 f1
    obtain ⟨i, many, l, A', n', c', rfl, rfl, rfl, hi, hLN, hW, hG⟩ := hrel
    obtain ⟨x0, x1, f0, f1⟩ := script_cells (script_C _ hLN.out.kt)
    by_cases hlt : i < n
    · obtain ⟨o, ho⟩ : ∃ o, ops[i]? = some o := ⟨ops[i]'(by have := HN.out; omega), List.getElem?_eq_getElem _⟩
      obtain ⟨ad, A5, c5, hAd, p0, p1, p2, p3, p4, p5, hc5, hC5⟩ := at_op (Kd.C_below HC.out hLN.out.below) i o ho
      obtain ⟨ad', A5', c5', hAd', _, _, _, _, _, p5', _, hC5'⟩ := at_op HC.out i o ho
      have hsame : A5' = A5 := by
        obtain rfl := Option.some.inj (hAd.symm.trans hAd')
        have hblk : (ad.add (i * 6)).block < w.heap.size := World.block_lt_of_cell? w ⟨(ad.add (i * 6)).block, (ad.add (i * 6)).off + 5, none⟩ p5'
        have := hLN.out.below.cell (p := ⟨(ad.add (i * 6)).block, (ad.add (i * 6)).off + 5, none⟩) hblk
        rw [p5, p5'] at this
        cases this; rfl
      rw [hsame] at hC5'
      have HC5W := Lib.hid hC5'
      have HO := Lib.hid ho
      have HFO := Lib.hid (HFIT.out o (List.mem_of_getElem? ho))
      have HC5 := Lib.hid hC5
      have HTK := Lib.hid (show ops.take (i + 1) = ops.take i ++ [o] by rw [List.take_add_one, ho]; rfl)
      clear ho hC5 hC5' hAd' p5' hsame
      subst hAd
      go_wp2_with fail
      refine (refFault_any o A5 c5 _ HC5.out hc5).mono ?_
      rintro e w4 ⟨rfl, hB4⟩
      have HL4 := Lib.hid (hLN.out.later hB4)
      by_cases hfz : faultOf o = 0
      · have HFZ := Lib.hid hfz
        have q1 : (faultOf o != 0) = false := by rw [hfz]; rfl
        have HG2 := Lib.hid (show faults ops = faults (ops.drop (i + 1)) by rw [hG.out]; exact faults_drop HO.out hfz)
        cases many with
        | true =>
          have HW2 := Lib.hid (show WR cap (ops.take (i + 1)) true l by rw [HTK.out]; exact hW.out.still o)
          clear hfz hW hG hLN hB4 x0 x1 f0 f1 p0 p1 p2 p3 p4 p5
          go_wp2_with fail
          go_roundw
          case rel => exact ⟨i + 1, true, l, _, _, _, rfl, rfl, by go_num, hlt, HL4, HW2, HG2⟩
          case measure => simp [intOf]; omega
        | false =>
          have hll : l.length ≤ 1048576 := by
            rcases hW.out with ⟨_, _, h⟩ | ⟨h, _⟩
            · exact h
            · cases h
          obtain ⟨y0, y1, g0, g1⟩ := script_cells (script_C _ HL4.out.kt)
          obtain ⟨ad2, A6, c6, hAd2, r0, r1, r2, r3, r4, r5, hc6, _⟩ := at_op (Kd.C_below HC.out HL4.out.below) i o HO.out
          obtain rfl := Option.some.inj hAd2
          have hA6 : A6 = A5 ∧ c6 = c5 := by
            have hblk : (ad.add (i * 6)).block < wr.heap.size := World.block_lt_of_cell? wr ⟨(ad.add (i * 6)).block, (ad.add (i * 6)).off + 5, none⟩ p5
            have := hB4.cell (p := ⟨(ad.add (i * 6)).block, (ad.add (i * 6)).off + 5, none⟩) hblk
            rw [p5, r5] at this
            cases this; exact ⟨rfl, rfl⟩
          obtain ⟨rfl, rfl⟩ := hA6
          clear hfz hG hLN hB4 x0 x1 f0 f1 p0 p1 p2 p3 p4 p5 hAd2
          go_wp2_with fail
          refine (refLine_any o A6 c6 w _ HC5W.out HFZ.out l (by omega) _ HL4.out.below HL4.out.row HFO.out.name HFO.out.text HFO.out.list).mono ?_
          rintro e w5 ⟨v5, l5, b, rfl, hr5, hB5, hK5, hcase⟩
          have HL5 := Lib.hid (HL4.out.step hr5 hB5 hK5)
          obtain ⟨A7, n7, c7, rfl⟩ := hr5.slice
          rcases hcase with ⟨rfl, rfl, hbig⟩ | ⟨rfl, hl5, _⟩
          · have HW2 := Lib.hid (show WR cap (ops.take (i + 1)) true l5 by rw [HTK.out]; exact WR.big HFZ.out hbig)
            clear hbig hW hr5 hB5 hK5 HL4 y0 y1 g0 g1 r0 r1 r2 r3 r4 r5
            go_wp2_with fail
            go_roundw
            case rel => exact ⟨i + 1, true, l5, _, _, _, rfl, rfl, by go_num, hlt, HL5, HW2, HG2⟩
            case measure => simp [intOf]; omega
          · have HW2 := Lib.hid (show WR cap (ops.take (i + 1)) (decide (1048576 < l5.length)) l5 by rw [HTK.out, hl5]; exact hW.out.line)
            have hn7 : n7 = l5.length := by
              obtain ⟨A8, c8, hv8⟩ := own_slice HL5.out.row
              cases hv8; exact ints_len l5
            clear hl5 hW hr5 hB5 hK5 HL4 y0 y1 g0 g1 r0 r1 r2 r3 r4 r5
            by_cases hbl : 1048576 < l5.length
            · have d1 : decide (1048576 < n7) = true := decide_eq_true (by omega)
              have d2 : decide ((1048576 : Int) < (n7 : Int)) = true := decide_eq_true (by omega)
              rw [decide_eq_true hbl] at HW2
              clear hbl hn7
              go_wp2_with fail
              go_roundw
              case rel => exact ⟨i + 1, true, l5, _, _, _, rfl, rfl, by go_num, hlt, HL5, HW2, HG2⟩
              case measure => simp [intOf]; omega
            · have d1 : decide (1048576 < n7) = false := decide_eq_false (by omega)
              have d2 : decide ((1048576 : Int) < (n7 : Int)) = false := decide_eq_false (by omega)
              rw [decide_eq_false hbl] at HW2
              clear hbl hn7
              go_wp2_with fail
              go_roundw
              case rel => exact ⟨i + 1, false, l5, _, _, _, rfl, rfl, by go_num, hlt, HL5, HW2, HG2⟩
              case measure => simp [intOf]; omega
      · have HF := Lib.hid (show Sc.print ⟨cap, ops⟩ = ([], faultOf o) by
          rw [HPR.out, hG.out, faults_at HO.out hfz, if_pos hfz])
        have q1 : (faultOf o != 0) = true := by simpa using hfz
        have HBW := Lib.hid HL4.out.below
        clear hfz hW hG hLN hB4 x0 x1 f0 f1 p0 p1 p2 p3 p4 p5 HL4
        go_wp2_with fail
        go_ret2
        exact PrintPost.mk' HF.out HBW.out
    · obtain rfl : i = n := by omega
      have HT := Lib.hid (show ops.take i = ops by rw [List.take_of_length_le (by rw [← HN.out]; exact Nat.le_refl _)])
      have HG := Lib.hid (show faults ops = 0 by rw [hG.out, List.drop_of_length_le (by rw [← HN.out]; exact Nat.le_refl _)]; rfl)
      have hW' := hW.out
      rw [HT.out] at hW'
      have HBW := Lib.hid hLN.out.below
      clear hG hW
      cases many with
      | true =>
        have HF := Lib.hid (show Sc.print ⟨cap, ops⟩ = ([], 264) by
          rw [HPR.out, if_neg (not_not_intro HG.out), if_pos]
          rcases hW' with ⟨h, _⟩ | ⟨_, h⟩
          · cases h
          · exact h)
        clear hW' hLN
        go_wp2_with fail
        go_ret2
        exact PrintPost.mk' HF.out HBW.out
      | false =>
        have HF := Lib.hid (show Sc.print ⟨cap, ops⟩ = (l, 0) by
          rcases hW' with ⟨_, h1, h2⟩ | ⟨h, _⟩
          · rw [HPR.out, if_neg (not_not_intro HG.out), ← h1, if_neg (by omega)]
          · cases h)
        have hcv := hLN.out.row.str
        clear hW' hLN
        go_wp2_with fail
        go_ret2
        exact PrintPost.mk' HF.out HBW.out
  · have HF := Lib.hid (show Sc.print ⟨cap, ops⟩ = ([], 262) by unfold Sc.print; rw [if_pos hcap])
    have HBC := Lib.hid (show decide (Sc.bounded cap) = false from decide_eq_false hcap)
    clear hcap hn hC hfit hb0
    go_enter Tryz.func15, Tryz.ntmps15
    go_wp2_with fail
    refine (refSmall_any cap _).mono ?_
    rw [HBC.out]
    rintro e w1 ⟨rfl, rfl⟩
    go_wp2_with fail
    go_ret2
    exact PrintPost.mk' HF.out HB0.out
end Go.Proofs.YtbpackopicngmaaGreatDoor
