/- ScriptOwns: OwJ, merged by gen/merge2.py. -/
import Derived.Test.YtbpackopicngmaaGreatDoorOwX
import Derived.Deep.RegionHeld3
import Derived.Deep.RegionLaw
namespace Go.Proofs.YtbpackopicngmaaGreatDoor
open Go.RowKit Go.Proofs.Sc Go.Proofs.YtbpackopicngmaaGreatDoorW.PrintWords

theorem info_sl_o : (Tryz.prog.info? 23).map (fun i => (i.zero, i.size, i.bytes)) = some (some (.slice none 0 0), 1, 24) := by kernel_rfl

section
variable {ops : Array Oper} {o : Oper} {a : Act} {Q : Exit → Act → World → Prop} {Kc : Act → World → Prop}
theorem outer_step_o {w0 wr : World} {B o' : Nat} {f : Nat → Nat} {V v : Value} {rows : List (List Value)} (hw : Region.wanted o (yielded ops a.tmps) = true) (s x : Operand) (ho : o.op = .call { callee := .builtin .append, args := #[s, x], argTypes := #[63, 63] })
    (hs : a.eval s = V) (hx : a.eval x = .slice (some ⟨wr.heap.size, 0, none⟩) 1 1) (hv1 : v.oneCell' = true) (hR : Row B f o' 1 23 wr V rows) (hb : Below B w0 wr) (hB : B ≤ wr.heap.size) (hl : rows.length ≤ 1000000)
    (h : ∀ V1 w1, Row B (ext wr f o') o' 1 23 w1 V1 (rows ++ [[v]]) → Below B w0 w1 → Went V V1 rows.length wr.drew w1 → Kc (a.put o.dst V1) w1) :
    if Region.wanted o (yielded ops a.tmps) = true then Oper.wp Tryz.prog o a ((wr.alloc (.cells #[v] 23)).drew) Kc Q else Kc (a.put o.dst undef) ((wr.alloc (.cells #[v] 23)).drew) :=
  row_append_step (w0 := w0) (W := wr.drew) B hw s x 63 23 (.slice none 0 0) 1 24 ho Tryz.underlying63 info_sl_o rfl (by decide) (by decide) V rows [v] (fun k => ext wr f o' k = o') hs hx rfl (fun u hu => by rw [List.mem_singleton.1 hu]; exact hv1) (fun k hk => ext_new hk)
    (Kd.R_below (hR.owner (ext_elder wr f o')) (Below.refl _ _).drew) hb.drew hB (by omega) h
theorem elem_step_o {w0 wr : World} {B o' : Nat} {f : Nat → Nat} {g : Value} {K X : Int} {rows : List (List Value)} (hw : Region.wanted o (yielded ops a.tmps) = true) (s x : Operand) (ho : o.op = .call { callee := .builtin .append, args := #[s, x], argTypes := #[23, 23] })
    (hs : a.eval s = g) (hx : a.eval x = .slice (some ⟨wr.heap.size, 0, none⟩) 1 1) (hR : Row B f o' 6 44 wr g rows) (hb : Below B w0 wr) (hB : B ≤ wr.heap.size) (hl : rows.length ≤ 1000000)
    (h : ∀ g1 w1, Row B (ext wr f o') o' 6 44 w1 g1 (rows ++ [[.int .i64 K, .int .i64 X, .int .i64 0, .string ⟨#[]⟩, .string ⟨#[]⟩, .slice none 0 0]]) → Below B w0 w1 → Went g g1 rows.length wr.drew w1 → Kc (a.put o.dst g1) w1) :
    if Region.wanted o (yielded ops a.tmps) = true then Oper.wp Tryz.prog o a ((wr.alloc (.cells #[.int .i64 K, .int .i64 X, .int .i64 0, .string ⟨#[]⟩, .string ⟨#[]⟩, .slice none 0 0] 44)).drew) Kc Q else Kc (a.put o.dst undef) ((wr.alloc (.cells #[.int .i64 K, .int .i64 X, .int .i64 0, .string ⟨#[]⟩, .string ⟨#[]⟩, .slice none 0 0] 44)).drew) :=
  row_append_step (w0 := w0) (W := wr.drew) B hw s x 23 44 (.agg zeroOp) 6 80 ho Tryz.underlying23 info_op rfl (by decide) (by decide) g rows [.int .i64 K, .int .i64 X, .int .i64 0, .string ⟨#[]⟩, .string ⟨#[]⟩, .slice none 0 0] (fun k => ext wr f o' k = o') hs hx rfl (fun u hu => by
      simp only [List.mem_cons, List.not_mem_nil, or_false] at hu
      rcases hu with rfl | rfl | rfl | rfl | rfl | rfl <;> rfl) (fun k hk => ext_new hk)
    (Kd.R_below (hR.owner (ext_elder wr f o')) (Below.refl _ _).drew) hb.drew hB (by omega) h
end

abbrev GrO (p : Int) (a B kb : Nat) (vs : List Value) (f : Nat → Nat) (w : World) (f1 : Nat → Nat) (gs : List Value) (D : Nat → Nat) (wr : World) : Prop := GrS 50 44 23 6 1 (mkOc p a) p B kb vs f w f1 gs D wr

set_option maxHeartbeats 8000000 in
set_option maxRecDepth 100000 in
theorem growS_o {B kb a : Nat} {f : Nat → Nat} {p : Int} {vs gs : List Value} {w : World} {t : Nat} (h : Bk B kb f p w) (hK : KinO p a B kb f vs gs (fun _ _ => True) (fun _ => t) w) (hgl : gs.length = vs.length) (ht : 0 < t) (ht2 : t ≤ 70) (hn : vs.length ≤ 100000) (ha : a ≤ 1000000) :
    Calls Tryz.prog 137 #[.pointer (some ⟨kb, 0, none⟩), .int .i64 (a : Int), .int .i64 (t : Int)] w fun e w' => e = .returned (.int .i64 ((a + vs.length : Nat) : Int)) ∧ ∃ f1 gs', gs'.length = vs.length ∧ GrO p a B kb vs f w f1 gs' (fun _ => t + 1) w' := by
  obtain ⟨n, hnn⟩ : ∃ n, n = vs.length := ⟨_, rfl⟩
  rw [← hnn] at hn ⊢
  have HK := Lib.hid (GrS.start h hK)
  have HN := Lib.hid hnn
  rw [← hnn] at hgl
  have hgl0 := hgl
  have k0 : ((t : Int) == 0) = false := by rw [beq_eq_false_iff_ne]; omega
  clear hgl
  clear h hK hnn
  go_enter Tryz.func137, Tryz.ntmps137
  go_wp2_with fail
  go_loopw [1, 7] (fun x v wr => ∃ (i y : Nat) (f1 : Nat → Nat) (gs' : List Value), x = .int .i64 (y : Int) ∧ v = .int .i64 (i : Int) ∧ Hid (y = a + i) ∧ y ≤ 3000000 ∧ i ≤ n ∧ Hid (gs'.length = n) ∧ Hid (GrO p a B kb vs f w f1 gs' (fun i' => if i' < i then t + 1 else t) wr)) (fun _ v _ => n - (intOf v).toNat)
  case atStart => exact ⟨0, a, f, gs, rfl, rfl, Lib.hid rfl, by omega, Nat.zero_le _, Lib.hid hgl0, Lib.hid (HK.out.bound (fun i _ => by split <;> omega))⟩
  case round =>
  clear HK
  obtain ⟨i, y, f1, gs1, rfl, rfl, hy, hy2, hi, hgl, hS⟩ := hrel
  by_cases hlt : i < n
  · obtain ⟨v, hv⟩ : ∃ v, vs[i]? = some v := ⟨vs[i]'(by have := HN.out; omega), List.getElem?_eq_getElem _⟩
    obtain ⟨l0, hl0, hrest⟩ := hS.out.kin.elem i v hv
    clear hrest
    obtain ⟨A, c, hvs, hlc, hlm⟩ := hl0.slice
    obtain ⟨m, hm⟩ : ∃ m, m = l0.length := ⟨_, rfl⟩
    rw [← hm] at hvs hlc
    subst hvs
    obtain ⟨gV, cV, d1, d2, d3, d4, d5, d6⟩ := hS.out.kin.at hv
    rw [← HN.out] at d1 d2
    obtain ⟨y1, hy1⟩ : ∃ y1, y1 = y + 1 := ⟨_, rfl⟩
    have e1 : (y : Int) + 1 = (y1 : Int) := by omega
    have hy3 : y1 ≤ 3000001 := by omega
    have HY := Lib.hid (show y1 = a + i + 1 by rw [hy1, hy.out])
    have i1 : (i : Int) < (n : Int) := by omega
    have wi : IntKind.i64.wrap (i : Int) = (i : Int) := by rw [IntKind.wrap_i64]; omega
    have HV := Lib.hid hv
    have hkb := hS.out.bk.lt
    clear hl0 hm hv hy1

    obtain ⟨gg, hgg⟩ : ∃ gg, gs1[i]? = some gg := ⟨gs1[i]'(by have := hgl.out; omega), List.getElem?_eq_getElem _⟩
    obtain ⟨l, hl, hl2, hl3, hG⟩ := hS.out.kin.elem i _ HV.out
    obtain ⟨l', hl', hle, hle2, hm'⟩ := hG gg hgg
    obtain ⟨gG, cG, t1, t2, t3, t4, t5, t6, t7, t8⟩ := hS.out.kin.atG hgg
    obtain ⟨Ag, cg, hvg, hlg, hlgm⟩ := hl'.slice
    obtain ⟨mg, hmg⟩ : ∃ mg, mg = l'.length := ⟨_, rfl⟩
    rw [← hmg] at hvg hlg
    subst hvg
    obtain ⟨ng, hng⟩ : ∃ ng, ng = gs1.length := ⟨_, rfl⟩
    rw [← hng] at t1 t2
    replace t1 : wr.cell? ⟨kb, 52, none⟩ = some (.slice (some ⟨gG, 0, none⟩) ng cG) := t1
    have j1 : (i : Int) < (ng : Int) := by have := (List.getElem?_eq_some_iff.1 hgg).1; omega
    have hkb2 := hS.out.bk.lt
    have T1 := Lib.hid t1
    have HL := Lib.hid hl
    have HL' := Lib.hid hl'
    have HX := Lib.hid (show l.length ≤ 100000 ∧ (∀ (j : Nat) (x : List Value), l[j]? = some x → x = mkOc p a i j) ∧ l.length ≤ l'.length ∧ (∀ (j : Nat) (x : List Value), l'[j]? = some x → x = mkOc p a i j) from ⟨hl2, fun j x hx => hl3 j x hx trivial, hle, hm'⟩)
    have HLE := Lib.hid hle2
    have HLV := Lib.hid (Kd.R_below hl ((Below.refl wr.heap.size wr).drew))
    have HLD := Lib.hid (Kd.R_below hl' ((Below.refl wr.heap.size wr).drew))
    have HGG := Lib.hid hgg
    have HNG := Lib.hid hng
    have HMG := Lib.hid hmg
    have HF := Lib.hid t6
    have HMX := Lib.hid (show l'.length ≤ 1000000 by rw [if_neg (by omega)] at hle2; omega)
    have hkG : gG ≠ kb := by intro e; have h0 := hS.out.bk.own; rw [← e] at h0; omega
    clear hl hl2 hl3 hG hl' hle hle2 hm' hgg hng hmg
    go_wp2_with fail
    refine (mark_o hS.out.bk (y1 : Int) (mg : Int)).mono ?_
    rintro e w5 ⟨rfl, hB5⟩
    obtain ⟨X, hX⟩ : ∃ X, X = markA p (mg : Int) := ⟨_, rfl⟩
    rw [← hX]
    have HMK := Lib.hid (show mkOc p a i l'.length = [.int .i64 (y1 : Int), .int .i64 X, .int .i64 0, .string ⟨#[]⟩, .string ⟨#[]⟩, .slice none 0 0] by unfold mkOc markO; rw [hX, HY.out, HMG.out])
    have hBn : Below wr.heap.size wr (w5.alloc (.cells #[.int .i64 (y1 : Int), .int .i64 X, .int .i64 0, .string ⟨#[]⟩, .string ⟨#[]⟩, .slice none 0 0] 44)) := hB5.alloc hB5.size _
    have hcells := heap_alloc_new w5 (.cells #[.int .i64 (y1 : Int), .int .i64 X, .int .i64 0, .string ⟨#[]⟩, .string ⟨#[]⟩, .slice none 0 0] 44)
    have HBN := Lib.hid hBn
    have HCELLS := Lib.hid hcells
    clear hX hB5 hBn hcells
    go_wp2_with fail
    obtain ⟨wn, hwn⟩ : ∃ wn, wn = w5.alloc (.cells #[.int .i64 (y1 : Int), .int .i64 X, .int .i64 0, .string ⟨#[]⟩, .string ⟨#[]⟩, .slice none 0 0] 44) := ⟨_, rfl⟩
    obtain ⟨b8, hb8⟩ : ∃ b8, b8 = w5.heap.size := ⟨_, rfl⟩
    rw [← hwn] at HBN HCELLS ⊢
    rw [← hb8] at HCELLS ⊢
    obtain ⟨z0, z1, z2, z3, z4, z5⟩ := op_cells HCELLS.out
    have hb8l : b8 < wn.heap.size := blk_lt HCELLS.out
    have hsn := HBN.out.size
    have hkn : kb < wn.heap.size := by omega
    have hgn : gG < wn.heap.size := by omega
    replace T1 := Lib.hid (pw_cell_below HBN.out t1)
    replace t1 := T1.out
    replace t7 := pw_cell_below HBN.out t7
    have HSN := Lib.hid (hS.out.later HBN.out)
    replace t8 : wn.frozen? ⟨gG, i, none⟩ = false := (World.frozen?_of_block (a := ⟨gG, i, none⟩) (HBN.out.block gG t5)).trans t8
    have HLN := Lib.hid (Kd.R_below HL'.out HBN.out)
    replace HLD := Lib.hid (Kd.R_below HLN.out ((Below.refl wn.heap.size wn).drew))
    replace HLV := Lib.hid (Kd.R_below (Kd.R_below HL.out HBN.out) ((Below.refl wn.heap.size wn).drew))
    have HSD := Lib.hid (HSN.out.later (w1 := wn.drew) (Below.refl _ _).drew)
    have hBe := hS.out.bk.ge
    have HBw := Lib.hid HSN.out.below
    clear hwn hb8 hS HSN d1 d4 d6
    go_region_law (first | (change if Region.wanted ⟨some 63, _, _, _, _, _⟩ _ = true then _ else _; refine elem_step_o (w0 := w) (wr := wn) (B := B) (o' := 2 * i + 1 + 5) (f := f1) (K := (y1 : Int)) (X := X) (rows := l') (by rfl) (.tmp 60) (.tmp 62) (by rfl) (by rfl) (by rfl) HLN.out HBw.out (by omega) HMX.out ?_; intro g1 w1 hR1 hB1 hW1; obtain ⟨A1, c1, hg1, _, _⟩ := hR1.slice; rw [List.length_append, List.length_singleton, ← HMG.out] at hg1; subst hg1; have hmid := gr_mid HLD.out (w1 := w1) hW1; have hk1 : w1.cell? ⟨kb, 52, none⟩ = some (.slice (some ⟨gG, 0, none⟩) ng cG) := (cell_block (hmid kb hkn (by rw [HSD.out.bk.own]; omega)) 52).trans T1.out; have hk3 : w1.cell? ⟨gG, i, none⟩ = some (.slice Ag mg cg) := (cell_block (hmid gG hgn (by rw [HF.out]; omega)) i).trans t7; have hk4 : w1.frozen? ⟨gG, i, none⟩ = false := (World.frozen?_of_block (a := ⟨gG, i, none⟩) (hmid gG hgn (by rw [HF.out]; omega))).trans t8; have HR1 := Lib.hid hR1; have HB1 := Lib.hid hB1; have HW1 := Lib.hid hW1; clear hmid hR1 hB1 hW1))
    all_goals
      have HS3 := Lib.hid (show GrO p a B kb vs f w (ext wn.drew f1 (2 * i + 1 + 5)) (gs1.set i (.slice A1 (mg + 1) c1)) (fun i' => if i' < i + 1 then t + 1 else t) (w1.setCell ⟨gG, i, none⟩ (.slice A1 (mg + 1) c1)) from
        (GrS.grow (g1 := .slice A1 (mg + 1) c1) HSD.out (by omega) (by omega) HV.out HGG.out HLV.out HX.out.1 HX.out.2.1 HLD.out HX.out.2.2.1 HLE.out HX.out.2.2.2 (by rw [HMK.out]; exact HR1.out) HW1.out HB1.out (by rw [← HNG.out]; exact T1.out)).bound (fun i' _ => by
          show (if i' = i then (if i < i then t + 1 else t) + 1 else if i' < i then t + 1 else t) ≤ if i' < i + 1 then t + 1 else t
          by_cases h1 : i' = i
          · rw [if_pos h1, if_neg (by omega), if_pos (by omega)]; omega
          · rw [if_neg h1]
            by_cases h2 : i' < i
            · rw [if_pos h2, if_pos (by omega)]; omega
            · rw [if_neg h2, if_neg (by omega)]; omega))
      have HGL3 := Lib.hid (show (gs1.set i (Value.slice A1 (mg + 1) c1)).length = n by rw [List.length_set]; exact hgl.out)
      have HY3 := Lib.hid (show y1 = a + (i + 1) by rw [HY.out]; omega)
      clear HSD HLN HBN HCELLS z0 z1 z2 z3 z4 z5 HR1 HW1 HB1 hk1 hk3 hk4 t7 t8 t1 T1 HL HL' HLD HLV HX HLE HGG HMX HF hgl
      go_wp2_with fail
      go_roundw
      case rel => exact ⟨i + 1, y1, _, _, rfl, by go_num, HY3, by have := HY3.out; omega, hlt, HGL3, HS3⟩
      case measure => simp [intOf]; omega
  · obtain rfl : i = n := by omega
    obtain ⟨AV, cV, hc1, hc2, hc3⟩ := hS.out.kin.len
    rw [← HN.out] at hc1 hc2
    have HYY := Lib.hid (show (y : Int) = ((a + i : Nat) : Int) by rw [hy.out])
    have HFin := Lib.hid (hS.out.bound (D' := fun _ => t + 1) (fun i _ => by split <;> omega))
    clear hS
    go_wp2_with fail
    go_ret
    exact ⟨by rw [HYY.out]; rfl, f1, gs1, hgl.out, HFin.out⟩

end Go.Proofs.YtbpackopicngmaaGreatDoor
