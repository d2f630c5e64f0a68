/- ScriptOwns: OwJz, merged by gen/merge2.py. -/
import Derived.Test.YtbpackopicngmaaGreatDoorOwJm
namespace Go.Proofs.YtbpackopicngmaaGreatDoor
open Go.RowKit Go.Proofs.Sc Go.Proofs.YtbpackopicngmaaGreatDoorW.PrintWords

set_option maxHeartbeats 8000000 in
set_option maxRecDepth 100000 in
theorem grow0_o {B kb a : Nat} {f : Nat → Nat} {p : Int} {vs : List Value} {w : World} (h : Bk B kb f p w) (hK : KinO p a B kb f vs [] (fun _ _ => True) (fun _ => 0) w) (hn : vs.length ≤ 100000) (ha : a ≤ 1000000) :
    Calls Tryz.prog 137 #[.pointer (some ⟨kb, 0, none⟩), .int .i64 (a : Int), .int .i64 0] w fun e w' => e = .returned (.int .i64 ((a + vs.length : Nat) : Int)) ∧ ∃ f1 gs', gs'.length = vs.length ∧ GrO p a B kb vs f w f1 gs' (fun _ => 0 + 1) w' := by
  obtain ⟨n, hnn⟩ : ∃ n, n = vs.length := ⟨_, rfl⟩
  rw [← hnn] at hn ⊢
  have HK := Lib.hid (GrS.start h hK)
  have HN := Lib.hid hnn
  have k0 : True := trivial
  clear h hK hnn
  go_enter Tryz.func137, Tryz.ntmps137
  go_wp2_with fail
  go_loopw [1, 7] (fun x v wr => ∃ (i y : Nat) (f1 : Nat → Nat) (gs' : List Value), x = .int .i64 (y : Int) ∧ v = .int .i64 (i : Int) ∧ Hid (y = a + i) ∧ y ≤ 3000000 ∧ i ≤ n ∧ Hid (gs'.length = i) ∧ Hid (GrO p a B kb vs f w f1 gs' (fun i' => if i' < i then 0 + 1 else 0) wr)) (fun _ v _ => n - (intOf v).toNat)
  case atStart => exact ⟨0, a, f, [], rfl, rfl, Lib.hid rfl, by omega, Nat.zero_le _, Lib.hid rfl, Lib.hid (HK.out.bound (fun i _ => by split <;> omega))⟩
  case round =>
  clear HK
  obtain ⟨i, y, f1, gs1, rfl, rfl, hy, hy2, hi, hgl, hS⟩ := hrel
  by_cases hlt : i < n
  · obtain ⟨v, hv⟩ : ∃ v, vs[i]? = some v := ⟨vs[i]'(by have := HN.out; omega), List.getElem?_eq_getElem _⟩
    obtain ⟨l0, hl0, hrest⟩ := hS.out.kin.elem i v hv
    clear hrest
    obtain ⟨A, c, hvs, hlc, hlm⟩ := hl0.slice
    obtain ⟨m, hm⟩ : ∃ m, m = l0.length := ⟨_, rfl⟩
    rw [← hm] at hvs hlc
    subst hvs
    obtain ⟨gV, cV, d1, d2, d3, d4, d5, d6⟩ := hS.out.kin.at hv
    rw [← HN.out] at d1 d2
    obtain ⟨y1, hy1⟩ : ∃ y1, y1 = y + 1 := ⟨_, rfl⟩
    have e1 : (y : Int) + 1 = (y1 : Int) := by omega
    have hy3 : y1 ≤ 3000001 := by omega
    have HY := Lib.hid (show y1 = a + i + 1 by rw [hy1, hy.out])
    have i1 : (i : Int) < (n : Int) := by omega
    have wi : IntKind.i64.wrap (i : Int) = (i : Int) := by rw [IntKind.wrap_i64]; omega
    have HV := Lib.hid hv
    have hkb := hS.out.bk.lt
    clear hl0 hm hv hy1
    obtain ⟨A7, c7, g1, g2, g3⟩ := hS.out.kin.lenG
    obtain ⟨V7, hV7, hR7⟩ := hS.out.kin.grown
    replace g1 : wr.cell? ⟨kb, 52, none⟩ = some (.slice A7 gs1.length c7) := g1
    obtain rfl : V7 = .slice A7 gs1.length c7 := Option.some.inj (hV7.symm.trans g1)
    obtain ⟨n7, hn7⟩ : ∃ n7, n7 = gs1.length := ⟨_, rfl⟩
    rw [← hn7] at g1 g2 hR7 hV7
    have HN7 := Lib.hid hn7
    have HR7 := Lib.hid hR7
    have HR7D := Lib.hid (Kd.R_below hR7 ((Below.refl wr.heap.size wr).drew))
    have HML := Lib.hid (show (gs1.map fun v => [v]).length = n7 by rw [List.length_map]; exact hn7.symm)
    have h7l : n7 ≤ 1000000 := by have := hgl.out; omega
    have HSD := Lib.hid (hS.out.later (w1 := wr.drew) (Below.refl _ _).drew)
    have HBw := Lib.hid hS.out.below
    have hBe := hS.out.bk.ge
    clear hn7 hR7 hV7 hS
    go_upto_region 6 with fail
    go_cut [35] from 9 to 64 (fun _ wx => ∃ f2 gs2, Hid (gs2.length = i + 1) ∧ Hid (GrO p a B kb vs f w f2 gs2 (fun i' => if i' < i then 0 + 1 else 0) wx))
    case first =>
      go_region_law (first | (change if Region.wanted ⟨some 35, _, _, _, _, _⟩ _ = true then _ else _; refine outer_step_o (w0 := w) (wr := wr) (B := B) (o' := 2 * 1 + 2) (f := f1) (rows := gs1.map fun v => [v]) (by rfl) (.tmp 26) (.tmp 34) (by rfl) (by rfl) (by rfl) (by rfl) HR7.out HBw.out (by omega) (by rw [HML.out]; exact h7l) ?_; intro V1 w1 hR1 hB1 hW1; obtain ⟨A1, c1, hV1, _, _⟩ := hR1.slice; rw [List.length_append, List.length_singleton, HML.out] at hV1; subst hV1; have hmid := gr_mid HR7D.out (w1 := w1) hW1; have hk1 : w1.cell? ⟨kb, 52, none⟩ = some (.slice A7 n7 c7) := (cell_block (hmid kb hkb (by rw [HSD.out.bk.own]; omega)) 52).trans g1; have hk2 : w1.frozen? ⟨kb, 52, none⟩ = false := (by obtain ⟨cs, hcs⟩ := HSD.out.bk.blk; exact blk_frozen ((hmid kb hkb (by rw [HSD.out.bk.own]; omega)).trans hcs) 52); have HR1 := Lib.hid hR1; have HB1 := Lib.hid hB1; have HW1 := Lib.hid hW1; clear hmid hR1 hB1 hW1))
      all_goals
        have HP := Lib.hid (show GrO p a B kb vs f w (ext wr.drew f1 (2 * 1 + 2)) (gs1 ++ [.slice A m c]) (fun i' => if i' < i then 0 + 1 else 0) (w1.setCell ⟨kb, 52, none⟩ (.slice A1 (n7 + 1) c1)) from
          GrS.push (V := .slice A7 n7 c7) HSD.out (Or.inr rfl) (by omega) (by rw [hgl.out]; exact HV.out) g1 HR7D.out HR1.out (by have := HW1.out; rwa [List.length_map] at this) HB1.out)
        have HGP := Lib.hid (show (gs1 ++ [Value.slice A m c]).length = i + 1 by rw [List.length_append, List.length_singleton, hgl.out])
        clear HR1 HB1 HW1 hk1 hk2 HR7 HR7D HSD g1 hgl
        go_wp2_with fail
        go_meet
        exact ⟨_, _, HGP, HP⟩
    case rest =>
    obtain ⟨f2, gs2, hgl2, hS2⟩ := hcut
    obtain ⟨wr2, hwr2⟩ : ∃ wr2, wr2 = wc := ⟨_, rfl⟩
    rw [← hwr2] at hS2 ⊢
    clear hwr2 HSD HBw HR7 HR7D HML g1 g2 g3 HN7 hgl d1 d4 d6 hBe

    obtain ⟨gg, hgg⟩ : ∃ gg, gs2[i]? = some gg := ⟨gs2[i]'(by have := hgl2.out; omega), List.getElem?_eq_getElem _⟩
    obtain ⟨l, hl, hl2, hl3, hG⟩ := hS2.out.kin.elem i _ HV.out
    obtain ⟨l', hl', hle, hle2, hm'⟩ := hG gg hgg
    obtain ⟨gG, cG, t1, t2, t3, t4, t5, t6, t7, t8⟩ := hS2.out.kin.atG hgg
    obtain ⟨Ag, cg, hvg, hlg, hlgm⟩ := hl'.slice
    obtain ⟨mg, hmg⟩ : ∃ mg, mg = l'.length := ⟨_, rfl⟩
    rw [← hmg] at hvg hlg
    subst hvg
    obtain ⟨ng, hng⟩ : ∃ ng, ng = gs2.length := ⟨_, rfl⟩
    rw [← hng] at t1 t2
    replace t1 : wr2.cell? ⟨kb, 52, none⟩ = some (.slice (some ⟨gG, 0, none⟩) ng cG) := t1
    have j1 : (i : Int) < (ng : Int) := by have := (List.getElem?_eq_some_iff.1 hgg).1; omega
    have hkb2 := hS2.out.bk.lt
    have T1 := Lib.hid t1
    have HL := Lib.hid hl
    have HL' := Lib.hid hl'
    have HX := Lib.hid (show l.length ≤ 100000 ∧ (∀ (j : Nat) (x : List Value), l[j]? = some x → x = mkOc p a i j) ∧ l.length ≤ l'.length ∧ (∀ (j : Nat) (x : List Value), l'[j]? = some x → x = mkOc p a i j) from ⟨hl2, fun j x hx => hl3 j x hx trivial, hle, hm'⟩)
    have HLE := Lib.hid hle2
    have HLV := Lib.hid (Kd.R_below hl ((Below.refl wr2.heap.size wr2).drew))
    have HLD := Lib.hid (Kd.R_below hl' ((Below.refl wr2.heap.size wr2).drew))
    have HGG := Lib.hid hgg
    have HNG := Lib.hid hng
    have HMG := Lib.hid hmg
    have HF := Lib.hid t6
    have HMX := Lib.hid (show l'.length ≤ 1000000 by rw [if_neg (by omega)] at hle2; omega)
    have hkG : gG ≠ kb := by intro e; have h0 := hS2.out.bk.own; rw [← e] at h0; omega
    clear hl hl2 hl3 hG hl' hle hle2 hm' hgg hng hmg
    go_wp2_with fail
    refine (mark_o hS2.out.bk (y1 : Int) (mg : Int)).mono ?_
    rintro e w5 ⟨rfl, hB5⟩
    obtain ⟨X, hX⟩ : ∃ X, X = markA p (mg : Int) := ⟨_, rfl⟩
    rw [← hX]
    have HMK := Lib.hid (show mkOc p a i l'.length = [.int .i64 (y1 : Int), .int .i64 X, .int .i64 0, .string ⟨#[]⟩, .string ⟨#[]⟩, .slice none 0 0] by unfold mkOc markO; rw [hX, HY.out, HMG.out])
    have hBn : Below wr2.heap.size wr2 (w5.alloc (.cells #[.int .i64 (y1 : Int), .int .i64 X, .int .i64 0, .string ⟨#[]⟩, .string ⟨#[]⟩, .slice none 0 0] 44)) := hB5.alloc hB5.size _
    have hcells := heap_alloc_new w5 (.cells #[.int .i64 (y1 : Int), .int .i64 X, .int .i64 0, .string ⟨#[]⟩, .string ⟨#[]⟩, .slice none 0 0] 44)
    have HBN := Lib.hid hBn
    have HCELLS := Lib.hid hcells
    clear hX hB5 hBn hcells
    go_wp2_with fail
    obtain ⟨wn, hwn⟩ : ∃ wn, wn = w5.alloc (.cells #[.int .i64 (y1 : Int), .int .i64 X, .int .i64 0, .string ⟨#[]⟩, .string ⟨#[]⟩, .slice none 0 0] 44) := ⟨_, rfl⟩
    obtain ⟨b8, hb8⟩ : ∃ b8, b8 = w5.heap.size := ⟨_, rfl⟩
    rw [← hwn] at HBN HCELLS ⊢
    rw [← hb8] at HCELLS ⊢
    obtain ⟨z0, z1, z2, z3, z4, z5⟩ := op_cells HCELLS.out
    have hb8l : b8 < wn.heap.size := blk_lt HCELLS.out
    have hsn := HBN.out.size
    have hkn : kb < wn.heap.size := by omega
    have hgn : gG < wn.heap.size := by omega
    replace T1 := Lib.hid (pw_cell_below HBN.out t1)
    replace t1 := T1.out
    replace t7 := pw_cell_below HBN.out t7
    have HSN := Lib.hid (hS2.out.later HBN.out)
    replace t8 : wn.frozen? ⟨gG, i, none⟩ = false := (World.frozen?_of_block (a := ⟨gG, i, none⟩) (HBN.out.block gG t5)).trans t8
    have HLN := Lib.hid (Kd.R_below HL'.out HBN.out)
    replace HLD := Lib.hid (Kd.R_below HLN.out ((Below.refl wn.heap.size wn).drew))
    replace HLV := Lib.hid (Kd.R_below (Kd.R_below HL.out HBN.out) ((Below.refl wn.heap.size wn).drew))
    have HSD := Lib.hid (HSN.out.later (w1 := wn.drew) (Below.refl _ _).drew)
    have hBe := hS2.out.bk.ge
    have HBw := Lib.hid HSN.out.below
    clear hwn hb8 hS2 HSN
    go_region_law (first | (change if Region.wanted ⟨some 63, _, _, _, _, _⟩ _ = true then _ else _; refine elem_step_o (w0 := w) (wr := wn) (B := B) (o' := 2 * i + 1 + 5) (f := f2) (K := (y1 : Int)) (X := X) (rows := l') (by rfl) (.tmp 60) (.tmp 62) (by rfl) (by rfl) (by rfl) HLN.out HBw.out (by omega) HMX.out ?_; intro g1 w1 hR1 hB1 hW1; obtain ⟨A1, c1, hg1, _, _⟩ := hR1.slice; rw [List.length_append, List.length_singleton, ← HMG.out] at hg1; subst hg1; have hmid := gr_mid HLD.out (w1 := w1) hW1; have hk1 : w1.cell? ⟨kb, 52, none⟩ = some (.slice (some ⟨gG, 0, none⟩) ng cG) := (cell_block (hmid kb hkn (by rw [HSD.out.bk.own]; omega)) 52).trans T1.out; have hk3 : w1.cell? ⟨gG, i, none⟩ = some (.slice Ag mg cg) := (cell_block (hmid gG hgn (by rw [HF.out]; omega)) i).trans t7; have hk4 : w1.frozen? ⟨gG, i, none⟩ = false := (World.frozen?_of_block (a := ⟨gG, i, none⟩) (hmid gG hgn (by rw [HF.out]; omega))).trans t8; have HR1 := Lib.hid hR1; have HB1 := Lib.hid hB1; have HW1 := Lib.hid hW1; clear hmid hR1 hB1 hW1))
    all_goals
      have HS3 := Lib.hid (show GrO p a B kb vs f w (ext wn.drew f2 (2 * i + 1 + 5)) (gs2.set i (.slice A1 (mg + 1) c1)) (fun i' => if i' < i + 1 then 0 + 1 else 0) (w1.setCell ⟨gG, i, none⟩ (.slice A1 (mg + 1) c1)) from
        (GrS.grow (g1 := .slice A1 (mg + 1) c1) HSD.out (by omega) (by omega) HV.out HGG.out HLV.out HX.out.1 HX.out.2.1 HLD.out HX.out.2.2.1 HLE.out HX.out.2.2.2 (by rw [HMK.out]; exact HR1.out) HW1.out HB1.out (by rw [← HNG.out]; exact T1.out)).bound (fun i' _ => by
          show (if i' = i then (if i < i then 0 + 1 else 0) + 1 else if i' < i then 0 + 1 else 0) ≤ if i' < i + 1 then 0 + 1 else 0
          by_cases h1 : i' = i
          · rw [if_pos h1, if_neg (by omega), if_pos (by omega)]; omega
          · rw [if_neg h1]
            by_cases h2 : i' < i
            · rw [if_pos h2, if_pos (by omega)]; omega
            · rw [if_neg h2, if_neg (by omega)]; omega))
      have HGL3 := Lib.hid (show (gs2.set i (Value.slice A1 (mg + 1) c1)).length = i + 1 by rw [List.length_set]; exact hgl2.out)
      have HY3 := Lib.hid (show y1 = a + (i + 1) by rw [HY.out]; omega)
      clear HSD HLN HBN HCELLS z0 z1 z2 z3 z4 z5 HR1 HW1 HB1 hk1 hk3 hk4 t7 t8 t1 T1 HL HL' HLD HLV HX HLE HGG HMX HF hgl2
      go_wp2_with fail
      go_roundw
      case rel => exact ⟨i + 1, y1, _, _, rfl, by go_num, HY3, by have := HY3.out; omega, hlt, HGL3, HS3⟩
      case measure => simp [intOf]; omega
  · obtain rfl : i = n := by omega
    obtain ⟨AV, cV, hc1, hc2, hc3⟩ := hS.out.kin.len
    rw [← HN.out] at hc1 hc2
    have HYY := Lib.hid (show (y : Int) = ((a + i : Nat) : Int) by rw [hy.out])
    have HFin := Lib.hid (hS.out.bound (D' := fun _ => 0 + 1) (fun i _ => by split <;> omega))
    clear hS
    go_wp2_with fail
    go_ret
    exact ⟨by rw [HYY.out]; rfl, f1, gs1, hgl.out, HFin.out⟩
end Go.Proofs.YtbpackopicngmaaGreatDoor
