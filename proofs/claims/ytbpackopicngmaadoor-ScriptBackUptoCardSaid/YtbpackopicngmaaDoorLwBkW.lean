/- ScriptBack's walk (written by gen/mkBk.py). -/
import Derived.Test.YtbpackopicngmaaDoorLwBk
import Derived.Test.YtbpackopicngmaaDoorLwBkF
namespace Go.Proofs.YtbpackopicngmaaDoor
open Go.RowKit Go.Proofs.Sc Go.Proofs.YtbpackopicngmaaDoorW.PrintWords

theorem read_fits {o : POp} (h : Sc.Read 2097152 o) : OpFits o := by
  have hk := fault_kind h.fault
  unfold Sc.kindOk at hk
  exact ⟨by omega, by omega, by have := h.name; omega, by have := h.text; omega, by have := h.list; omega⟩

theorem bs_later {w : World} {cap : Int} {A : Option Addr} {m c : Nat} {W W1 : World} (h : W.cell? ⟨w.heap.size, 0, none⟩ = some (.int .i64 cap) ∧ W.cell? ⟨w.heap.size, 1, none⟩ = some (.slice A m c) ∧ Below w.heap.size w W) (hb : Below W.heap.size W W1) : W1.cell? ⟨w.heap.size, 0, none⟩ = some (.int .i64 cap) ∧ W1.cell? ⟨w.heap.size, 1, none⟩ = some (.slice A m c) ∧ Below w.heap.size w W1 := by
  obtain ⟨h0, h1, h2⟩ := h
  have k : ∀ (a : Addr) v, W.cell? a = some v → W1.cell? a = some v := fun a v e => by rw [hb.cell (World.block_lt_of_cell? W a e)]; exact e
  exact ⟨k _ _ h0, k _ _ h1, h2.trans (hb.mono h2.size)⟩

theorem bs_below {w : World} {cap : Int} {A : Option Addr} {m c : Nat} {W : World} (h : W.cell? ⟨w.heap.size, 0, none⟩ = some (.int .i64 cap) ∧ W.cell? ⟨w.heap.size, 1, none⟩ = some (.slice A m c) ∧ Below w.heap.size w W) : Below w.heap.size w W := h.2.2

set_option maxHeartbeats 8000000 in
set_option maxRecDepth 100000 in
theorem ScriptBack_any (cap : Int) (ops : List POp) (A : Option Addr) (c : Nat) (text : ByteArray) (w : World) (hC : kOp.C w A ops.length ops) (hc : ops.length ≤ c) (hk : ∀ o ∈ ops, -9223372036854775808 ≤ o.kind ∧ o.kind ≤ 9223372036854775807) {B : Nat} (hE : Env B w) :
    Calls Tryd.prog 7 #[.agg #[.int .i64 cap, .slice A ops.length c], .string text] w fun e w' => e = .returned (.bool true) ∧ Below w.heap.size w w' := by
  have hEW : Env w.heap.size w := hE.up hE.le (Nat.le_refl _)
  clear hE
  have HC := Lib.hid hC
  have HL := Lib.hid hc
  have HK := Lib.hid hk
  have hb0 : Below w.heap.size w (w.alloc (.cells #[.int .i64 cap, .slice A ops.length c] 36)) := (Below.refl _ _).alloc (Nat.le_refl _) _
  have HB0 := Lib.hid hb0
  have HN0 := Lib.hid (show (w.alloc (.cells #[.int .i64 cap, .slice A ops.length c] 36)).heap[w.heap.size]? = some (.cells #[.int .i64 cap, .slice A ops.length c] 36 (0, 0)) from new_at _ _ _ rfl)
  clear hC hc hk hb0
  by_cases hl : 2097152 < text.size
  · have k1 : decide (2097152 < text.size) = true := decide_eq_true hl
    have m1 : decide ((2097152 : Int) < (text.size : Int)) = true := decide_eq_true (by omega)
    clear hl
    go_enter Tryd.func7, Tryd.ntmps7
    go_wp2_with fail
    refine (lawFirst_any _ (hEW.belowB HB0.out)).mono ?_
    rintro e1 w1 ⟨rfl, hB1⟩
    obtain ⟨x0, x1, f0, f1⟩ := script_cells ((hB1.block _ (blk_lt HN0.out)).trans HN0.out)
    have HB1 := Lib.hid (HB0.out.trans (hB1.mono HB0.out.size))
    clear hB1
    go_wp2_with fail
    refine (fits_any cap ops A c _ (Kd.C_below HC.out HB1.out) HL.out).mono ?_
    rintro e2 w2 ⟨⟨r, rfl, _⟩, hB2⟩
    have HB2 := Lib.hid (HB1.out.trans (hB2.mono HB1.out.size))
    clear hB2
    cases r
    · go_wp2_with fail
      go_ret
      exact ⟨rfl, HB2.out⟩
    · go_wp2_with fail
      go_ret
      exact ⟨rfl, HB2.out⟩
  have k1 : decide (2097152 < text.size) = false := decide_eq_false hl
  have m1 : decide ((2097152 : Int) < (text.size : Int)) = false := decide_eq_false (by omega)
  go_enter Tryd.func7, Tryd.ntmps7
  go_wp2_with fail
  refine (lawFirst_any _ (hEW.belowB HB0.out)).mono ?_
  rintro e1 w1 ⟨rfl, hB1⟩
  have h1 := (hB1.block _ (blk_lt HN0.out)).trans HN0.out
  obtain ⟨x0, x1, f0, f1⟩ := script_cells h1
  have H1 := Lib.hid h1
  have HB1 := Lib.hid (HB0.out.trans (hB1.mono HB0.out.size))
  clear hB1 h1
  go_wp2_with fail
  refine (fits_any cap ops A c _ (Kd.C_below HC.out HB1.out) HL.out).mono ?_
  rintro e2 w2 ⟨⟨r, rfl, hr⟩, hB2⟩
  have h2 := (hB2.block _ (blk_lt H1.out)).trans H1.out
  have HB2 := Lib.hid (HB1.out.trans (hB2.mono HB1.out.size))
  clear hB2 x0 x1 f0 f1
  cases r
  · clear hr h2
    go_wp2_with fail
    go_ret
    exact ⟨rfl, HB2.out⟩
  obtain ⟨hsm, hsz⟩ := hr rfl
  clear hr
  have HFO := Lib.hid (show ∀ o ∈ ops, OpFits o from fun o ho => ⟨(HK.out o ho).1, (HK.out o ho).2, by have := (hsz o ho).1; omega, by have := (hsz o ho).2.1; omega, by have := (hsz o ho).2.2; omega⟩)
  have HLI := Lib.hid (show ∀ o ∈ ops, o.list.length ≤ 33554432 from fun o ho => (HFO.out o ho).list)
  obtain ⟨x0, x1, f0, f1⟩ := script_cells h2
  have H2 := Lib.hid h2
  have hop : ops.length ≤ 4194304 := by omega
  have hS2 := Lib.hid (show w2.drew.cell? ⟨w.heap.size, 0, none⟩ = some (.int .i64 cap) ∧ w2.drew.cell? ⟨w.heap.size, 1, none⟩ = some (.slice A ops.length c) ∧ Below w.heap.size w w2.drew from ⟨x0, x1, HB2.out.drew⟩)
  clear hsz h2 f0 f1
  rcases print_cases ⟨cap, ops⟩ with ⟨ec, hp, hec⟩ | ⟨hp, hbl, hpb⟩
  · have HPR := Lib.hid hp
    have q1 : (ec == 0) = false := by simpa using hec
    clear hp hec
    go_wp2_with fail
    go_region_held3 (fun W => W.cell? ⟨w.heap.size, 0, none⟩ = some (.int .i64 cap) ∧ W.cell? ⟨w.heap.size, 1, none⟩ = some (.slice A ops.length c) ∧ Below w.heap.size w W) (first | with_reducible exact hS2.out | with_reducible exact bs_later (by assumption) (by assumption)) (first | (go_at_call 20; refine (refOps_any ops A ops.length c _ (Kd.C_below HC.out (bs_below (by assumption))) hop HLI.out).mono ?_; rintro e3 w3 ⟨⟨v3, rfl, hR3⟩, hB3⟩; obtain ⟨A3, c3, rfl, _, hC3⟩ := Kd.R_reads hR3) | (go_at_call 19; refine (Print_any cap ops A3 c3 _ (hEW.belowB (bs_below (by assumption))) HFO.out hC3).mono ?_; rintro e4 w4 hP4; obtain ⟨rfl, hB4⟩ := print_at hP4 HPR.out))
    have HX := Lib.hid (hS2.out.2.2.trans ((hB3.trans (hB4.mono hB3.size)).mono hS2.out.2.2.size))

    clear hP4 hB4 hC3 hR3 hB3 x0 x1
    go_wp2_with fail
    refine (num_any _ _).mono ?_
    rintro e20 w20 ⟨rfl, rfl⟩

    rcases parse_st text.data.toList headOf_codes stepOf_codes with ⟨s, hp, hrd, hpr⟩ | ⟨l, e, hp, he⟩
    · have HP := Lib.hid hp
      have HFIT := Lib.hid (show ∀ o ∈ s.ops, OpFits o from fun o ho => read_fits (hrd o ho))
      clear hp hrd
      go_wp2_with fail
      refine (Parse_any text (by omega) _ (hEW.belowB HX.out)).mono ?_
      rintro e5 w5 hP
      obtain ⟨A5, d5, rfl, hl5, hC5, hB5⟩ := parse_at hP HP.out
      have hq5 : Below w5.heap.size w5 (w5.alloc (.cells #[.int .i64 s.cap, .slice A5 s.ops.length d5] 36)) := (Below.refl _ _).alloc (Nat.le_refl _) _
      have HQ5 := Lib.hid hq5
      have HX5 := Lib.hid (HX.out.trans (hB5.mono HX.out.size))
      have HXA := Lib.hid (HX5.out.trans (hq5.mono HX5.out.size))
      have HC5 := Lib.hid (Kd.C_below hC5 hq5)
      have HL5 := Lib.hid hl5
      clear hP hl5 hC5 hB5 hq5
      go_wp2_with fail
      refine (num_any _ _).mono ?_
      rintro e6 w6 ⟨rfl, rfl⟩
      rcases hpr with ⟨hp1, hp2, hp3⟩ | hp1
      · have HP1 := Lib.hid hp1
        have HP2 := Lib.hid hp2
        clear hp1 hp2
        go_wp2_with fail
        refine (Print_any s.cap s.ops A5 d5 _ (hEW.belowB HXA.out) HFIT.out HC5.out).mono ?_
        rintro e7 w7 hP
        obtain ⟨rfl, hB7⟩ := print_at hP HP1.out
        have h57 : w7.heap[w5.heap.size]? = some (.cells #[.int .i64 s.cap, .slice A5 s.ops.length d5] 36 (0, 0)) := (hB7.block _ (by simp)).trans (new_at _ _ _ rfl)
        have H57 := Lib.hid h57
        have HX7 := Lib.hid (HXA.out.trans (hB7.mono HXA.out.size))
        have HC7 := Lib.hid (Kd.C_below HC5.out hB7)
        clear hP hB7 h57
        go_wp2_with fail
        refine (num_any _ _).mono ?_
        rintro e8 w8 ⟨rfl, rfl⟩
        go_wp2_with fail
        refine (Parse_any ⟨(body s).toArray⟩ (by rw [mk_size]; omega) _ (hEW.belowB HX7.out)).mono ?_
        rintro e8 w8 hP
        obtain ⟨A8, d8, rfl, hl8, hC8, hB8⟩ := parse_at hP HP2.out
        have hq8 : Below w8.heap.size w8 (w8.alloc (.cells #[.int .i64 s.cap, .slice A8 s.ops.length d8] 36)) := (Below.refl _ _).alloc (Nat.le_refl _) _
        have h58 : w8.heap[w5.heap.size]? = some (.cells #[.int .i64 s.cap, .slice A5 s.ops.length d5] 36 (0, 0)) := (hB8.block _ (blk_lt H57.out)).trans H57.out
        have HX8 := Lib.hid (HX7.out.trans (hB8.mono HX7.out.size))
        have HX8A := Lib.hid (HX8.out.trans (hq8.mono HX8.out.size))
        have HC58 := Lib.hid (Kd.C_below (Kd.C_below HC7.out hB8) hq8)
        have HC8 := Lib.hid (Kd.C_below hC8 hq8)
        have HL8 := Lib.hid hl8
        have H58 := Lib.hid ((hq8.block _ (blk_lt h58)).trans h58)
        clear hP hl8 hC8 hB8 hq8 h58
        go_wp2_with fail
        refine (Print_any s.cap s.ops A8 d8 _ (hEW.belowB HX8A.out) HFIT.out HC8.out).mono ?_
        rintro e9 w9 hP
        obtain ⟨rfl, hB9⟩ := print_at hP HP1.out
        have h89 : w9.heap[w8.heap.size]? = some (.cells #[.int .i64 s.cap, .slice A8 s.ops.length d8] 36 (0, 0)) := (hB9.block _ (by simp)).trans (new_at _ _ _ rfl)
        have h59 := (hB9.block _ (blk_lt H58.out)).trans H58.out
        obtain ⟨y0, y1, f0, f1⟩ := script_cells h89
        obtain ⟨z0, z1, g0, g1⟩ := script_cells h59
        have HX9 := Lib.hid (HX8A.out.trans (hB9.mono HX8A.out.size))
        have HC59 := Lib.hid (Kd.C_below HC58.out hB9)
        have HC89 := Lib.hid (Kd.C_below HC8.out hB9)
        clear hP hB9 h89 h59
        go_wp2_with fail
        refine (same_any s s A8 A5 d8 d5 _ HC89.out HC59.out HL8.out HL5.out).mono ?_
        rintro e10 w10 ⟨⟨r, rfl, hr⟩, hB10⟩
        obtain rfl := hr.2 rfl
        have HX10 := Lib.hid (HX9.out.trans (hB10.mono HX9.out.size))
        clear hr hB10 y0 y1 f0 f1 z0 z1 g0 g1
        go_wp2_with fail
        refine (num_any _ _).mono ?_
        rintro e11 w11 ⟨rfl, rfl⟩
        go_wp2_with fail
        refine (num_any _ _).mono ?_
        rintro e11 w11 ⟨rfl, rfl⟩
        go_wp2_with fail
        go_ret
        exact ⟨rfl, HX10.out⟩
      · have HP1 := Lib.hid hp1
        clear hp1
        go_wp2_with fail
        refine (Print_any s.cap s.ops A5 d5 _ (hEW.belowB HXA.out) HFIT.out HC5.out).mono ?_
        rintro e7 w7 hP
        obtain ⟨rfl, hB7⟩ := print_at hP HP1.out
        have HX7 := Lib.hid (HXA.out.trans (hB7.mono HXA.out.size))
        clear hP hB7
        go_wp2_with fail
        refine (num_any _ _).mono ?_
        rintro e8 w8 ⟨rfl, rfl⟩
        go_wp2_with fail
        refine (num_any _ _).mono ?_
        rintro e8 w8 ⟨rfl, rfl⟩
        go_wp2_with fail
        go_ret
        exact ⟨rfl, HX7.out⟩
    · have HP := Lib.hid hp
      have q1 : (e != 0) = true := by simpa using he
      have q2 : (e == 0) = false := by simpa using he
      clear hp he
      go_wp2_with fail
      refine (Parse_any text (by omega) _ (hEW.belowB HX.out)).mono ?_
      rintro e5 w5 hP
      obtain ⟨A5, d5, rfl, hl5, hC5, hB5⟩ := parse_at hP HP.out
      have hq5 : Below w5.heap.size w5 (w5.alloc (.cells #[.int .i64 PScript.zero.cap, .slice A5 PScript.zero.ops.length d5] 36)) := (Below.refl _ _).alloc (Nat.le_refl _) _
      have HX5 := Lib.hid (HX.out.trans (hB5.mono HX.out.size))
      have HXA := Lib.hid (HX5.out.trans (hq5.mono HX5.out.size))
      clear hP hl5 hC5 hB5 hq5
      go_wp2_with fail
      refine (num_any _ _).mono ?_
      rintro e6 w6 ⟨rfl, rfl⟩
      go_wp2_with fail
      go_ret
      exact ⟨rfl, HXA.out⟩
  · obtain ⟨bd, hbd⟩ : ∃ bd, bd = body ⟨cap, ops⟩ := ⟨_, rfl⟩
    rw [← hbd] at hp hbl hpb
    have HPR := Lib.hid hp
    have HPB := Lib.hid hpb
    have k3 : decide (1048576 < bd.length) = false := decide_eq_false (by omega)
    have m3 : decide ((1048576 : Int) < (bd.length : Int)) = false := decide_eq_false (by omega)
    have H2D := Lib.hid (show w2.drew.heap[w.heap.size]? = some (.cells #[.int .i64 cap, .slice A ops.length c] 36 (0, 0)) from H2.out)
    clear hp hpb hbd
    go_wp2_with fail
    go_region_held3 (fun W => W.cell? ⟨w.heap.size, 0, none⟩ = some (.int .i64 cap) ∧ W.cell? ⟨w.heap.size, 1, none⟩ = some (.slice A ops.length c) ∧ Below w.heap.size w W) (first | with_reducible exact hS2.out | with_reducible exact bs_later (by assumption) (by assumption)) (first | (go_at_call 20; refine (refOps_any ops A ops.length c _ (Kd.C_below HC.out (bs_below (by assumption))) hop HLI.out).mono ?_; rintro e3 w3 ⟨⟨v3, rfl, hR3⟩, hB3⟩; obtain ⟨A3, c3, rfl, _, hC3⟩ := Kd.R_reads hR3) | (go_at_call 19; refine (Print_any cap ops A3 c3 _ (hEW.belowB (bs_below (by assumption))) HFO.out hC3).mono ?_; rintro e4 w4 hP4; obtain ⟨rfl, hB4⟩ := print_at hP4 HPR.out))
    have HX := Lib.hid (hS2.out.2.2.trans ((hB3.trans (hB4.mono hB3.size)).mono hS2.out.2.2.size))

    have H34 := Lib.hid (show w4.heap[w.heap.size]? = some (.cells #[.int .i64 cap, .slice A ops.length c] 36 (0, 0)) from (hB4.block _ (Nat.lt_of_lt_of_le (blk_lt H2D.out) hB3.size)).trans ((hB3.block _ (blk_lt H2D.out)).trans H2D.out))
    have HC4 := Lib.hid (Kd.C_below HC.out HX.out)
    clear hP4 hB4 hC3 hR3 hB3 x0 x1 H2 H2D hS2
    go_wp2_with fail
    refine (num_any _ _).mono ?_
    rintro e20 w20 ⟨rfl, rfl⟩
    go_wp2_with fail
    refine (Parse_any ⟨bd.toArray⟩ (by rw [mk_size]; omega) _ (hEW.belowB HX.out)).mono ?_
    rintro e21 w21 hP
    obtain ⟨A21, d21, rfl, hl21, hC21, hB21⟩ := parse_at hP HPB.out
    have hq21 : Below w21.heap.size w21 (w21.alloc (.cells #[.int .i64 cap, .slice A21 ops.length d21] 36)) := (Below.refl _ _).alloc (Nat.le_refl _) _
    have HX21 := Lib.hid (HX.out.trans (hB21.mono HX.out.size))
    have HXA21 := Lib.hid (HX21.out.trans (hq21.mono HX21.out.size))
    have h21 := (hB21.block _ (blk_lt H34.out)).trans H34.out
    obtain ⟨x0, x1, f0, f1⟩ := script_cells h21
    have hlt21 := blk_lt h21
    have HCN := Lib.hid (Kd.C_below hC21 hq21)
    have HCO := Lib.hid (Kd.C_below (Kd.C_below HC4.out hB21) hq21)
    have HL21 := Lib.hid hl21
    clear hP hl21 hC21 hB21 hq21 h21 HX H34
    go_wp2_with fail
    refine (same_any ⟨cap, ops⟩ ⟨cap, ops⟩ A21 A d21 c _ HCN.out HCO.out HL21.out HL.out).mono ?_
    rintro e22 w22 ⟨⟨r, rfl, hr⟩, hB22⟩
    obtain rfl := hr.2 rfl
    have HX := Lib.hid (HXA21.out.trans (hB22.mono HXA21.out.size))
    clear hr hB22 x0 x1 f0 f1
    go_wp2_with fail
    refine (num_any _ _).mono ?_
    rintro e23 w23 ⟨rfl, rfl⟩

    rcases parse_st text.data.toList headOf_codes stepOf_codes with ⟨s, hp, hrd, hpr⟩ | ⟨l, e, hp, he⟩
    · have HP := Lib.hid hp
      have HFIT := Lib.hid (show ∀ o ∈ s.ops, OpFits o from fun o ho => read_fits (hrd o ho))
      clear hp hrd
      go_wp2_with fail
      refine (Parse_any text (by omega) _ (hEW.belowB HX.out)).mono ?_
      rintro e5 w5 hP
      obtain ⟨A5, d5, rfl, hl5, hC5, hB5⟩ := parse_at hP HP.out
      have hq5 : Below w5.heap.size w5 (w5.alloc (.cells #[.int .i64 s.cap, .slice A5 s.ops.length d5] 36)) := (Below.refl _ _).alloc (Nat.le_refl _) _
      have HQ5 := Lib.hid hq5
      have HX5 := Lib.hid (HX.out.trans (hB5.mono HX.out.size))
      have HXA := Lib.hid (HX5.out.trans (hq5.mono HX5.out.size))
      have HC5 := Lib.hid (Kd.C_below hC5 hq5)
      have HL5 := Lib.hid hl5
      clear hP hl5 hC5 hB5 hq5
      go_wp2_with fail
      refine (num_any _ _).mono ?_
      rintro e6 w6 ⟨rfl, rfl⟩
      rcases hpr with ⟨hp1, hp2, hp3⟩ | hp1
      · have HP1 := Lib.hid hp1
        have HP2 := Lib.hid hp2
        clear hp1 hp2
        go_wp2_with fail
        refine (Print_any s.cap s.ops A5 d5 _ (hEW.belowB HXA.out) HFIT.out HC5.out).mono ?_
        rintro e7 w7 hP
        obtain ⟨rfl, hB7⟩ := print_at hP HP1.out
        have h57 : w7.heap[w5.heap.size]? = some (.cells #[.int .i64 s.cap, .slice A5 s.ops.length d5] 36 (0, 0)) := (hB7.block _ (by simp)).trans (new_at _ _ _ rfl)
        have H57 := Lib.hid h57
        have HX7 := Lib.hid (HXA.out.trans (hB7.mono HXA.out.size))
        have HC7 := Lib.hid (Kd.C_below HC5.out hB7)
        clear hP hB7 h57
        go_wp2_with fail
        refine (num_any _ _).mono ?_
        rintro e8 w8 ⟨rfl, rfl⟩
        go_wp2_with fail
        refine (Parse_any ⟨(body s).toArray⟩ (by rw [mk_size]; omega) _ (hEW.belowB HX7.out)).mono ?_
        rintro e8 w8 hP
        obtain ⟨A8, d8, rfl, hl8, hC8, hB8⟩ := parse_at hP HP2.out
        have hq8 : Below w8.heap.size w8 (w8.alloc (.cells #[.int .i64 s.cap, .slice A8 s.ops.length d8] 36)) := (Below.refl _ _).alloc (Nat.le_refl _) _
        have h58 : w8.heap[w5.heap.size]? = some (.cells #[.int .i64 s.cap, .slice A5 s.ops.length d5] 36 (0, 0)) := (hB8.block _ (blk_lt H57.out)).trans H57.out
        have HX8 := Lib.hid (HX7.out.trans (hB8.mono HX7.out.size))
        have HX8A := Lib.hid (HX8.out.trans (hq8.mono HX8.out.size))
        have HC58 := Lib.hid (Kd.C_below (Kd.C_below HC7.out hB8) hq8)
        have HC8 := Lib.hid (Kd.C_below hC8 hq8)
        have HL8 := Lib.hid hl8
        have H58 := Lib.hid ((hq8.block _ (blk_lt h58)).trans h58)
        clear hP hl8 hC8 hB8 hq8 h58
        go_wp2_with fail
        refine (Print_any s.cap s.ops A8 d8 _ (hEW.belowB HX8A.out) HFIT.out HC8.out).mono ?_
        rintro e9 w9 hP
        obtain ⟨rfl, hB9⟩ := print_at hP HP1.out
        have h89 : w9.heap[w8.heap.size]? = some (.cells #[.int .i64 s.cap, .slice A8 s.ops.length d8] 36 (0, 0)) := (hB9.block _ (by simp)).trans (new_at _ _ _ rfl)
        have h59 := (hB9.block _ (blk_lt H58.out)).trans H58.out
        obtain ⟨y0, y1, f0, f1⟩ := script_cells h89
        obtain ⟨z0, z1, g0, g1⟩ := script_cells h59
        have HX9 := Lib.hid (HX8A.out.trans (hB9.mono HX8A.out.size))
        have HC59 := Lib.hid (Kd.C_below HC58.out hB9)
        have HC89 := Lib.hid (Kd.C_below HC8.out hB9)
        clear hP hB9 h89 h59
        go_wp2_with fail
        refine (same_any s s A8 A5 d8 d5 _ HC89.out HC59.out HL8.out HL5.out).mono ?_
        rintro e10 w10 ⟨⟨r, rfl, hr⟩, hB10⟩
        obtain rfl := hr.2 rfl
        have HX10 := Lib.hid (HX9.out.trans (hB10.mono HX9.out.size))
        clear hr hB10 y0 y1 f0 f1 z0 z1 g0 g1
        go_wp2_with fail
        refine (num_any _ _).mono ?_
        rintro e11 w11 ⟨rfl, rfl⟩
        go_wp2_with fail
        refine (num_any _ _).mono ?_
        rintro e11 w11 ⟨rfl, rfl⟩
        go_wp2_with fail
        go_ret
        exact ⟨rfl, HX10.out⟩
      · have HP1 := Lib.hid hp1
        clear hp1
        go_wp2_with fail
        refine (Print_any s.cap s.ops A5 d5 _ (hEW.belowB HXA.out) HFIT.out HC5.out).mono ?_
        rintro e7 w7 hP
        obtain ⟨rfl, hB7⟩ := print_at hP HP1.out
        have HX7 := Lib.hid (HXA.out.trans (hB7.mono HXA.out.size))
        clear hP hB7
        go_wp2_with fail
        refine (num_any _ _).mono ?_
        rintro e8 w8 ⟨rfl, rfl⟩
        go_wp2_with fail
        refine (num_any _ _).mono ?_
        rintro e8 w8 ⟨rfl, rfl⟩
        go_wp2_with fail
        go_ret
        exact ⟨rfl, HX7.out⟩
    · have HP := Lib.hid hp
      have q1 : (e != 0) = true := by simpa using he
      have q2 : (e == 0) = false := by simpa using he
      clear hp he
      go_wp2_with fail
      refine (Parse_any text (by omega) _ (hEW.belowB HX.out)).mono ?_
      rintro e5 w5 hP
      obtain ⟨A5, d5, rfl, hl5, hC5, hB5⟩ := parse_at hP HP.out
      have hq5 : Below w5.heap.size w5 (w5.alloc (.cells #[.int .i64 PScript.zero.cap, .slice A5 PScript.zero.ops.length d5] 36)) := (Below.refl _ _).alloc (Nat.le_refl _) _
      have HX5 := Lib.hid (HX.out.trans (hB5.mono HX.out.size))
      have HXA := Lib.hid (HX5.out.trans (hq5.mono HX5.out.size))
      clear hP hl5 hC5 hB5 hq5
      go_wp2_with fail
      refine (num_any _ _).mono ?_
      rintro e6 w6 ⟨rfl, rfl⟩
      go_wp2_with fail
      go_ret
      exact ⟨rfl, HXA.out⟩
end Go.Proofs.YtbpackopicngmaaDoor
