/- ScriptPrints' walk. -/
import Derived.Test.YtbpackopicngmaaGreatDoorRfY
import Derived.Test.YtbpackopicngmaaGreatDoorRfX
namespace Go.Proofs.YtbpackopicngmaaGreatDoor
open Go.RowKit Go.Proofs.Sc Go.Proofs.YtbpackopicngmaaGreatDoorW.PrintWords

theorem print_n {B : Nat} (cap : Int) (ops : List POp) (n : Nat) (hn : ops.length = n) (A : Option Addr) (c : Nat) (w : World) (hE : Env B w) (hfit : ∀ o ∈ ops, OpFits o) (hC : kOp.C w A n ops) :
    Calls Tryz.prog 14 #[.agg #[.int .i64 cap, .slice A n c]] w (PrintPost ⟨cap, ops⟩ w) := by
  subst hn; exact Print_any cap ops A c w hE hfit hC
theorem refPrint_n (cap : Int) (ops : List POp) (n : Nat) (hn : ops.length = n) (A : Option Addr) (c : Nat) (w : World) (hfit : ∀ o ∈ ops, OpFits o) (hC : kOp.C w A n ops) :
    Calls Tryz.prog 15 #[.agg #[.int .i64 cap, .slice A n c]] w (PrintPost ⟨cap, ops⟩ w) := by
  subst hn; exact refPrint_any cap ops A c w hC hfit
theorem stays_n {B g cap : Nat} {bs : List (Nat × Nat)} {ops : List POp} {n : Nat} (hn : ops.length = n) (A1 : Option Addr) (c1 : Nat) (w : World) (h : Lent B g cap bs ops w) (hl : bs.length = n) (hC : kOp.C w A1 n ops) (hc : n ≤ c1) (hn3 : n ≤ 3000) :
    Calls Tryz.prog 16 #[.slice (some ⟨g, 0, none⟩) n cap, .slice A1 n c1] w fun e w' => e = .returned (.bool true) ∧ Below w.heap.size w w' := by
  subst hn; exact stays_any B g cap bs ops A1 c1 w h hl hC hc hn3
theorem lent_n (ops : List POp) (n : Nat) (hn : ops.length = n) (A : Option Addr) (c : Nat) (w : World) (hC : kOp.C w A n ops) (hl : n ≤ 3000) (hL : ∀ o ∈ ops, o.list.length ≤ 33554432) :
    Calls Tryz.prog 12 #[.slice A n c] w fun e w' => ∃ (g cap : Nat) (bs : List (Nat × Nat)), e = .returned (.slice (some ⟨g, 0, none⟩) n cap) ∧ Lent w.heap.size g cap bs ops w' ∧ bs.length = n ∧ Below w.heap.size w w' := by
  subst hn; exact lent_any ops A c w hC hl hL

/-- What stands when a round begins. -/
structure RS (w : World) (cap : Int) (A : Option Addr) (n c g cp : Nat) (bs : List (Nat × Nat)) (ops : List POp) (W : World) : Prop where
  len : ops.length = n
  lent : Lent (w.heap.size + 1) g cp bs ops W
  box : W.heap[w.heap.size]? = some (.cells #[.int .i64 cap, .slice A n c] 25 (0, 0))
  below : Below w.heap.size w W
  fits : ∀ o ∈ ops, OpFits o

theorem RS.later {w : World} {cap : Int} {A : Option Addr} {n c g cp : Nat} {bs : List (Nat × Nat)} {ops : List POp} {W W1 : World} (h : RS w cap A n c g cp bs ops W) (hb : Below W.heap.size W W1) : RS w cap A n c g cp bs ops W1 :=
  ⟨h.len, h.lent.later hb, (hb.block _ (blk_lt h.box)).trans h.box, h.below.trans (hb.mono h.below.size), h.fits⟩

theorem fits_set {ops : List POp} (h : ∀ o ∈ ops, OpFits o) {i : Nat} {p : POp} (hp : OpFits p) : ∀ o ∈ ops.set i p, OpFits o := by
  intro o ho
  rcases List.mem_or_eq_of_mem_set ho with h1 | rfl
  · exact h o h1
  · exact hp

theorem RS.turnA {w : World} {cap : Int} {A : Option Addr} {n c g cp : Nat} {bs : List (Nat × Nat)} {ops : List POp} {W : World} (h : RS w cap A n c g cp bs ops W) {i : Nat} {o : POp} (ho : ops[i]? = some o) (x : Int) : RS w cap A n c g cp bs (ops.set i { o with a := x }) (W.setCell ⟨g, i * 6 + 1, none⟩ (.int .i64 x)) := by
  have hg := h.lent.ge
  have hf := h.fits o (List.mem_of_getElem? ho)
  exact ⟨by rw [List.length_set]; exact h.len, h.lent.turnA ho x, blk_far h.box (by simp; omega) _, h.below.setCell (by simp; omega) _, fits_set h.fits ⟨hf.k0, hf.k1, hf.name, hf.text, hf.list⟩⟩

theorem RS.turnL {w : World} {cap : Int} {A : Option Addr} {n c g cp : Nat} {bs : List (Nat × Nat)} {ops : List POp} {W : World} (h : RS w cap A n c g cp bs ops W) {i : Nat} {o : POp} {b : Nat × Nat} (ho : ops[i]? = some o) (hb : bs[i]? = some b) (hne : 0 < o.list.length) (x : Int) : RS w cap A n c g cp bs (ops.set i { o with list := o.list.set 0 x }) (W.setCell ⟨b.1, 0, none⟩ (.int .i64 x)) := by
  obtain ⟨_, _, _, _, hg, _⟩ := h.lent.list i o b ho hb
  have hf := h.fits o (List.mem_of_getElem? ho)
  exact ⟨by rw [List.length_set]; exact h.len, h.lent.turnL ho hb hne x, blk_far h.box (by simp; omega) _, h.below.setCell (by simp; omega) _, fits_set h.fits ⟨hf.k0, hf.k1, hf.name, hf.text, by simpa using hf.list⟩⟩

set_option maxHeartbeats 16000000 in
set_option maxRecDepth 100000 in
theorem ScriptPrints_any (cap : Int) (ops : List POp) (A : Option Addr) (c : Nat) (ix by_ : Int) (hix0 : -9223372036854775808 ≤ ix) (hix1 : ix ≤ 9223372036854775807) (w : World) (hC : kOp.C w A ops.length ops) (hc : ops.length ≤ c) (hk : ∀ o ∈ ops, -9223372036854775808 ≤ o.kind ∧ o.kind ≤ 9223372036854775807) {B : Nat} (hE : Env B w) :
    Calls Tryz.prog 4 #[.agg #[.int .i64 cap, .slice A ops.length c], .int .i64 ix, .int .i64 by_] w fun e w' => e = .returned (.bool true) ∧ Below w.heap.size w w' := by
  have hEW : Env w.heap.size w := hE.up hE.le (Nat.le_refl _)
  clear hE
  have HC := Lib.hid hC
  have HL := Lib.hid hc
  have HK := Lib.hid hk
  have hb0 : Below w.heap.size w (w.alloc (.cells #[.int .i64 cap, .slice A ops.length c] 25)) := (Below.refl _ _).alloc (Nat.le_refl _) _
  have HB0 := Lib.hid hb0
  have HN0 := Lib.hid (show (w.alloc (.cells #[.int .i64 cap, .slice A ops.length c] 25)).heap[w.heap.size]? = some (.cells #[.int .i64 cap, .slice A ops.length c] 25 (0, 0)) from new_at _ _ _ rfl)
  clear hC hc hk hb0
  go_enter Tryz.func4, Tryz.ntmps4
  go_wp2_with fail
  refine (lawFirst_any _ (hEW.belowB HB0.out)).mono ?_
  rintro e1 w1 ⟨rfl, hB1⟩
  have h1 := (hB1.block _ (blk_lt HN0.out)).trans HN0.out
  obtain ⟨x0, x1, f0, f1⟩ := script_cells h1
  have H1 := Lib.hid h1
  have HB1 := Lib.hid (HB0.out.trans (hB1.mono HB0.out.size))
  clear hB1 h1
  go_wp2_with fail
  refine (fits_any cap ops A c _ (Kd.C_below HC.out HB1.out) HL.out).mono ?_
  rintro e2 w2 ⟨⟨r, rfl, hr⟩, hB2⟩
  have h2 := (hB2.block _ (blk_lt H1.out)).trans H1.out
  have HB2 := Lib.hid (HB1.out.trans (hB2.mono HB1.out.size))
  clear hB2 x0 x1 f0 f1
  cases r
  · clear hr h2
    go_wp2_with fail
    go_ret
    exact ⟨rfl, HB2.out⟩
  obtain ⟨hsm, hsz⟩ := hr rfl
  clear hr
  have HFO := Lib.hid (show ∀ o ∈ ops, OpFits o from fun o ho => ⟨(HK.out o ho).1, (HK.out o ho).2, by have := (hsz o ho).1; omega, by have := (hsz o ho).2.1; omega, by have := (hsz o ho).2.2; omega⟩)
  obtain ⟨n, hn⟩ : ∃ n, n = ops.length := ⟨_, rfl⟩
  rw [← hn] at h2 hsm ⊢
  have HN := Lib.hid hn
  have HC2 := Lib.hid (show kOp.C w2 A n ops by rw [hn]; exact Kd.C_below HC.out HB2.out)
  obtain ⟨x0, x1, f0, f1⟩ := script_cells h2
  have H2 := Lib.hid h2
  clear hsz h2 hn H1
  go_wp2_with fail
  refine (lent_n ops n HN.out.symm A c _ HC2.out hsm (fun o ho => (HFO.out o ho).list)).mono ?_
  rintro e3 w3 ⟨g, cp, bs, rfl, hlent, hbl, hB3⟩
  have HBS := Lib.hid hbl
  have hw2 : w.heap.size + 1 ≤ w2.heap.size := blk_lt H2.out
  have HRS := Lib.hid (show RS w cap A n c g cp bs ops w3 from ⟨HN.out.symm, ⟨hlent.blk, Nat.le_trans hw2 hlent.ge, hlent.room, hlent.scal, fun i o b ho hb => by
      obtain ⟨a1, a2, a3, a4, a5, a6, a7⟩ := hlent.list i o b ho hb
      exact ⟨a1, a2, a3, a4, Nat.le_trans hw2 a5, a6, a7⟩, hlent.apart, hlent.mark⟩, (hB3.block _ (blk_lt H2.out)).trans H2.out, HB2.out.trans (hB3.mono HB2.out.size), HFO.out⟩)
  clear hlent hbl hB3 x0 x1 f0 f1 hw2
  go_wp2_with fail
  go_loopw [10] (fun v wr => ∃ (k : Nat) (os : List POp), v = .int .i64 (k : Int) ∧ k ≤ 2 ∧ Hid (RS w cap A n c g cp bs os wr)) (fun v _ => 2 - (intOf v).toNat)
  case atStart => exact ⟨0, ops, rfl, by omega, HRS⟩
  case round =>
  clear HRS
  obtain ⟨k, os, rfl, hk2, hRS⟩ := hrel
  by_cases hlt : k < 2
  · obtain ⟨pt, pc, hp⟩ : ∃ pt pc, Sc.print ⟨cap, os⟩ = (pt, pc) := ⟨(Sc.print ⟨cap, os⟩).1, (Sc.print ⟨cap, os⟩).2, rfl⟩
    have HP := Lib.hid hp
    have hread := hRS.out.lent.reads (by rw [HBS.out, hRS.out.len])
    rw [hRS.out.len] at hread
    have HRD := Lib.hid hread
    clear hp hread
    go_wp2_with fail
    refine (refOps_any os (some ⟨g, 0, none⟩) n cp _ HRD.out (by omega) (fun o ho => (hRS.out.fits o ho).list)).mono ?_
    rintro e4 w4 ⟨⟨v4, rfl, hR4⟩, hB4⟩
    obtain ⟨A4, c4, rfl, hc4, hC4⟩ := Kd.R_reads hR4
    rw [hRS.out.len] at hc4 hC4 ⊢
    have HRS4 := Lib.hid (hRS.out.later hB4)
    have HC4 := Lib.hid hC4
    have HRD4 := Lib.hid (Kd.C_below HRD.out hB4)
    obtain ⟨x0, x1, f0, f1⟩ := script_cells HRS4.out.box
    clear hRS hR4 hB4 hC4 HRD
    go_wp2_with fail
    refine (print_n cap os n HRS4.out.len (some ⟨g, 0, none⟩) cp _ (hEW.belowB HRS4.out.below) HRS4.out.fits HRD4.out).mono ?_
    rintro e5 w5 hP
    obtain ⟨rfl, hB5⟩ := print_at hP HP.out
    have HRS5 := Lib.hid (HRS4.out.later hB5)
    have HC5 := Lib.hid (Kd.C_below HC4.out hB5)
    clear hP hB5 x0 x1 f0 f1 HRS4 HC4
    obtain ⟨x0, x1, f0, f1⟩ := script_cells HRS5.out.box
    go_wp2_with fail
    refine (refPrint_n cap os n HRS5.out.len A4 c4 _ HRS5.out.fits HC5.out).mono ?_
    rintro e6 w6 hP
    obtain ⟨rfl, hB6⟩ := print_at hP HP.out
    have HRS6 := Lib.hid (HRS5.out.later hB6)
    have HC6 := Lib.hid (Kd.C_below HC5.out hB6)
    clear hP hB6 x0 x1 f0 f1 HRS5 HC5
    go_wp2_with fail
    refine (stays_n HRS6.out.len A4 c4 _ HRS6.out.lent HBS.out HC6.out hc4 hsm).mono ?_
    rintro e7 w7 ⟨rfl, hB7⟩
    have HRS7 := Lib.hid (HRS6.out.later hB7)
    clear hB7 HRS6 HC6
    go_wp2_with fail
    refine (num_any _ _).mono ?_
    rintro e8 w8 ⟨rfl, rfl⟩
    by_cases hn0 : n = 0
    · have q1 : decide (0 < n) = false := decide_eq_false (by omega)
      have q2 : decide ((0 : Int) < (n : Int)) = false := decide_eq_false (by omega)
      clear hn0
      go_wp2_with fail
      go_roundw
      case rel => exact ⟨k + 1, os, by go_num, hlt, HRS7⟩
      case measure => simp [intOf]; omega
    · have hnp : 0 < n := by omega
      have q1 : decide (0 < n) = true := decide_eq_true hnp
      have q2 : decide ((0 : Int) < (n : Int)) = true := decide_eq_true (by omega)
      have nz : ((n : Int) == 0) = false := by rw [beq_eq_false_iff_ne]; omega
      have nn : ¬ ((n : Int) = 0) := by omega
      obtain ⟨t, ht⟩ : ∃ t, t = Int.tmod ix (n : Int) := ⟨_, rfl⟩
      have ht1 : Int.tmod ix (n : Int) = t := ht.symm
      have tb : -(n : Int) < t ∧ t < (n : Int) := by
        rw [ht]
        have h1 := Int.tmod_lt_of_pos ix (show (0 : Int) < (n : Int) by omega)
        have h2 : -(n : Int) < Int.tmod ix (n : Int) := by
          rcases Int.lt_or_le ix 0 with h | h
          · have e : ix = -(-ix) := by omega
            have h3 := Int.tmod_lt_of_pos (-ix) (show (0 : Int) < (n : Int) by omega)
            rw [e, Int.neg_tmod]; omega
          · have := Int.tmod_nonneg (n : Int) h; omega
        exact ⟨h2, h1⟩
      obtain ⟨j, hj⟩ : ∃ j : Nat, (j : Int) = Int.tmod (t + (n : Int)) (n : Int) := ⟨(Int.tmod (t + (n : Int)) (n : Int)).toNat, by
        have := Int.tmod_nonneg (n : Int) (show (0 : Int) ≤ t + (n : Int) by omega)
        omega⟩
      have hj1 : Int.tmod (t + (n : Int)) (n : Int) = (j : Int) := hj.symm
      have hjn : j < n := by
        have := Int.tmod_lt_of_pos (t + (n : Int)) (show (0 : Int) < (n : Int) by omega)
        omega
      have t0 : -3000 ≤ t := by omega
      have t1 : t ≤ 3000 := by omega
      have wt : IntKind.i64.wrap (t + (n : Int)) = t + (n : Int) := by rw [IntKind.wrap_i64]; omega
      obtain ⟨o, ho⟩ : ∃ o, os[j]? = some o := ⟨os[j]'(by have := HRS7.out.len; omega), List.getElem?_eq_getElem _⟩
      obtain ⟨b, hb⟩ : ∃ b, bs[j]? = some b := ⟨bs[j]'(by have := HBS.out; omega), List.getElem?_eq_getElem _⟩
      obtain ⟨_, p1, _, _, _, _⟩ := HRS7.out.lent.scal j o ho
      obtain ⟨p5, r1, r2, ⟨csb, hcsb⟩, _, r5, _⟩ := HRS7.out.lent.list j o b ho hb
      obtain ⟨csg, hcsg⟩ := HRS7.out.lent.blk
      have hfg := blk_frozen hcsg (j * 6 + 1)
      have hfb := blk_frozen hcsb 0
      have hbg : b.1 ≠ g := by
        intro e
        rw [e, hcsg] at hcsb
        cases hcsb
      have HO := Lib.hid ho
      have HBB := Lib.hid hb
      have HBG := Lib.hid hbg
      obtain ⟨m, hm⟩ : ∃ m, m = o.list.length := ⟨_, rfl⟩
      rw [← hm] at p5 r1
      have HM := Lib.hid hm
      have hmx : m ≤ 9223372036854775807 := by omega
      clear hn0 ht hj ho hb hcsb hcsg hm
      by_cases hm0 : m = 0
      · have s1 : decide (0 < m) = false := decide_eq_false (by omega)
        have s2 : decide ((0 : Int) < (m : Int)) = false := decide_eq_false (by omega)
        clear hm0 r5
        have HRS8 := Lib.hid (HRS7.out.turnA HO.out (wrap64 (o.a + by_)))
        clear HRS7
        go_wp2_with fail
        go_roundw
        case rel => exact ⟨k + 1, _, by go_num, hlt, HRS8⟩
        case measure => simp [intOf]; omega
      · have s1 : decide (0 < m) = true := decide_eq_true (by omega)
        have s2 : decide ((0 : Int) < (m : Int)) = true := decide_eq_true (by omega)
        have mp : 0 < m := by omega
        obtain ⟨y0, hy0⟩ : ∃ y0, o.list[0]? = some y0 := ⟨o.list[0]'(by have := HM.out; omega), List.getElem?_eq_getElem _⟩
        have r50 := r5 0 y0 hy0
        have HRS8 := Lib.hid ((HRS7.out.turnA HO.out (wrap64 (o.a + by_))).turnL (i := j) (o := { o with a := wrap64 (o.a + by_) }) (b := b) (by rw [List.getElem?_set, if_pos rfl, if_pos (List.getElem?_eq_some_iff.1 HO.out).1]) HBB.out (by show 0 < o.list.length; rw [← HM.out]; exact mp) (wrap64 (y0 + by_)))
        clear hm0 r5 hy0 HRS7
        go_wp2_with fail
        go_roundw
        case rel => exact ⟨k + 1, _, by go_num, hlt, HRS8⟩
        case measure => simp [intOf]; omega
  · obtain rfl : k = 2 := by omega
    clear hlt
    go_wp2_with fail
    go_ret
    exact ⟨rfl, hRS.out.below⟩
end Go.Proofs.YtbpackopicngmaaGreatDoor
