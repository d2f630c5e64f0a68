/- ScriptOwns: OwK OwL OwM OwN OwQ OwR OwV OwW LwOw, merged by gen/merge2.py. -/
import Derived.Test.YtbpackopicngmaaGreatDoorOwIm
import Derived.Test.YtbpackopicngmaaGreatDoorLwBk
import Derived.Test.YtbpackopicngmaaGreatDoorOwJzm
import Derived.Test.YtbpackopicngmaaGreatDoorOwY
import Derived.Test.YtbpackopicngmaaGreatDoorOwX
import Derived.Test.YtbpackopicngmaaGreatDoorRfP
namespace Go.Proofs.YtbpackopicngmaaGreatDoor
open Go.RowKit Go.Proofs.Sc Go.Proofs.YtbpackopicngmaaGreatDoorW.PrintWords

abbrev KepI (B kb : Nat) (f : Nat → Nat) (vs ws : List Value) (W : World) : Prop := Kep 5 3 42 0 (Kd.int .i64) B kb f vs ws W
abbrev KepO (B kb : Nat) (f : Nat → Nat) (vs ws : List Value) (W : World) : Prop := Kep 50 44 23 1 kOp B kb f vs ws W

/-- What holds while lists are being kept; f, w: how it was at first. -/
structure KpB (B kb : Nat) (f : Nat → Nat) (w : World) (f1 : Nat → Nat) (vI wI vO wO : List Value) (wr : World) : Prop where
  elder : Elder w f f1
  size : w.heap.size ≤ wr.heap.size
  stay : ∀ k, k < w.heap.size → 5 ≤ f k → wr.heap[k]? = w.heap[k]?
  below : Below B w wr
  bk : Bk B kb f1 0 wr
  kI : KepI B kb f1 vI wI wr
  kO : KepO B kb f1 vO wO wr

section
variable {B kb : Nat} {f f1 f2 : Nat → Nat} {w wr w1 : World} {vI wI vO wO vI' wI' vO' wO' : List Value}
theorem KpB.start (h : Bk B kb f 0 w) (hI : KepI B kb f vI wI w) (hO : KepO B kb f vO wO w) : KpB B kb f w f vI wI vO wO w :=
  ⟨fun _ _ => rfl, Nat.le_refl _, fun _ _ _ => rfl, Below.refl _ _, h, hI, hO⟩
theorem KpB.trans (h : KpB B kb f w f1 vI wI vO wO wr) (k : KpB B kb f1 wr f2 vI' wI' vO' wO' w1) : KpB B kb f w f2 vI' wI' vO' wO' w1 :=
  ⟨h.elder.trans h.size k.elder, Nat.le_trans h.size k.size, fun b hb hf => (k.stay b (by have := h.size; omega) (by rw [h.elder b hb]; exact hf)).trans (h.stay b hb hf), h.below.trans k.below, k.bk, k.kI, k.kO⟩
theorem KpB.later (h : KpB B kb f w f1 vI wI vO wO wr) (hb : Below wr.heap.size wr w1) : KpB B kb f w f1 vI wI vO wO w1 :=
  ⟨h.elder, Nat.le_trans h.size hb.size, fun k hk hf => (hb.block k (by have := h.size; omega)).trans (h.stay k hk hf), h.below.trans (hb.mono (by have := h.bk.lt; have := h.bk.ge; omega)), h.bk.below hb, h.kI.below h.bk.lt hb, h.kO.below h.bk.lt hb⟩
theorem KpB.reown (h : KpB B kb f w f1 vI wI vO wO wr) (he : Elder wr f1 f2) : KpB B kb f w f2 vI wI vO wO wr :=
  ⟨h.elder.trans h.size he, h.size, h.stay, h.below, h.bk.owner he, h.kI.owner he, h.kO.owner he⟩

theorem KpB.pushI {V V1 v : Value} {l : List (List Value)} (h : KpB B kb f w f1 vI wI vO wO wr) (hlen : wI.length = vI.length) (hc : wr.cell? ⟨kb, 5, none⟩ = some V) (hV : Row B f1 (2 * 0 + 1) 1 42 wr V (vI.map fun v => [v]))
    (hR1 : Row B (ext wr f1 (2 * 0 + 1)) (2 * 0 + 1) 1 42 w1 V1 ((vI.map fun v => [v]) ++ [[v]])) (hw : Went V V1 vI.length wr w1) (hb : Below B w w1) (hl : Row B f1 (2 * vI.length + 0 + 5) 1 3 wr v l) (hl2 : l.length ≤ 100000) :
    KpB B kb f w (ext wr f1 (2 * 0 + 1)) (vI ++ [v]) wI vO wO (w1.setCell ⟨kb, 5, none⟩ V1) := by
  have he := ext_elder wr f1 (2 * 0 + 1)
  obtain ⟨k1, k2, k3, k4, k5, k6⟩ := h.bk.push (by omega) hc hV (by omega) he hR1 (by rw [List.length_map]; exact hw)
  refine ⟨h.elder.trans h.size he, Nat.le_trans h.size k6, fun k hk hf => ?_, hb.setCell h.bk.ge _, k4, h.kI.push h.bk (Or.inl rfl) (by omega) hlen hc hV he hR1 hw hl hl2, (h.kO.owner he).keep (fun j hj => k2 j (by omega)) (fun k hk ho => ?_)⟩
  · have := h.elder k hk
    exact (k1 k (by have := h.size; omega) (by omega) (by omega)).trans (h.stay k hk hf)
  · rw [he k hk] at ho
    exact k1 k hk (by omega) (by omega)
theorem KpB.pushWI {V V1 v u : Value} {xs : List Int} (h : KpB B kb f w f1 vI wI vO wO wr) (hc : wr.cell? ⟨kb, 6, none⟩ = some V) (hV : Row B f1 (2 * 0 + 2) 1 42 wr V (wI.map fun v => [v]))
    (hR1 : Row B (ext wr f1 (2 * 0 + 2)) (2 * 0 + 2) 1 42 w1 V1 ((wI.map fun v => [v]) ++ [[u]])) (hw : Went V V1 wI.length wr w1) (hb : Below B w w1) (hv : vI[wI.length]? = some v) (hx : (Kd.int .i64).R 3 wr B (fun k => 5 ≤ f1 k) v xs) (hu : (Kd.int .i64).R 3 wr B (fun k => 5 ≤ f1 k) u xs) :
    KpB B kb f w (ext wr f1 (2 * 0 + 2)) vI (wI ++ [u]) vO wO (w1.setCell ⟨kb, 6, none⟩ V1) := by
  have he := ext_elder wr f1 (2 * 0 + 2)
  obtain ⟨k1, k2, k3, k4, k5, k6⟩ := h.bk.push (by omega) hc hV (by omega) he hR1 (by rw [List.length_map]; exact hw)
  refine ⟨h.elder.trans h.size he, Nat.le_trans h.size k6, fun k hk hf => ?_, hb.setCell h.bk.ge _, k4, h.kI.pushW h.bk (Or.inl rfl) (by omega) hc hV he hR1 hw hv hx hu, (h.kO.owner he).keep (fun j hj => k2 j (by omega)) (fun k hk ho => ?_)⟩
  · have := h.elder k hk
    exact (k1 k (by have := h.size; omega) (by omega) (by omega)).trans (h.stay k hk hf)
  · rw [he k hk] at ho
    exact k1 k hk (by omega) (by omega)
theorem KpB.pushO {V V1 v : Value} {l : List (List Value)} (h : KpB B kb f w f1 vI wI vO wO wr) (hlen : wO.length = vO.length) (hc : wr.cell? ⟨kb, 50, none⟩ = some V) (hV : Row B f1 (2 * 1 + 1) 1 23 wr V (vO.map fun v => [v]))
    (hR1 : Row B (ext wr f1 (2 * 1 + 1)) (2 * 1 + 1) 1 23 w1 V1 ((vO.map fun v => [v]) ++ [[v]])) (hw : Went V V1 vO.length wr w1) (hb : Below B w w1) (hl : Row B f1 (2 * vO.length + 1 + 5) 6 44 wr v l) (hl2 : l.length ≤ 100000) :
    KpB B kb f w (ext wr f1 (2 * 1 + 1)) vI wI (vO ++ [v]) wO (w1.setCell ⟨kb, 50, none⟩ V1) := by
  have he := ext_elder wr f1 (2 * 1 + 1)
  obtain ⟨k1, k2, k3, k4, k5, k6⟩ := h.bk.push (by omega) hc hV (by omega) he hR1 (by rw [List.length_map]; exact hw)
  refine ⟨h.elder.trans h.size he, Nat.le_trans h.size k6, fun k hk hf => ?_, hb.setCell h.bk.ge _, k4, (h.kI.owner he).keep (fun j hj => k2 j (by omega)) (fun k hk ho => ?_), h.kO.push h.bk (Or.inr rfl) (by omega) hlen hc hV he hR1 hw hl hl2⟩
  · have := h.elder k hk
    exact (k1 k (by have := h.size; omega) (by omega) (by omega)).trans (h.stay k hk hf)
  · rw [he k hk] at ho
    exact k1 k hk (by omega) (by omega)
theorem KpB.pushWO {V V1 v u : Value} {xs : List POp} (h : KpB B kb f w f1 vI wI vO wO wr) (hc : wr.cell? ⟨kb, 51, none⟩ = some V) (hV : Row B f1 (2 * 1 + 2) 1 23 wr V (wO.map fun v => [v]))
    (hR1 : Row B (ext wr f1 (2 * 1 + 2)) (2 * 1 + 2) 1 23 w1 V1 ((wO.map fun v => [v]) ++ [[u]])) (hw : Went V V1 wO.length wr w1) (hb : Below B w w1) (hv : vO[wO.length]? = some v) (hx : kOp.R 44 wr B (fun k => 5 ≤ f1 k) v xs) (hu : kOp.R 44 wr B (fun k => 5 ≤ f1 k) u xs) :
    KpB B kb f w (ext wr f1 (2 * 1 + 2)) vI wI vO (wO ++ [u]) (w1.setCell ⟨kb, 51, none⟩ V1) := by
  have he := ext_elder wr f1 (2 * 1 + 2)
  obtain ⟨k1, k2, k3, k4, k5, k6⟩ := h.bk.push (by omega) hc hV (by omega) he hR1 (by rw [List.length_map]; exact hw)
  refine ⟨h.elder.trans h.size he, Nat.le_trans h.size k6, fun k hk hf => ?_, hb.setCell h.bk.ge _, k4, (h.kI.owner he).keep (fun j hj => k2 j (by omega)) (fun k hk ho => ?_), h.kO.pushW h.bk (Or.inr rfl) (by omega) hc hV he hR1 hw hv hx hu⟩
  · have := h.elder k hk
    exact (k1 k (by have := h.size; omega) (by omega) (by omega)).trans (h.stay k hk hf)
  · rw [he k hk] at ho
    exact k1 k hk (by omega) (by omega)
end

section
variable {ops : Array Oper} {o : Oper} {a : Act} {Q : Exit → Act → World → Prop} {Kc : Act → World → Prop}
theorem outer_stepn_i {w0 wr : World} {B o' : Nat} {f : Nat → Nat} {V v : Value} {rows : List (List Value)} (hw : Region.wanted o (yielded ops a.tmps) = true) (s x : Operand) (ho : o.op = .call { callee := .builtin .append, args := #[s, x], argTypes := #[48, 48] })
    (hs : a.eval s = V) (hx : a.eval x = .slice (some ⟨wr.heap.size, 0, none⟩) 1 1) (hv1 : v.oneCell' = true) (hR : Row B f o' 1 42 wr V rows) (hb : Below B w0 wr) (hB : B ≤ wr.heap.size) (hl : rows.length ≤ 1000000)
    (h : ∀ V1 w1, Row B (ext wr f o') o' 1 42 w1 V1 (rows ++ [[v]]) → Below B w0 w1 → Went V V1 rows.length wr w1 → Kc (a.put o.dst V1) w1) :
    if Region.wanted o (yielded ops a.tmps) = true then Oper.wp Tryz.prog o a (wr.alloc (.cells #[v] 42)) Kc Q else Kc (a.put o.dst undef) (wr.alloc (.cells #[v] 42)) :=
  row_append_step (w0 := w0) (W := wr) B hw s x 48 42 (.slice none 0 0) 1 24 ho Tryz.underlying48 info_sl_i rfl (by decide) (by decide) V rows [v] (fun k => ext wr f o' k = o') hs hx rfl (fun u hu => by rw [List.mem_singleton.1 hu]; exact hv1) (fun k hk => ext_new hk)
    (hR.owner (ext_elder wr f o')) hb hB (by omega) h
end

set_option maxHeartbeats 4000000 in
set_option maxRecDepth 100000 in
theorem keep_i {B kb : Nat} {f : Nat → Nat} {w : World} {vI wI vO wO : List Value} (h : Bk B kb f 0 w) (hI : KepI B kb f vI wI w) (hO : KepO B kb f vO wO w) (hlen : wI.length = vI.length) (hvl : vI.length ≤ 100000) (A : Option Addr) (n c : Nat) (xs : List Int)
    (hv : (Kd.int .i64).R 3 w B (fun k => f k = 2 * vI.length + 0 + 5) (.slice A n c) xs) (hxl : xs.length ≤ 100000) :
    Calls Tryz.prog 43 #[.pointer (some ⟨kb, 0, none⟩), .slice A n c] w fun e w' => e = .returned (.tuple #[]) ∧ ∃ f1 u, KpB B kb f w f1 (vI ++ [.slice A n c]) (wI ++ [u]) vO wO w' := by
  have hkb := h.lt
  have hBk := h.ge
  have hown := h.own
  obtain ⟨V5, hV5, hR5⟩ := hI.outer
  obtain ⟨A5, c5, rfl, hc5, hm5⟩ := row_len hR5
  obtain ⟨n5, hn5⟩ : ∃ n5, n5 = vI.length := ⟨_, rfl⟩
  have hnx := (Kd.R_reads' hv).1
  obtain ⟨lv, hlv, hlv2⟩ := raw_of hv
  have HK0 := Lib.hid (KpB.start h hI hO)
  have HV := Lib.hid hv
  have HLV := Lib.hid (show Row B f (2 * vI.length + 0 + 5) 1 3 w (.slice A n c) lv from hlv2)
  have HLL := Lib.hid (show lv.length ≤ 100000 by omega)
  have HR5 := Lib.hid hR5
  have HLEN := Lib.hid hlen
  have HN5 := Lib.hid hn5
  have HML := Lib.hid (show (vI.map fun v => [v]).length = n5 by rw [List.length_map, hn5])
  have HMW := Lib.hid (show (wI.map fun v => [v]).length = n5 by rw [List.length_map, hlen, hn5])
  have HNX := Lib.hid hnx
  obtain ⟨bc, hbc⟩ := h.blk
  have HBC := Lib.hid hbc
  rw [← hn5] at hV5 hc5 hvl
  have hnl : n ≤ 33554432 := by omega
  have H5O := Lib.hid (show f kb ≠ 2 * 0 + 1 by omega)
  clear h hI hO hlen hv hR5 hn5 hlv hlv2 hnx hbc hown
  go_enter Tryz.func43, Tryz.ntmps43
  go_wp2_with (at_builtin; go_must (refine row_append (w0 := w) B rfl (.tmp 8) (.tmp 10) 48 42 (.slice none 0 0) 1 24 rfl Tryz.underlying48 info_sl_i rfl (by decide) (by decide) (.slice A5 n5 c5) (vI.map fun v => [v]) [.slice A n c] (fun k => ext w f (2 * 0 + 1) k = 2 * 0 + 1) rfl rfl rfl (fun u hu => by rw [List.mem_singleton.1 hu]; rfl) (fun k hk => ext_new hk) ?HO (Below.refl _ _) (by omega) (by rw [HML.out]; omega) ?_))
  case HO => have := HR5.out; rw [← HN5.out] at this; exact this.owner (ext_elder _ _ _)
  intro V1 w1 hR1 hB1 hW1
  replace hR1 : Row B (ext w f (2 * 0 + 1)) (2 * 0 + 1) 1 42 w1 V1 ((vI.map fun v => [v]) ++ [[.slice A n c]]) := hR1
  replace hW1 : Went (.slice A5 n5 c5) V1 (vI.map fun v => [v]).length w w1 := by simpa using hW1
  obtain ⟨A1, c1, hV1, _, _⟩ := hR1.slice
  rw [List.length_append, List.length_singleton, HML.out] at hV1
  subst hV1
  have hR5' := HR5.out
  rw [← HN5.out] at hR5'
  have hmid := gr_mid hR5' (w1 := w1) hW1
  have hk1 : w1.cell? ⟨kb, 5, none⟩ = some (.slice A5 n5 c5) := (cell_block (hmid kb hkb H5O.out) 5).trans hV5
  have hk2 : w1.frozen? ⟨kb, 5, none⟩ = false := blk_frozen ((hmid kb hkb H5O.out).trans HBC.out) 5
  have HP1 := Lib.hid (show KpB B kb f w (ext w f (2 * 0 + 1)) (vI ++ [.slice A n c]) wI vO wO (w1.setCell ⟨kb, 5, none⟩ (.slice A1 (n5 + 1) c1)) from
    HK0.out.pushI (V := .slice A5 n5 c5) HLEN.out hV5 hR5' hR1 (by rw [List.length_map] at hW1; exact hW1) hB1 HLV.out HLL.out)
  clear hR1 hB1 hW1 hmid hR5' hV5
  go_wp2_with fail
  obtain ⟨wn, hwn⟩ : ∃ wn, wn = w1.setCell ⟨kb, 5, none⟩ (.slice A1 (n5 + 1) c1) := ⟨_, rfl⟩
  rw [← hwn] at HP1 ⊢
  clear hwn hk1 hk2
  obtain ⟨V6, hV6, hR6⟩ := HP1.out.kI.was
  obtain ⟨A6, c6, rfl, hc6, hm6⟩ := row_len hR6
  obtain ⟨n6, hn6⟩ : ∃ n6, n6 = wI.length := ⟨_, rfl⟩
  rw [← hn6] at hV6 hR6 hc6
  replace hV6 : wn.cell? ⟨kb, 6, none⟩ = some (.slice A6 n6 c6) := hV6
  have HN6 := Lib.hid hn6
  have hkn := HP1.out.bk.lt
  have HC := Lib.hid (show (Kd.int .i64).C wn.drew A n xs from by
    have h5 := R_moved (P := fun x => 5 ≤ x) (Kd.R_mono HV.out (fun k hk => by rw [hk]; omega)) HP1.out.elder (fun k hk hf => HP1.out.stay k hk hf)
    have := (Kd.R_reads' h5).2.2
    rw [← HNX.out] at this
    exact this)
  have HR6 := Lib.hid hR6
  have HV6 := Lib.hid hV6
  have HBw := Lib.hid HP1.out.below
  have hBe := HP1.out.bk.ge
  clear hn6 hR6
  obtain ⟨f1, hf1⟩ : ∃ f1, f1 = ext w f (2 * 0 + 1) := ⟨_, rfl⟩
  rw [← hf1] at HP1 HR6
  obtain ⟨f2, hf2⟩ : ∃ f2, f2 = ext wn f1 5 := ⟨_, rfl⟩
  have HF2 := Lib.hid hf2
  have HP1D := Lib.hid (show KpB B kb f w f2 (vI ++ [.slice A n c]) wI vO wO wn.drew from by rw [hf2]; exact (HP1.out.reown (ext_elder wn f1 5)).later (Below.refl _ _).drew)
  have HR6D := Lib.hid (show Row B f2 (2 * 0 + 2) 1 42 wn.drew (.slice A6 n6 c6) (wI.map fun v => [v]) from by rw [hf2]; exact Kd.R_below (Row.owner HR6.out (ext_elder wn f1 5)) (Below.refl _ _).drew)
  clear hf1 hf2 HP1
  have hO2 := Lib.hid (show f2 kb ≠ 2 * 0 + 2 by have := HP1D.out.bk.own; omega)
  go_region_law (first | (change if Region.wanted ⟨some 22, _, _, _, _, _⟩ _ = true then _ else _; refine outer_stepn_i (w0 := w) (wr := w2) (B := B) (o' := 2 * 0 + 2) (f := f2) (rows := wI.map fun v => [v]) (by rfl) (.tmp 18) (.tmp 21) (by rfl) (by rfl) (by rfl) (by rfl) HR6N.out HP2.out.below (by omega) (by rw [HMW.out]; omega) ?_; intro V2 w3 hR2 hB3 hW3; obtain ⟨A2, c2, hV2, _, _⟩ := Row.slice hR2; rw [List.length_append, List.length_singleton, HMW.out] at hV2; subst hV2; have hmid := gr_mid HR6N.out hW3; have hk3 : w3.cell? ⟨kb, 6, none⟩ = some (.slice A6 n6 c6) := (cell_block (hmid kb hk2 hO2.out) 6).trans hV6N; have hk4 : w3.frozen? ⟨kb, 6, none⟩ = false := (by obtain ⟨cs, hcs⟩ := HP2.out.bk.blk; exact blk_frozen ((hmid kb hk2 hO2.out).trans hcs) 6); have HR2 := Lib.hid hR2; have HB3 := Lib.hid hB3; have HW3 := Lib.hid hW3; clear hmid hR2 hB3 hW3) | (go_simp; go_at_call 30; refine (refInts_any xs A n c _ HC.out hnl).mono ?_; rintro e w2 ⟨⟨u, rfl, hRu⟩, hB2⟩; have HP2 := Lib.hid (HP1D.out.later hB2); have HU := Lib.hid (show (Kd.int .i64).R 3 w2 B (fun k => 5 ≤ f2 k) u xs from Kd.R_lower (Kd.R_mono (Kd.R_bound hRu) (fun k hk => by rw [HF2.out, show ext wn f1 5 k = 5 from ext_new (show wn.heap.size ≤ k from hk.2.1)]; omega)) (by show B ≤ wn.heap.size; omega)); have HR6N := Lib.hid (Kd.R_below HR6D.out hB2); have hV6N : w2.cell? ⟨kb, 6, none⟩ = some (.slice A6 n6 c6) := pw_cell_below hB2 HV6.out; have hk2 : kb < w2.heap.size := HP2.out.bk.lt; clear hRu hB2; obtain ⟨Au, cu, rfl⟩ := Kd.R_slice HU.out))
  all_goals
    have HP3 := Lib.hid (show KpB B kb f w (ext w2 f2 (2 * 0 + 2)) (vI ++ [.slice A n c]) (wI ++ [.slice Au xs.length cu]) vO wO (w3.setCell ⟨kb, 6, none⟩ (.slice A2 (n5 + 1) c2)) from
      HP2.out.pushWI (V := .slice A6 n6 c6) (v := .slice A n c) (xs := xs) hV6N HR6N.out HR2.out (by have := HW3.out; rwa [List.length_map] at this) HB3.out (by rw [HLEN.out]; simp) (R_moved (P := fun x => 5 ≤ x) (Kd.R_mono HV.out (fun k hk => by rw [hk]; omega)) HP2.out.elder (fun k hk hf => HP2.out.stay k hk hf)) HU.out)
    clear HP2 HU HR6N HR2 HB3 HW3 hk3 hk4
    go_wp2_with fail
    go_end0
    exact ⟨rfl, _, _, HP3.out⟩

section
variable {ops : Array Oper} {o : Oper} {a : Act} {Q : Exit → Act → World → Prop} {Kc : Act → World → Prop}
theorem outer_stepn_o {w0 wr : World} {B o' : Nat} {f : Nat → Nat} {V v : Value} {rows : List (List Value)} (hw : Region.wanted o (yielded ops a.tmps) = true) (s x : Operand) (ho : o.op = .call { callee := .builtin .append, args := #[s, x], argTypes := #[63, 63] })
    (hs : a.eval s = V) (hx : a.eval x = .slice (some ⟨wr.heap.size, 0, none⟩) 1 1) (hv1 : v.oneCell' = true) (hR : Row B f o' 1 23 wr V rows) (hb : Below B w0 wr) (hB : B ≤ wr.heap.size) (hl : rows.length ≤ 1000000)
    (h : ∀ V1 w1, Row B (ext wr f o') o' 1 23 w1 V1 (rows ++ [[v]]) → Below B w0 w1 → Went V V1 rows.length wr w1 → Kc (a.put o.dst V1) w1) :
    if Region.wanted o (yielded ops a.tmps) = true then Oper.wp Tryz.prog o a (wr.alloc (.cells #[v] 23)) Kc Q else Kc (a.put o.dst undef) (wr.alloc (.cells #[v] 23)) :=
  row_append_step (w0 := w0) (W := wr) B hw s x 63 23 (.slice none 0 0) 1 24 ho Tryz.underlying63 info_sl_o rfl (by decide) (by decide) V rows [v] (fun k => ext wr f o' k = o') hs hx rfl (fun u hu => by rw [List.mem_singleton.1 hu]; exact hv1) (fun k hk => ext_new hk)
    (hR.owner (ext_elder wr f o')) hb hB (by omega) h
end

set_option maxHeartbeats 4000000 in
set_option maxRecDepth 100000 in
theorem keep_o {B kb : Nat} {f : Nat → Nat} {w : World} {vI wI vO wO : List Value} (h : Bk B kb f 0 w) (hI : KepI B kb f vI wI w) (hO : KepO B kb f vO wO w) (hlI : wI.length = vI.length) (hlO : wO.length = vO.length) (hvI : vI.length ≤ 90000) (hvO : vO.length ≤ 90000) (A : Option Addr) (n c : Nat) (ops : List POp) (rows : List (List Value))
    (hR : kOp.R 44 w B (fun k => 5 ≤ f k) (.slice A n c) ops) (hrow : Row B f (2 * vO.length + 1 + 5) 6 44 w (.slice A n c) rows)
    (hin : ∀ (i : Nat) (o : POp), ops[i]? = some o → ∃ g u, A = some ⟨g, 0, none⟩ ∧ w.cell? ⟨g, i * 6 + 5, none⟩ = some u ∧ (Kd.int .i64).R 3 w B (fun k => f k = 2 * (vI.length + i) + 0 + 5) u o.list) (hn : n ≤ 1000) (hL : ∀ o ∈ ops, o.list.length ≤ 100000) :
    Calls Tryz.prog 17 #[.pointer (some ⟨kb, 0, none⟩), .slice A n c] w fun e w' => e = .returned (.tuple #[]) ∧ ∃ f1 vI' wI' u, vI'.length = vI.length + n ∧ wI'.length = vI'.length ∧ KpB B kb f w f1 vI' wI' (vO ++ [.slice A n c]) (wO ++ [u]) w' := by
  have hno := (Kd.R_reads' hR).1
  have hrl := (Kd.R_reads' hrow).1
  obtain ⟨a, ha⟩ : ∃ a, a = vI.length := ⟨_, rfl⟩
  have HA := Lib.hid ha
  have HNO := Lib.hid hno
  have HRL := Lib.hid hrl
  have HK0 := Lib.hid (KpB.start h hI hO)
  have HR := Lib.hid hR
  have HROW := Lib.hid hrow
  have HIN := Lib.hid hin
  have HL := Lib.hid hL
  have HLI := Lib.hid hlI
  have HLO := Lib.hid hlO
  have hvc := Row.slice hrow
  have hcc : n ≤ c ∧ c ≤ 9223372036854775807 := by
    obtain ⟨A', c', he, h1, h2⟩ := hvc
    injection he with _ h3 h4
    subst h3; subst h4; exact ⟨h1, h2⟩
  obtain ⟨hcc1, hcc2⟩ := hcc
  rw [← ha] at hvI
  clear h hI hO hlI hlO hR hrow hin hL hno hrl ha hvc
  go_enter Tryz.func17, Tryz.ntmps17
  go_wp2_with fail
  go_loopw [4] (fun v wr => ∃ (i : Nat) (fr : Nat → Nat) (vI' wI' : List Value), v = .int .i64 (i : Int) ∧ i ≤ n ∧ Hid (vI'.length = a + i) ∧ Hid (wI'.length = vI'.length) ∧ Hid (KpB B kb f w fr vI' wI' vO wO wr)) (fun v _ => n - (intOf v).toNat)
  case atStart => exact ⟨0, f, vI, wI, rfl, Nat.zero_le _, Lib.hid HA.out.symm, HLI, HK0⟩
  case round =>
  clear HK0
  obtain ⟨i, fr, vI1, wI1, rfl, hi, hvl, hwl, hK⟩ := hrel
  by_cases hlt : i < n
  · obtain ⟨o, ho⟩ : ∃ o, ops[i]? = some o := ⟨ops[i]'(by have := HNO.out; omega), List.getElem?_eq_getElem _⟩
    obtain ⟨g, u, hA, hcell, hRu⟩ := HIN.out i o ho
    obtain ⟨Au, cu, rfl⟩ := Kd.R_slice hRu
    obtain ⟨m, hm⟩ : ∃ m, m = o.list.length := ⟨_, rfl⟩
    have HM := Lib.hid (show m ≤ 100000 by rw [hm]; exact HL.out o (List.mem_of_getElem? ho))
    obtain ⟨x, hx⟩ : ∃ x, rows[i]? = some x := ⟨rows[i]'(by have := HRL.out; omega), List.getElem?_eq_getElem _⟩
    obtain ⟨g', c', hvv, hfg, _, hgl, _⟩ := Row.get HROW.out hx
    obtain rfl : g = g' := by injection hvv with h1 _ _; rw [hA] at h1; injection h1 with h1; injection h1
    have hcell' : wr.cell? ⟨g, i * 6 + 5, none⟩ = some (.slice Au m cu) := by rw [hm]; exact (cell_block (hK.out.stay g hgl (by omega)) _).trans hcell
    have HRu := Lib.hid (show (Kd.int .i64).R 3 wr B (fun k => fr k = 2 * vI1.length + 0 + 5) (.slice Au m cu) o.list from by
      rw [hvl.out, HA.out, hm]
      exact R_moved (P := fun x => x = 2 * (vI.length + i) + 0 + 5) hRu hK.out.elder (fun k hk hf => hK.out.stay k hk (by omega)))
    have HMM := Lib.hid hm
    have j1 : (i : Int) < (n : Int) := by omega
    subst hA
    clear hcell hRu hm hx hvv hfg ho
    go_wp2_with fail
    refine (keep_i hK.out.bk hK.out.kI hK.out.kO hwl.out (by rw [hvl.out]; omega) Au m cu o.list HRu.out (by have := HM.out; rw [HMM.out] at this; exact this)).mono ?_
    rintro e w5 ⟨rfl, f5, u5, hK5⟩
    have HK5 := Lib.hid (hK.out.trans hK5)
    have HV5 := Lib.hid (show (vI1 ++ [Value.slice Au m cu]).length = a + (i + 1) by rw [List.length_append, List.length_singleton, hvl.out]; omega)
    have HW5 := Lib.hid (show (wI1 ++ [u5]).length = (vI1 ++ [Value.slice Au m cu]).length by rw [List.length_append, List.length_append, hwl.out]; rfl)
    clear hK hK5 HRu hcell' hvl hwl
    go_wp2_with fail
    go_roundw
    case rel => exact ⟨i + 1, f5, _, _, by go_num, hlt, HV5, HW5, HK5⟩
    case measure => simp [intOf]; omega
  · obtain rfl : i = n := by omega
    have hkb := hK.out.bk.lt
    have hBk := hK.out.bk.ge
    obtain ⟨V5, hV5, hR5⟩ := hK.out.kO.outer
    obtain ⟨A5, c5, rfl, hc5, hm5⟩ := row_len hR5
    obtain ⟨n5, hn5⟩ : ∃ n5, n5 = vO.length := ⟨_, rfl⟩
    have HRW := Lib.hid HR.out
    have HLV := Lib.hid (show Row B fr (2 * vO.length + 1 + 5) 6 44 wr (.slice A i c) rows from R_moved (P := fun x => x = 2 * vO.length + 1 + 5) HROW.out hK.out.elder (fun k hk hf => hK.out.stay k hk (by omega)))
    have HLL := Lib.hid (show rows.length ≤ 100000 by have := HRL.out; omega)
    have HR5 := Lib.hid hR5
    have HN5 := Lib.hid hn5
    have HML := Lib.hid (show (vO.map fun v => [v]).length = n5 by rw [List.length_map, hn5])
    have HMW := Lib.hid (show (wO.map fun v => [v]).length = n5 by rw [List.length_map, HLO.out, hn5])
    obtain ⟨bc, hbc⟩ := hK.out.bk.blk
    have HBC := Lib.hid hbc
    have HL3 := Lib.hid (show ∀ o ∈ ops, o.list.length ≤ 33554432 from fun o ho => by have := HL.out o ho; omega)
    have HVL := Lib.hid (show vI1.length = vI.length + i by rw [hvl.out, HA.out])
    rw [← hn5] at hV5 hc5 hvO
    have hnl : i ≤ 4194304 := by omega
    have H5O := Lib.hid (show fr kb ≠ 2 * 1 + 1 by have := hK.out.bk.own; omega)
    have hsub : n5 ≤ 90000 := hvO
    clear hR5 hn5 hbc
    go_wp2_with (at_builtin; go_must (refine row_append (w0 := w) B rfl (.tmp 22) (.tmp 24) 63 23 (.slice none 0 0) 1 24 rfl Tryz.underlying63 info_sl_o rfl (by decide) (by decide) (.slice A5 n5 c5) (vO.map fun v => [v]) [.slice A i c] (fun k => ext wr fr (2 * 1 + 1) k = 2 * 1 + 1) rfl rfl rfl (fun u hu => by rw [List.mem_singleton.1 hu]; rfl) (fun k hk => ext_new hk) ?HO hK.out.below (by have := hK.out.bk.lt; have := hK.out.bk.ge; omega) (by rw [HML.out]; omega) ?_))
    case HO => have := HR5.out; rw [← HN5.out] at this; exact this.owner (ext_elder _ _ _)
    intro V1 w1 hR1 hB1 hW1
    replace hR1 : Row B (ext wr fr (2 * 1 + 1)) (2 * 1 + 1) 1 23 w1 V1 ((vO.map fun v => [v]) ++ [[.slice A i c]]) := hR1
    replace hW1 : Went (.slice A5 n5 c5) V1 (vO.map fun v => [v]).length wr w1 := by simpa using hW1
    obtain ⟨A1, c1, hV1, _, _⟩ := hR1.slice
    rw [List.length_append, List.length_singleton, HML.out] at hV1
    subst hV1
    have hR5' := HR5.out
    rw [← HN5.out] at hR5'
    have hmid := gr_mid hR5' (w1 := w1) hW1
    have hk1 : w1.cell? ⟨kb, 50, none⟩ = some (.slice A5 n5 c5) := (cell_block (hmid kb hkb H5O.out) 50).trans hV5
    have hk2 : w1.frozen? ⟨kb, 50, none⟩ = false := blk_frozen ((hmid kb hkb H5O.out).trans HBC.out) 50
    have HP1 := Lib.hid (show KpB B kb f w (ext wr fr (2 * 1 + 1)) vI1 wI1 (vO ++ [.slice A i c]) wO (w1.setCell ⟨kb, 50, none⟩ (.slice A1 (n5 + 1) c1)) from
      hK.out.pushO (V := .slice A5 n5 c5) HLO.out hV5 hR5' hR1 (by rw [List.length_map] at hW1; exact hW1) hB1 HLV.out HLL.out)
    clear hR1 hB1 hW1 hmid hR5' hV5
    go_wp2_with fail
    obtain ⟨wn, hwn⟩ : ∃ wn, wn = w1.setCell ⟨kb, 50, none⟩ (.slice A1 (n5 + 1) c1) := ⟨_, rfl⟩
    rw [← hwn] at HP1 ⊢
    clear hwn hk1 hk2
    obtain ⟨V6, hV6, hR6⟩ := HP1.out.kO.was
    obtain ⟨A6, c6, rfl, hc6, hm6⟩ := row_len hR6
    obtain ⟨n6, hn6⟩ : ∃ n6, n6 = wO.length := ⟨_, rfl⟩
    rw [← hn6] at hV6 hR6 hc6
    replace hV6 : wn.cell? ⟨kb, 51, none⟩ = some (.slice A6 n6 c6) := hV6
    have HN6 := Lib.hid hn6
    have hkn := HP1.out.bk.lt
    have HC := Lib.hid (show kOp.C wn.drew A i ops from by
      have h5 := R_moved (P := fun x => 5 ≤ x) (HRW.out) HP1.out.elder (fun k hk hf => HP1.out.stay k hk hf)
      have := (Kd.R_reads' h5).2.2
      rw [← HNO.out] at this
      exact this)
    have HR6 := Lib.hid hR6
    have HV6 := Lib.hid hV6
    have HBw := Lib.hid HP1.out.below
    have hBe := HP1.out.bk.ge
    clear hn6 hR6
    obtain ⟨f1, hf1⟩ : ∃ f1, f1 = ext wr fr (2 * 1 + 1) := ⟨_, rfl⟩
    rw [← hf1] at HP1 HR6
    obtain ⟨f2, hf2⟩ : ∃ f2, f2 = ext wn f1 5 := ⟨_, rfl⟩
    have HF2 := Lib.hid hf2
    have HP1D := Lib.hid (show KpB B kb f w f2 vI1 wI1 (vO ++ [.slice A i c]) wO wn.drew from by rw [hf2]; exact (HP1.out.reown (ext_elder wn f1 5)).later (Below.refl _ _).drew)
    have HR6D := Lib.hid (show Row B f2 (2 * 1 + 2) 1 23 wn.drew (.slice A6 n6 c6) (wO.map fun v => [v]) from by rw [hf2]; exact Kd.R_below (Row.owner HR6.out (ext_elder wn f1 5)) (Below.refl _ _).drew)
    clear hf1 hf2 HP1
    have hO2 := Lib.hid (show f2 kb ≠ 2 * 1 + 2 by have := HP1D.out.bk.own; omega)
    go_region_law (first | (change if Region.wanted ⟨some 36, _, _, _, _, _⟩ _ = true then _ else _; refine outer_stepn_o (w0 := w) (wr := w2) (B := B) (o' := 2 * 1 + 2) (f := f2) (rows := wO.map fun v => [v]) (by rfl) (.tmp 32) (.tmp 35) (by rfl) (by rfl) (by rfl) (by rfl) HR6N.out HP2.out.below (by omega) (by rw [HMW.out]; omega) ?_; intro V2 w3 hR2 hB3 hW3; obtain ⟨A2, c2, hV2, _, _⟩ := Row.slice hR2; rw [List.length_append, List.length_singleton, HMW.out] at hV2; subst hV2; have hmid := gr_mid HR6N.out hW3; have hk3 : w3.cell? ⟨kb, 51, none⟩ = some (.slice A6 n6 c6) := (cell_block (hmid kb hk2 hO2.out) 51).trans hV6N; have hk4 : w3.frozen? ⟨kb, 51, none⟩ = false := (by obtain ⟨cs, hcs⟩ := HP2.out.bk.blk; exact blk_frozen ((hmid kb hk2 hO2.out).trans hcs) 51); have HR2 := Lib.hid hR2; have HB3 := Lib.hid hB3; have HW3 := Lib.hid hW3; clear hmid hR2 hB3 hW3) | (go_simp; go_at_call 13; refine (refOps_any ops A i c _ HC.out hnl HL3.out).mono ?_; rintro e w2 ⟨⟨u, rfl, hRu⟩, hB2⟩; have HP2 := Lib.hid (HP1D.out.later hB2); have HU := Lib.hid (show kOp.R 44 w2 B (fun k => 5 ≤ f2 k) u ops from Kd.R_lower (Kd.R_mono (Kd.R_bound hRu) (fun k hk => by rw [HF2.out, show ext wn f1 5 k = 5 from ext_new (show wn.heap.size ≤ k from hk.2.1)]; omega)) (by show B ≤ wn.heap.size; omega)); have HR6N := Lib.hid (Kd.R_below HR6D.out hB2); have hV6N : w2.cell? ⟨kb, 51, none⟩ = some (.slice A6 n6 c6) := pw_cell_below hB2 HV6.out; have hk2 : kb < w2.heap.size := HP2.out.bk.lt; clear hRu hB2; obtain ⟨Au, cu, rfl⟩ := Kd.R_slice HU.out))
    all_goals
      have HP3 := Lib.hid (show KpB B kb f w (ext w2 f2 (2 * 1 + 2)) vI1 wI1 (vO ++ [.slice A i c]) (wO ++ [.slice Au ops.length cu]) (w3.setCell ⟨kb, 51, none⟩ (.slice A2 (n5 + 1) c2)) from
        HP2.out.pushWO (V := .slice A6 n6 c6) (v := .slice A i c) (xs := ops) hV6N HR6N.out HR2.out (by have := HW3.out; rwa [List.length_map] at this) HB3.out (by rw [HLO.out]; simp) (R_moved (P := fun x => 5 ≤ x) (HRW.out) HP2.out.elder (fun k hk hf => HP2.out.stay k hk hf)) HU.out)
      clear HP2 HU HR6N HR2 HB3 HW3 hk3 hk4
      go_wp2_with fail
      go_end0
      exact ⟨rfl, _, vI1, wI1, _, HVL.out, hwl.out, HP3.out⟩

theorem same_i (xs : List Int) (A A' : Option Addr) (m c c' : Nat) (w : World) (hm : m = xs.length) (h0 : (Kd.int .i64).C w A xs.length xs) (h1 : (Kd.int .i64).C w A' xs.length xs) (hc : m ≤ c) (hc' : m ≤ c') :
    Calls Tryz.prog 146 #[.slice A m c, .slice A' m c'] w fun e w' => e = .returned (.bool true) ∧ Below w.heap.size w w' := by
  subst hm
  obtain ⟨r, h2, h3⟩ := ints_f xs xs h0.2.1 (xs.length + 1) (by omega)
  obtain rfl := h3.2 rfl
  exact (Pr.pithref_SameInts.calls (xs.length + 1) A c xs A' c' xs true w h0 hc h1 hc' h2).mono fun e w' ⟨h4, h5⟩ => ⟨h4, h5.below⟩
theorem same_o (xs : List POp) (A A' : Option Addr) (m c c' : Nat) (w : World) (hm : m = xs.length) (h0 : kOp.C w A xs.length xs) (h1 : kOp.C w A' xs.length xs) (hc : m ≤ c) (hc' : m ≤ c') :
    Calls Tryz.prog 29 #[.slice A m c, .slice A' m c'] w fun e w' => e = .returned (.bool true) ∧ Below w.heap.size w w' := by
  subst hm
  obtain ⟨M, hM, hM2⟩ := exists_bound xs (op_lists h0)
  have key : ∃ r, Pr.pithref_SameOps.f (xs.length + M + 1) (xs.map toS) (xs.map toS) = some r ∧ (r = true ↔ xs = xs) := by
    unfold Pr.pithref_SameOps.f
    rw [if_pos (by simp)]
    exact ops_l0 xs xs rfl h0.2.1 M hM hM2 xs.length _ 0 (by omega) (by omega) rfl
  obtain ⟨r, h2, h3⟩ := key
  obtain rfl := h3.2 rfl
  have := Pr.pithref_SameOps.calls (xs.length + M + 1) A c (xs.map toS) A' c' (xs.map toS) true w (by rw [List.length_map]; exact kOp_C54 h0) (by rw [List.length_map]; exact hc) (by rw [List.length_map]; exact kOp_C54 h1) (by rw [List.length_map]; exact hc') h2
  rw [List.length_map] at this
  exact this

set_option maxHeartbeats 2000000 in
theorem untouched_i {B kb : Nat} {f : Nat → Nat} {p : Int} {w : World} {vs ws : List Value} (h : Bk B kb f p w) (hK : KepI B kb f vs ws w) (hlen : ws.length = vs.length) (hvl : vs.length ≤ 100000) :
    Calls Tryz.prog 71 #[.pointer (some ⟨kb, 0, none⟩)] w fun e w' => e = .returned (.bool true) ∧ Below w.heap.size w w' := by
  obtain ⟨n, hn⟩ : ∃ n, n = vs.length := ⟨_, rfl⟩
  have hkb := h.lt
  have HK := Lib.hid hK
  have HN := Lib.hid hn
  have HW := Lib.hid hlen
  rw [← hn] at hvl
  clear h hK hlen hn
  go_enter Tryz.func71, Tryz.ntmps71
  go_wp2_with fail
  go_loopw [3] (fun v wr => ∃ i : Nat, v = .int .i64 (i : Int) ∧ i ≤ n ∧ Hid (Below w.heap.size w wr)) (fun v _ => n - (intOf v).toNat)
  case atStart => exact ⟨0, rfl, Nat.zero_le _, Lib.hid (Below.refl _ _)⟩
  case round =>
  obtain ⟨i, rfl, hi, hB⟩ := hrel
  by_cases hlt : i < n
  · obtain ⟨v, hv⟩ : ∃ v, vs[i]? = some v := ⟨vs[i]'(by have := HN.out; omega), List.getElem?_eq_getElem _⟩
    obtain ⟨u, hu⟩ : ∃ u, ws[i]? = some u := ⟨ws[i]'(by have := HN.out; have := HW.out; omega), List.getElem?_eq_getElem _⟩
    obtain ⟨xs, hx, hy⟩ := HK.out.same i v u hv hu
    obtain ⟨V, hV, hVR⟩ := HK.out.outer
    obtain ⟨gV, cV, rfl, d1, d2, _, d3, _, d4, _⟩ := row_at hVR hv
    obtain ⟨V', hV', hVR'⟩ := HK.out.was
    obtain ⟨gW, cW, rfl, e1, e2, _, e3, _, e4, _⟩ := row_at hVR' hu
    obtain ⟨A, c, rfl, h1, h2⟩ := Kd.R_reads hx
    obtain ⟨A', c', rfl, h3, h4⟩ := Kd.R_reads hy
    obtain ⟨m, hm⟩ : ∃ m, m = xs.length := ⟨_, rfl⟩
    rw [← HN.out] at hV d1
    rw [HW.out, ← HN.out] at hV' e1
    replace hV' : w.cell? ⟨kb, 6, none⟩ = some (.slice (some ⟨gW, 0, none⟩) n cW) := hV'
    rw [← hm] at d4 e4 h1 h3
    have hmx : m ≤ 9223372036854775807 := by rw [hm]; exact h2.2.1
    have HM := Lib.hid hm
    have HX := Lib.hid h2
    have HY := Lib.hid h4
    have HS := Lib.hid (show ∀ W, Below w.heap.size w W → W.cell? ⟨kb, 5, none⟩ = some (.slice (some ⟨gV, 0, none⟩) n cV) ∧ W.cell? ⟨gV, i, none⟩ = some (.slice A m c) ∧ W.cell? ⟨kb, 6, none⟩ = some (.slice (some ⟨gW, 0, none⟩) n cW) ∧ W.cell? ⟨gW, i, none⟩ = some (.slice A' m c') from fun W hb => ⟨pw_cell_below hb hV, pw_cell_below hb d4, pw_cell_below hb hV', pw_cell_below hb e4⟩)
    obtain ⟨s1, s2, s3, s4⟩ := HS.out wr hB.out
    have wi : IntKind.i64.wrap (i : Int) = (i : Int) := by rw [IntKind.wrap_i64]; omega
    have j1 : (i : Int) < (n : Int) := by omega
    have HBD := Lib.hid hB.out.drew
    have hSD := HS.out wr.drew HBD.out
    have HSD := Lib.hid hSD
    clear hv hu hx hy hV hVR hV' hVR' d4 e4 h2 h4 hm hSD
    go_wp2_with fail
    go_region_held3 (fun W => W.cell? ⟨kb, 5, none⟩ = some (.slice (some ⟨gV, 0, none⟩) n cV) ∧ W.cell? ⟨gV, i, none⟩ = some (.slice A m c) ∧ W.cell? ⟨kb, 6, none⟩ = some (.slice (some ⟨gW, 0, none⟩) n cW) ∧ W.cell? ⟨gW, i, none⟩ = some (.slice A' m c')) (first | with_reducible exact HSD.out | with_reducible exact hS5) (first | (go_at_call 146; refine (same_i xs A A' m c c' _ HM.out (by have := Kd.C_below HX.out HBD.out; exact this) (by have := Kd.C_below HY.out HBD.out; exact this) h1 h3).mono ?_; rintro e w5 ⟨rfl, hB5⟩; have hB5N : Below w.heap.size w w5 := HBD.out.trans (hB5.mono HBD.out.size); have hS5 := HS.out w5 hB5N))
    have HB5 := Lib.hid hB5N
    clear hB5N hB5 hS5 HSD HBD HS HX HY s1 s2 s3 s4
    go_wp2_with fail
    go_roundw
    case rel => exact ⟨i + 1, by go_num, hlt, HB5⟩
    case measure => simp [intOf]; omega
  · obtain rfl : i = n := by omega
    obtain ⟨V, hV, hVR⟩ := HK.out.outer
    obtain ⟨AV, cV, rfl, h1, h2⟩ := row_len hVR
    rw [← HN.out] at hV h1
    have hV := pw_cell_below hB.out hV
    clear hVR
    go_wp2_with fail
    go_ret
    exact ⟨rfl, hB.out⟩

set_option maxHeartbeats 2000000 in
theorem untouched_o {B kb : Nat} {f : Nat → Nat} {p : Int} {w : World} {vs ws : List Value} (h : Bk B kb f p w) (hK : KepO B kb f vs ws w) (hlen : ws.length = vs.length) (hvl : vs.length ≤ 100000) :
    Calls Tryz.prog 86 #[.pointer (some ⟨kb, 0, none⟩)] w fun e w' => e = .returned (.bool true) ∧ Below w.heap.size w w' := by
  obtain ⟨n, hn⟩ : ∃ n, n = vs.length := ⟨_, rfl⟩
  have hkb := h.lt
  have HK := Lib.hid hK
  have HN := Lib.hid hn
  have HW := Lib.hid hlen
  rw [← hn] at hvl
  clear h hK hlen hn
  go_enter Tryz.func86, Tryz.ntmps86
  go_wp2_with fail
  go_loopw [3] (fun v wr => ∃ i : Nat, v = .int .i64 (i : Int) ∧ i ≤ n ∧ Hid (Below w.heap.size w wr)) (fun v _ => n - (intOf v).toNat)
  case atStart => exact ⟨0, rfl, Nat.zero_le _, Lib.hid (Below.refl _ _)⟩
  case round =>
  obtain ⟨i, rfl, hi, hB⟩ := hrel
  by_cases hlt : i < n
  · obtain ⟨v, hv⟩ : ∃ v, vs[i]? = some v := ⟨vs[i]'(by have := HN.out; omega), List.getElem?_eq_getElem _⟩
    obtain ⟨u, hu⟩ : ∃ u, ws[i]? = some u := ⟨ws[i]'(by have := HN.out; have := HW.out; omega), List.getElem?_eq_getElem _⟩
    obtain ⟨xs, hx, hy⟩ := HK.out.same i v u hv hu
    obtain ⟨V, hV, hVR⟩ := HK.out.outer
    obtain ⟨gV, cV, rfl, d1, d2, _, d3, _, d4, _⟩ := row_at hVR hv
    obtain ⟨V', hV', hVR'⟩ := HK.out.was
    obtain ⟨gW, cW, rfl, e1, e2, _, e3, _, e4, _⟩ := row_at hVR' hu
    obtain ⟨A, c, rfl, h1, h2⟩ := Kd.R_reads hx
    obtain ⟨A', c', rfl, h3, h4⟩ := Kd.R_reads hy
    obtain ⟨m, hm⟩ : ∃ m, m = xs.length := ⟨_, rfl⟩
    rw [← HN.out] at hV d1
    rw [HW.out, ← HN.out] at hV' e1
    replace hV' : w.cell? ⟨kb, 51, none⟩ = some (.slice (some ⟨gW, 0, none⟩) n cW) := hV'
    rw [← hm] at d4 e4 h1 h3
    have hmx : m ≤ 9223372036854775807 := by rw [hm]; exact h2.2.1
    have HM := Lib.hid hm
    have HX := Lib.hid h2
    have HY := Lib.hid h4
    have HS := Lib.hid (show ∀ W, Below w.heap.size w W → W.cell? ⟨kb, 50, none⟩ = some (.slice (some ⟨gV, 0, none⟩) n cV) ∧ W.cell? ⟨gV, i, none⟩ = some (.slice A m c) ∧ W.cell? ⟨kb, 51, none⟩ = some (.slice (some ⟨gW, 0, none⟩) n cW) ∧ W.cell? ⟨gW, i, none⟩ = some (.slice A' m c') from fun W hb => ⟨pw_cell_below hb hV, pw_cell_below hb d4, pw_cell_below hb hV', pw_cell_below hb e4⟩)
    obtain ⟨s1, s2, s3, s4⟩ := HS.out wr hB.out
    have wi : IntKind.i64.wrap (i : Int) = (i : Int) := by rw [IntKind.wrap_i64]; omega
    have j1 : (i : Int) < (n : Int) := by omega
    have HBD := Lib.hid hB.out.drew
    have hSD := HS.out wr.drew HBD.out
    have HSD := Lib.hid hSD
    clear hv hu hx hy hV hVR hV' hVR' d4 e4 h2 h4 hm hSD
    go_wp2_with fail
    go_region_held3 (fun W => W.cell? ⟨kb, 50, none⟩ = some (.slice (some ⟨gV, 0, none⟩) n cV) ∧ W.cell? ⟨gV, i, none⟩ = some (.slice A m c) ∧ W.cell? ⟨kb, 51, none⟩ = some (.slice (some ⟨gW, 0, none⟩) n cW) ∧ W.cell? ⟨gW, i, none⟩ = some (.slice A' m c')) (first | with_reducible exact HSD.out | with_reducible exact hS5) (first | (go_at_call 29; refine (same_o xs A A' m c c' _ HM.out (by have := Kd.C_below HX.out HBD.out; exact this) (by have := Kd.C_below HY.out HBD.out; exact this) h1 h3).mono ?_; rintro e w5 ⟨rfl, hB5⟩; have hB5N : Below w.heap.size w w5 := HBD.out.trans (hB5.mono HBD.out.size); have hS5 := HS.out w5 hB5N))
    have HB5 := Lib.hid hB5N
    clear hB5N hB5 hS5 HSD HBD HS HX HY s1 s2 s3 s4
    go_wp2_with fail
    go_roundw
    case rel => exact ⟨i + 1, by go_num, hlt, HB5⟩
    case measure => simp [intOf]; omega
  · obtain rfl : i = n := by omega
    obtain ⟨V, hV, hVR⟩ := HK.out.outer
    obtain ⟨AV, cV, rfl, h1, h2⟩ := row_len hVR
    rw [← HN.out] at hV h1
    have hV := pw_cell_below hB.out hV
    clear hVR
    go_wp2_with fail
    go_ret
    exact ⟨rfl, hB.out⟩

theorem KinI.moved {p : Int} {a B kb : Nat} {f f' : Nat → Nat} {vs gs : List Value} {M : Nat → Nat → Prop} {D : Nat → Nat} {W W1 : World} (h : KinI p a B kb f vs gs M D W) (he : Elder W f f') (hc : ∀ j, j = 5 ∨ j = 7 → W1.cell? ⟨kb, j, none⟩ = W.cell? ⟨kb, j, none⟩) (hm : ∀ k, k < W.heap.size → (f k = 1 ∨ f k = 2 ∨ ∃ i, f k = 2 * i + 5) → W1.heap[k]? = W.heap[k]?) : KinI p a B kb f' vs gs M D W1 :=
  h.move he (fun j hj => hc j hj) (fun k hk ho => hm k hk (by rcases ho with h | h | ⟨i, h⟩; exact Or.inl h; exact Or.inr (Or.inl h); exact Or.inr (Or.inr ⟨i, h⟩)))
theorem KinO.moved {p : Int} {a B kb : Nat} {f f' : Nat → Nat} {vs gs : List Value} {M : Nat → Nat → Prop} {D : Nat → Nat} {W W1 : World} (h : KinO p a B kb f vs gs M D W) (he : Elder W f f') (hc : ∀ j, j = 50 ∨ j = 52 → W1.cell? ⟨kb, j, none⟩ = W.cell? ⟨kb, j, none⟩) (hm : ∀ k, k < W.heap.size → (f k = 3 ∨ f k = 4 ∨ ∃ i, f k = 2 * i + 6) → W1.heap[k]? = W.heap[k]?) : KinO p a B kb f' vs gs M D W1 :=
  h.move he (fun j hj => hc j hj) (fun k hk ho => hm k hk (by rcases ho with h | h | ⟨i, h⟩; exact Or.inl h; exact Or.inr (Or.inl h); exact Or.inr (Or.inr ⟨i, by omega⟩)))

set_option maxHeartbeats 16000000 in
set_option maxRecDepth 100000 in
theorem untouched_any {B kb : Nat} {f : Nat → Nat} {p : Int} {w : World} {vI wI vO wO : List Value} (h : Bk B kb f p w) (hI : KepI B kb f vI wI w) (hO : KepO B kb f vO wO w) (hlI : wI.length = vI.length) (hlO : wO.length = vO.length) (hvI : vI.length ≤ 100000) (hvO : vO.length ≤ 100000) :
    Calls Tryz.prog 44 #[.pointer (some ⟨kb, 0, none⟩)] w fun e w' => e = .returned (.bool true) ∧ Below w.heap.size w w' := by
  have HB := Lib.hid h
  have HI := Lib.hid hI
  have HO := Lib.hid hO
  have hkb := h.lt
  clear h hI hO
  go_enter Tryz.func44, Tryz.ntmps44
  go_wp2_with fail
  refine (triv_bytesUntouched HB.out).mono ?_
  rintro e w1 ⟨rfl, hw⟩
  replace hw := hw.symm
  subst hw
  go_wp2_with fail
  refine (untouched_i HB.out HI.out hlI hvI).mono ?_
  rintro e w2 ⟨rfl, hB2⟩
  replace HO := Lib.hid (HO.out.below hkb hB2)
  replace HB := Lib.hid (HB.out.below hB2)
  have HB2 := Lib.hid hB2
  clear HI hB2
  go_wp2_with fail
  refine (triv_boolsUntouched HB.out).mono ?_
  rintro e w1 ⟨rfl, hw⟩
  replace hw := hw.symm
  subst hw
  go_wp2_with fail
  refine (triv_textsUntouched HB.out).mono ?_
  rintro e w1 ⟨rfl, hw⟩
  replace hw := hw.symm
  subst hw
  go_wp2_with fail
  refine (triv_complexesUntouched HB.out).mono ?_
  rintro e w1 ⟨rfl, hw⟩
  replace hw := hw.symm
  subst hw
  go_wp2_with fail
  refine (triv_byteListsUntouched HB.out).mono ?_
  rintro e w1 ⟨rfl, hw⟩
  replace hw := hw.symm
  subst hw
  go_wp2_with fail
  refine (triv_intListsUntouched HB.out).mono ?_
  rintro e w1 ⟨rfl, hw⟩
  replace hw := hw.symm
  subst hw
  go_wp2_with fail
  refine (triv_pairsUntouched HB.out).mono ?_
  rintro e w1 ⟨rfl, hw⟩
  replace hw := hw.symm
  subst hw
  go_wp2_with fail
  refine (triv_changesUntouched HB.out).mono ?_
  rintro e w1 ⟨rfl, hw⟩
  replace hw := hw.symm
  subst hw
  go_wp2_with fail
  refine (triv_infosUntouched HB.out).mono ?_
  rintro e w1 ⟨rfl, hw⟩
  replace hw := hw.symm
  subst hw
  go_wp2_with fail
  refine (triv_nodesUntouched HB.out).mono ?_
  rintro e w1 ⟨rfl, hw⟩
  replace hw := hw.symm
  subst hw
  go_wp2_with fail
  refine (triv_shellsUntouched HB.out).mono ?_
  rintro e w1 ⟨rfl, hw⟩
  replace hw := hw.symm
  subst hw
  go_wp2_with fail
  refine (triv_listsUntouched HB.out).mono ?_
  rintro e w1 ⟨rfl, hw⟩
  replace hw := hw.symm
  subst hw
  go_wp2_with fail
  refine (triv_framesUntouched HB.out).mono ?_
  rintro e w1 ⟨rfl, hw⟩
  replace hw := hw.symm
  subst hw
  go_wp2_with fail
  refine (triv_filesUntouched HB.out).mono ?_
  rintro e w1 ⟨rfl, hw⟩
  replace hw := hw.symm
  subst hw
  go_wp2_with fail
  refine (triv_passesUntouched HB.out).mono ?_
  rintro e w1 ⟨rfl, hw⟩
  replace hw := hw.symm
  subst hw
  go_wp2_with fail
  refine (untouched_o HB.out HO.out hlO hvO).mono ?_
  rintro e w3 ⟨rfl, hB3⟩
  have HB3 := Lib.hid (HB2.out.trans (hB3.mono HB2.out.size))
  clear hB3 HO HB
  go_wp2_with fail
  go_ret
  exact ⟨rfl, HB3.out⟩

set_option maxHeartbeats 16000000 in
set_option maxRecDepth 100000 in
theorem holds_any {B kb : Nat} {f : Nat → Nat} {p : Int} {w : World} {vI gI vO gO : List Value} {DI DO : Nat → Nat} (h : Bk B kb f p w) (hI : KinI p 0 B kb f vI gI (fun _ _ => True) DI w) (hO : KinO p (0 + vI.length) B kb f vO gO (fun _ _ => True) DO w) (hvI : vI.length ≤ 100000) (hvO : vO.length ≤ 100000) :
    Calls Tryz.prog 46 #[.pointer (some ⟨kb, 0, none⟩)] w fun e w' => e = .returned (.bool true) ∧ Below w.heap.size w w' := by
  have hbase := h.base
  have HB := Lib.hid h
  have HI := Lib.hid hI
  have hkb := h.lt
  obtain ⟨nI, hnI⟩ : ∃ nI, nI = 0 + vI.length := ⟨_, rfl⟩
  rw [← hnI] at hO
  have HO := Lib.hid hO
  have HN := Lib.hid hnI
  have hnb : nI ≤ 1000000 := by omega
  clear h hI hO hnI
  go_enter Tryz.func46, Tryz.ntmps46
  go_wp2_with fail
  refine (triv_bytesHold HB.out (0 : Int)).mono ?_
  rintro e w1 ⟨rfl, hw⟩
  replace hw := hw.symm
  subst hw
  go_wp2_with fail
  refine (hold_i HB.out HI.out (by omega) (by omega)).mono ?_
  rw [← HN.out]
  rintro e w2 ⟨rfl, hB2⟩
  replace HO := Lib.hid (HO.out.below hkb hB2)
  replace HB := Lib.hid (HB.out.below hB2)
  have HB2 := Lib.hid hB2
  clear HI hB2
  go_wp2_with fail
  refine (triv_boolsHold HB.out (nI : Int)).mono ?_
  rintro e w1 ⟨rfl, hw⟩
  replace hw := hw.symm
  subst hw
  go_wp2_with fail
  refine (triv_textsHold HB.out (nI : Int)).mono ?_
  rintro e w1 ⟨rfl, hw⟩
  replace hw := hw.symm
  subst hw
  go_wp2_with fail
  refine (triv_complexesHold HB.out (nI : Int)).mono ?_
  rintro e w1 ⟨rfl, hw⟩
  replace hw := hw.symm
  subst hw
  go_wp2_with fail
  refine (triv_byteListsHold HB.out (nI : Int)).mono ?_
  rintro e w1 ⟨rfl, hw⟩
  replace hw := hw.symm
  subst hw
  go_wp2_with fail
  refine (triv_intListsHold HB.out (nI : Int)).mono ?_
  rintro e w1 ⟨rfl, hw⟩
  replace hw := hw.symm
  subst hw
  go_wp2_with fail
  refine (triv_pairsHold HB.out (nI : Int)).mono ?_
  rintro e w1 ⟨rfl, hw⟩
  replace hw := hw.symm
  subst hw
  go_wp2_with fail
  refine (triv_changesHold HB.out (nI : Int)).mono ?_
  rintro e w1 ⟨rfl, hw⟩
  replace hw := hw.symm
  subst hw
  go_wp2_with fail
  refine (triv_infosHold HB.out (nI : Int)).mono ?_
  rintro e w1 ⟨rfl, hw⟩
  replace hw := hw.symm
  subst hw
  go_wp2_with fail
  refine (triv_nodesHold HB.out (nI : Int)).mono ?_
  rintro e w1 ⟨rfl, hw⟩
  replace hw := hw.symm
  subst hw
  go_wp2_with fail
  refine (triv_shellsHold HB.out (nI : Int)).mono ?_
  rintro e w1 ⟨rfl, hw⟩
  replace hw := hw.symm
  subst hw
  go_wp2_with fail
  refine (triv_listsHold HB.out (nI : Int)).mono ?_
  rintro e w1 ⟨rfl, hw⟩
  replace hw := hw.symm
  subst hw
  go_wp2_with fail
  refine (triv_framesHold HB.out (nI : Int)).mono ?_
  rintro e w1 ⟨rfl, hw⟩
  replace hw := hw.symm
  subst hw
  go_wp2_with fail
  refine (triv_filesHold HB.out (nI : Int)).mono ?_
  rintro e w1 ⟨rfl, hw⟩
  replace hw := hw.symm
  subst hw
  go_wp2_with fail
  refine (triv_passesHold HB.out (nI : Int)).mono ?_
  rintro e w1 ⟨rfl, hw⟩
  replace hw := hw.symm
  subst hw
  go_wp2_with fail
  refine (hold_o HB.out HO.out (by omega) hnb).mono ?_
  rintro e w3 ⟨rfl, hB3⟩
  have HB3 := Lib.hid (HB2.out.trans (hB3.mono HB2.out.size))
  clear hB3 HO HB
  go_wp2_with fail
  go_ret
  exact ⟨rfl, HB3.out⟩

set_option maxHeartbeats 16000000 in
set_option maxRecDepth 100000 in
theorem write_any {B kb : Nat} {f : Nat → Nat} {p : Int} {w : World} {vI vO : List Value} {DI DO : Nat → Nat} (h : Bk B kb f p w) (hI : KinI p 0 B kb f vI [] (fun _ _ => False) DI w) (hO : KinO p (0 + vI.length) B kb f vO [] (fun _ _ => False) DO w) (hvI : vI.length ≤ 100000) (hvO : vO.length ≤ 100000) :
    Calls Tryz.prog 45 #[.pointer (some ⟨kb, 0, none⟩)] w fun e w' => e = .returned (.tuple #[]) ∧ Bk B kb f p w' ∧ KinI p 0 B kb f vI [] (fun _ _ => True) DI w' ∧ KinO p (0 + vI.length) B kb f vO [] (fun _ _ => True) DO w' ∧ Below B w w' := by
  have hbase := h.base
  have HB := Lib.hid h
  have HI := Lib.hid hI
  have hkb := h.lt
  obtain ⟨nI, hnI⟩ : ∃ nI, nI = 0 + vI.length := ⟨_, rfl⟩
  rw [← hnI] at hO ⊢
  have HO := Lib.hid hO
  have HN := Lib.hid hnI
  have hnb : nI ≤ 1000000 := by omega
  clear h hI hO hnI
  go_enter Tryz.func45, Tryz.ntmps45
  go_wp2_with fail
  refine (triv_bytesWrite HB.out (0 : Int)).mono ?_
  rintro e w1 ⟨rfl, hw⟩
  replace hw := hw.symm
  subst hw
  go_wp2_with fail
  refine (write_i HB.out HI.out (by omega) (by omega)).mono ?_
  rw [← HN.out]
  rintro e w2 ⟨rfl, hI2, hO2, hB2⟩
  have hks : w2.heap[kb]? = _ := hO2.2 kb hkb (by rw [HB.out.own]; rintro ⟨i, h⟩; omega)
  replace HO := Lib.hid (HO.out.moved (W1 := w2) (fun _ _ => rfl) (fun j _ => cell_block hks j) (fun k hk ho => hO2.2 k hk (by rintro ⟨i, h⟩; omega)))
  replace HB := Lib.hid (HB.out.off hO2 (by rintro ⟨i, h⟩; omega))
  replace HI := Lib.hid hI2
  have HB2 := Lib.hid hB2
  have hkb2 : kb < w2.heap.size := HB.out.lt
  clear hI2 hO2 hB2 hks
  go_wp2_with fail
  refine (triv_boolsWrite HB.out (nI : Int)).mono ?_
  rintro e w1 ⟨rfl, hw⟩
  replace hw := hw.symm
  subst hw
  go_wp2_with fail
  refine (triv_textsWrite HB.out (nI : Int)).mono ?_
  rintro e w1 ⟨rfl, hw⟩
  replace hw := hw.symm
  subst hw
  go_wp2_with fail
  refine (triv_complexesWrite HB.out (nI : Int)).mono ?_
  rintro e w1 ⟨rfl, hw⟩
  replace hw := hw.symm
  subst hw
  go_wp2_with fail
  refine (triv_byteListsWrite HB.out (nI : Int)).mono ?_
  rintro e w1 ⟨rfl, hw⟩
  replace hw := hw.symm
  subst hw
  go_wp2_with fail
  refine (triv_intListsWrite HB.out (nI : Int)).mono ?_
  rintro e w1 ⟨rfl, hw⟩
  replace hw := hw.symm
  subst hw
  go_wp2_with fail
  refine (triv_pairsWrite HB.out (nI : Int)).mono ?_
  rintro e w1 ⟨rfl, hw⟩
  replace hw := hw.symm
  subst hw
  go_wp2_with fail
  refine (triv_changesWrite HB.out (nI : Int)).mono ?_
  rintro e w1 ⟨rfl, hw⟩
  replace hw := hw.symm
  subst hw
  go_wp2_with fail
  refine (triv_infosWrite HB.out (nI : Int)).mono ?_
  rintro e w1 ⟨rfl, hw⟩
  replace hw := hw.symm
  subst hw
  go_wp2_with fail
  refine (triv_nodesWrite HB.out (nI : Int)).mono ?_
  rintro e w1 ⟨rfl, hw⟩
  replace hw := hw.symm
  subst hw
  go_wp2_with fail
  refine (triv_shellsWrite HB.out (nI : Int)).mono ?_
  rintro e w1 ⟨rfl, hw⟩
  replace hw := hw.symm
  subst hw
  go_wp2_with fail
  refine (triv_listsWrite HB.out (nI : Int)).mono ?_
  rintro e w1 ⟨rfl, hw⟩
  replace hw := hw.symm
  subst hw
  go_wp2_with fail
  refine (triv_framesWrite HB.out (nI : Int)).mono ?_
  rintro e w1 ⟨rfl, hw⟩
  replace hw := hw.symm
  subst hw
  go_wp2_with fail
  refine (triv_filesWrite HB.out (nI : Int)).mono ?_
  rintro e w1 ⟨rfl, hw⟩
  replace hw := hw.symm
  subst hw
  go_wp2_with fail
  refine (triv_passesWrite HB.out (nI : Int)).mono ?_
  rintro e w1 ⟨rfl, hw⟩
  replace hw := hw.symm
  subst hw
  go_wp2_with fail
  refine (write_o HB.out HO.out (by omega) hnb).mono ?_
  rintro e w3 ⟨rfl, hI3, hO3, hB3⟩
  have hks : w3.heap[kb]? = w2.heap[kb]? := hO3.2 kb hkb2 (by rw [HB.out.own]; rintro ⟨i, h⟩; omega)
  have HI3 := Lib.hid (HI.out.moved (W1 := w3) (fun _ _ => rfl) (fun j _ => cell_block hks j) (fun k hk ho => hO3.2 k hk (by rintro ⟨i, h⟩; omega)))
  have HBk := Lib.hid (HB.out.off hO3 (by rintro ⟨i, h⟩; omega))
  have HB3 := Lib.hid (HB2.out.trans hB3)
  have HO3 := Lib.hid hI3
  clear hI3 hO3 hB3 hks HO HI HB HB2
  go_wp2_with fail
  go_end0
  exact ⟨rfl, HBk.out, HI3.out, HO3.out, HB3.out⟩

set_option maxHeartbeats 16000000 in
set_option maxRecDepth 100000 in
theorem grow_any {B kb : Nat} {f : Nat → Nat} {p : Int} {w : World} {vI vO : List Value} (h : Bk B kb f p w) (hI : KinI p 0 B kb f vI [] (fun _ _ => True) (fun _ => 0) w) (hO : KinO p (0 + vI.length) B kb f vO [] (fun _ _ => True) (fun _ => 0) w) (hvI : vI.length ≤ 100000) (hvO : vO.length ≤ 100000) :
    Calls Tryz.prog 47 #[.pointer (some ⟨kb, 0, none⟩)] w fun e w' => e = .returned (.tuple #[]) ∧ ∃ f1 gI gO, Bk B kb f1 p w' ∧ KinI p 0 B kb f1 vI gI (fun _ _ => True) (fun _ => 70) w' ∧ KinO p (0 + vI.length) B kb f1 vO gO (fun _ _ => True) (fun _ => 70) w' ∧ Below B w w' := by
  have HB := Lib.hid h
  have HI := Lib.hid hI
  obtain ⟨nI, hnI⟩ : ∃ nI, nI = 0 + vI.length := ⟨_, rfl⟩
  rw [← hnI] at hO ⊢
  have HO := Lib.hid hO
  have HN := Lib.hid hnI
  have hnb : nI ≤ 1000000 := by omega
  clear h hI hO hnI
  go_enter Tryz.func47, Tryz.ntmps47
  go_wp2_with fail
  go_loopw [2] (fun v wr => ∃ (t : Nat) (f1 : Nat → Nat) (gI gO : List Value), v = .int .i64 (t : Int) ∧ t ≤ 70 ∧ Hid ((t = 0 ∧ gI = [] ∧ gO = []) ∨ (0 < t ∧ gI.length = vI.length ∧ gO.length = vO.length)) ∧ Hid (Bk B kb f1 p wr) ∧ Hid (KinI p 0 B kb f1 vI gI (fun _ _ => True) (fun _ => t) wr) ∧ Hid (KinO p nI B kb f1 vO gO (fun _ _ => True) (fun _ => t) wr) ∧ Hid (Below B w wr)) (fun v _ => 70 - (intOf v).toNat)
  case atStart => exact ⟨0, f, [], [], rfl, by omega, Lib.hid (Or.inl ⟨rfl, rfl, rfl⟩), HB, HI, HO, Lib.hid (Below.refl _ _)⟩
  case round =>
  clear HB HI HO
  obtain ⟨t, f1, gI, gO, rfl, ht, hG, HB, HI, HO, HW⟩ := hrel
  by_cases hlt : t < 70
  · have hbase := HB.out.base
    have j1 : (t : Int) < (70 : Int) := by omega
    rcases hG.out with ⟨rfl, rfl, rfl⟩ | ⟨ht0, hgI, hgO⟩
    · clear hG
      go_wp2_with fail
      refine (triv_bytesGrow HB.out (0 : Int) (0 : Int)).mono ?_
      rintro e w1 ⟨rfl, hw⟩
      replace hw := hw.symm
      subst hw
      go_wp2_with fail
      refine (grow0_i HB.out HI.out (by omega) (by omega)).mono ?_
      rw [← HN.out]
      rintro e w2 ⟨rfl, f2, gI2, hg2, hI2⟩
      have hkb := HB.out.lt
      have HO2 := Lib.hid (KinO.moved HO.out (W1 := w2) hI2.elder (fun j hj => hI2.cells j (by omega)) (fun k hk ho => hI2.off.2 k hk (by rintro (h | h | ⟨i, h⟩) <;> omega)))
      have HB2 := Lib.hid hI2.bk
      have HI2 := Lib.hid hI2.kin
      have HW2 := Lib.hid (HW.out.trans hI2.below)
      have HG2 := Lib.hid hg2
      clear hI2 hg2 HB HI HO HW
      go_wp2_with fail
      refine (triv_boolsGrow HB2.out (nI : Int) (0 : Int)).mono ?_
      rintro e w1 ⟨rfl, hw⟩
      replace hw := hw.symm
      subst hw
      go_wp2_with fail
      refine (triv_textsGrow HB2.out (nI : Int) (0 : Int)).mono ?_
      rintro e w1 ⟨rfl, hw⟩
      replace hw := hw.symm
      subst hw
      go_wp2_with fail
      refine (triv_complexesGrow HB2.out (nI : Int) (0 : Int)).mono ?_
      rintro e w1 ⟨rfl, hw⟩
      replace hw := hw.symm
      subst hw
      go_wp2_with fail
      refine (triv_byteListsGrow HB2.out (nI : Int) (0 : Int)).mono ?_
      rintro e w1 ⟨rfl, hw⟩
      replace hw := hw.symm
      subst hw
      go_wp2_with fail
      refine (triv_intListsGrow HB2.out (nI : Int) (0 : Int)).mono ?_
      rintro e w1 ⟨rfl, hw⟩
      replace hw := hw.symm
      subst hw
      go_wp2_with fail
      refine (triv_pairsGrow HB2.out (nI : Int) (0 : Int)).mono ?_
      rintro e w1 ⟨rfl, hw⟩
      replace hw := hw.symm
      subst hw
      go_wp2_with fail
      refine (triv_changesGrow HB2.out (nI : Int) (0 : Int)).mono ?_
      rintro e w1 ⟨rfl, hw⟩
      replace hw := hw.symm
      subst hw
      go_wp2_with fail
      refine (triv_infosGrow HB2.out (nI : Int) (0 : Int)).mono ?_
      rintro e w1 ⟨rfl, hw⟩
      replace hw := hw.symm
      subst hw
      go_wp2_with fail
      refine (triv_nodesGrow HB2.out (nI : Int) (0 : Int)).mono ?_
      rintro e w1 ⟨rfl, hw⟩
      replace hw := hw.symm
      subst hw
      go_wp2_with fail
      refine (triv_shellsGrow HB2.out (nI : Int) (0 : Int)).mono ?_
      rintro e w1 ⟨rfl, hw⟩
      replace hw := hw.symm
      subst hw
      go_wp2_with fail
      refine (triv_listsGrow HB2.out (nI : Int) (0 : Int)).mono ?_
      rintro e w1 ⟨rfl, hw⟩
      replace hw := hw.symm
      subst hw
      go_wp2_with fail
      refine (triv_framesGrow HB2.out (nI : Int) (0 : Int)).mono ?_
      rintro e w1 ⟨rfl, hw⟩
      replace hw := hw.symm
      subst hw
      go_wp2_with fail
      refine (triv_filesGrow HB2.out (nI : Int) (0 : Int)).mono ?_
      rintro e w1 ⟨rfl, hw⟩
      replace hw := hw.symm
      subst hw
      go_wp2_with fail
      refine (triv_passesGrow HB2.out (nI : Int) (0 : Int)).mono ?_
      rintro e w1 ⟨rfl, hw⟩
      replace hw := hw.symm
      subst hw
      go_wp2_with fail
      refine (grow0_o HB2.out HO2.out (by omega) hnb).mono ?_
      rintro e w3 ⟨rfl, f3, gO3, hg3, hO3⟩
      have HI3 := Lib.hid (KinI.moved HI2.out (W1 := w3) hO3.elder (fun j hj => hO3.cells j (by omega)) (fun k hk ho => hO3.off.2 k hk (by rintro (h | h | ⟨i, h⟩) <;> omega)))
      have HB3 := Lib.hid hO3.bk
      have HO3 := Lib.hid hO3.kin
      have HW3 := Lib.hid (HW2.out.trans hO3.below)
      have HG3 := Lib.hid (show (0 + 1 = 0 ∧ gI2 = [] ∧ gO3 = []) ∨ (0 < 0 + 1 ∧ gI2.length = vI.length ∧ gO3.length = vO.length) from Or.inr ⟨by omega, HG2.out, hg3⟩)
      clear hO3 hg3 HB2 HI2 HO2 HW2 HG2
      go_wp2_with fail
      go_roundw
      case rel => exact ⟨0 + 1, f3, gI2, gO3, by go_num, by omega, HG3, HB3, HI3, HO3, HW3⟩
      case measure => simp [intOf]
    · have HGI := Lib.hid hgI
      have HGO := Lib.hid hgO
      clear hG hgI hgO
      go_wp2_with fail
      refine (triv_bytesGrow HB.out (0 : Int) (t : Int)).mono ?_
      rintro e w1 ⟨rfl, hw⟩
      replace hw := hw.symm
      subst hw
      go_wp2_with fail
      refine (growS_i HB.out HI.out HGI.out ht0 (by omega) (by omega) (by omega)).mono ?_
      rw [← HN.out]
      rintro e w2 ⟨rfl, f2, gI2, hg2, hI2⟩
      have hkb := HB.out.lt
      have HO2 := Lib.hid (KinO.moved HO.out (W1 := w2) hI2.elder (fun j hj => hI2.cells j (by omega)) (fun k hk ho => hI2.off.2 k hk (by rintro (h | h | ⟨i, h⟩) <;> omega)))
      have HB2 := Lib.hid hI2.bk
      have HI2 := Lib.hid hI2.kin
      have HW2 := Lib.hid (HW.out.trans hI2.below)
      have HG2 := Lib.hid hg2
      clear hI2 hg2 HB HI HO HW
      go_wp2_with fail
      refine (triv_boolsGrow HB2.out (nI : Int) (t : Int)).mono ?_
      rintro e w1 ⟨rfl, hw⟩
      replace hw := hw.symm
      subst hw
      go_wp2_with fail
      refine (triv_textsGrow HB2.out (nI : Int) (t : Int)).mono ?_
      rintro e w1 ⟨rfl, hw⟩
      replace hw := hw.symm
      subst hw
      go_wp2_with fail
      refine (triv_complexesGrow HB2.out (nI : Int) (t : Int)).mono ?_
      rintro e w1 ⟨rfl, hw⟩
      replace hw := hw.symm
      subst hw
      go_wp2_with fail
      refine (triv_byteListsGrow HB2.out (nI : Int) (t : Int)).mono ?_
      rintro e w1 ⟨rfl, hw⟩
      replace hw := hw.symm
      subst hw
      go_wp2_with fail
      refine (triv_intListsGrow HB2.out (nI : Int) (t : Int)).mono ?_
      rintro e w1 ⟨rfl, hw⟩
      replace hw := hw.symm
      subst hw
      go_wp2_with fail
      refine (triv_pairsGrow HB2.out (nI : Int) (t : Int)).mono ?_
      rintro e w1 ⟨rfl, hw⟩
      replace hw := hw.symm
      subst hw
      go_wp2_with fail
      refine (triv_changesGrow HB2.out (nI : Int) (t : Int)).mono ?_
      rintro e w1 ⟨rfl, hw⟩
      replace hw := hw.symm
      subst hw
      go_wp2_with fail
      refine (triv_infosGrow HB2.out (nI : Int) (t : Int)).mono ?_
      rintro e w1 ⟨rfl, hw⟩
      replace hw := hw.symm
      subst hw
      go_wp2_with fail
      refine (triv_nodesGrow HB2.out (nI : Int) (t : Int)).mono ?_
      rintro e w1 ⟨rfl, hw⟩
      replace hw := hw.symm
      subst hw
      go_wp2_with fail
      refine (triv_shellsGrow HB2.out (nI : Int) (t : Int)).mono ?_
      rintro e w1 ⟨rfl, hw⟩
      replace hw := hw.symm
      subst hw
      go_wp2_with fail
      refine (triv_listsGrow HB2.out (nI : Int) (t : Int)).mono ?_
      rintro e w1 ⟨rfl, hw⟩
      replace hw := hw.symm
      subst hw
      go_wp2_with fail
      refine (triv_framesGrow HB2.out (nI : Int) (t : Int)).mono ?_
      rintro e w1 ⟨rfl, hw⟩
      replace hw := hw.symm
      subst hw
      go_wp2_with fail
      refine (triv_filesGrow HB2.out (nI : Int) (t : Int)).mono ?_
      rintro e w1 ⟨rfl, hw⟩
      replace hw := hw.symm
      subst hw
      go_wp2_with fail
      refine (triv_passesGrow HB2.out (nI : Int) (t : Int)).mono ?_
      rintro e w1 ⟨rfl, hw⟩
      replace hw := hw.symm
      subst hw
      go_wp2_with fail
      refine (growS_o HB2.out HO2.out HGO.out ht0 (by omega) (by omega) hnb).mono ?_
      rintro e w3 ⟨rfl, f3, gO3, hg3, hO3⟩
      have HI3 := Lib.hid (KinI.moved HI2.out (W1 := w3) hO3.elder (fun j hj => hO3.cells j (by omega)) (fun k hk ho => hO3.off.2 k hk (by rintro (h | h | ⟨i, h⟩) <;> omega)))
      have HB3 := Lib.hid hO3.bk
      have HO3 := Lib.hid hO3.kin
      have HW3 := Lib.hid (HW2.out.trans hO3.below)
      have HG3 := Lib.hid (show (t + 1 = 0 ∧ gI2 = [] ∧ gO3 = []) ∨ (0 < t + 1 ∧ gI2.length = vI.length ∧ gO3.length = vO.length) from Or.inr ⟨by omega, HG2.out, hg3⟩)
      clear hO3 hg3 HB2 HI2 HO2 HW2 HG2
      go_wp2_with fail
      go_roundw
      case rel => exact ⟨t + 1, f3, gI2, gO3, by go_num, by omega, HG3, HB3, HI3, HO3, HW3⟩
      case measure => simp [intOf]; omega
  · obtain rfl : t = 70 := by omega
    go_wp2_with fail
    go_end0
    exact ⟨rfl, f1, gI, gO, HB.out, HI.out, HO.out, HW.out⟩

theorem KinI.pass {p p' : Int} {a B kb : Nat} {f : Nat → Nat} {vs : List Value} {M : Nat → Nat → Prop} {D : Nat → Nat} {W : World} (h : KinI p a B kb f vs [] M D W) (hk : f kb = 0) (u : Value) : KinI p' a B kb f vs [] (fun _ _ => False) D (W.setCell ⟨kb, 1, none⟩ u) :=
  KinI.moved (W := W) (h.anew (mk' := mkI p' a)) (fun _ _ => rfl) (fun j hj => set_other (by omega)) (fun k _ ho => set_block (by rintro rfl; rw [hk] at ho; omega))
theorem KinO.pass {p p' : Int} {a B kb : Nat} {f : Nat → Nat} {vs : List Value} {M : Nat → Nat → Prop} {D : Nat → Nat} {W : World} (h : KinO p a B kb f vs [] M D W) (hk : f kb = 0) (u : Value) : KinO p' a B kb f vs [] (fun _ _ => False) D (W.setCell ⟨kb, 1, none⟩ u) :=
  KinO.moved (W := W) (h.anew (mk' := mkOc p' a)) (fun _ _ => rfl) (fun j hj => set_other (by omega)) (fun k _ ho => set_block (by rintro rfl; rw [hk] at ho; omega))

set_option maxHeartbeats 4000000 in
set_option maxRecDepth 100000 in
theorem finish_any {B kb : Nat} {f : Nat → Nat} {w : World} {vI wI vO wO : List Value} (h : Bk B kb f 0 w) (hI : KepI B kb f vI wI w) (hO : KepO B kb f vO wO w) (hlI : wI.length = vI.length) (hlO : wO.length = vO.length) (hvI : vI.length ≤ 100000) (hvO : vO.length ≤ 100000) :
    Calls Tryz.prog 18 #[.pointer (some ⟨kb, 0, none⟩)] w fun e w' => e = .returned (.bool true) ∧ Below B w w' := by
  have hkb := h.lt
  have hge := h.ge
  have HBk := Lib.hid h
  have HI := Lib.hid hI
  have HO := Lib.hid hO
  clear h hI hO
  go_enter Tryz.func18, Tryz.ntmps18
  go_wp2_with fail
  refine (untouched_any HBk.out HI.out HO.out hlI hlO hvI hvO).mono ?_
  rintro e w1 ⟨rfl, hB1⟩
  have HW1 := Lib.hid (hB1.mono (B' := B) (by omega))
  have HI1 := Lib.hid (Kep.kin (mk := mkI 0 0) (D := fun _ => 0) (HI.out.below hkb hB1))
  have HO1 := Lib.hid (Kep.kin (mk := mkOc 0 (0 + vI.length)) (D := fun _ => 0) (HO.out.below hkb hB1))
  have HB1 := Lib.hid (HBk.out.below hB1)
  clear hB1 HI HO HBk
  go_wp2_with fail
  refine (write_any HB1.out HI1.out HO1.out hvI hvO).mono ?_
  rintro e w2 ⟨rfl, hb2, hi2, ho2, hB2⟩
  have HW2 := Lib.hid (HW1.out.trans hB2)
  have HB2 := Lib.hid hb2
  have HI2 := Lib.hid hi2
  have HO2 := Lib.hid ho2
  clear hb2 hi2 ho2 hB2 HW1 HB1 HI1 HO1
  go_wp2_with fail
  refine (holds_any HB2.out HI2.out HO2.out hvI hvO).mono ?_
  rintro e w3 ⟨rfl, hB3⟩
  have hkb2 := HB2.out.lt
  have HW3 := Lib.hid (HW2.out.trans (hB3.mono (by omega)))
  have HB3 := Lib.hid (HB2.out.below hB3)
  have HI3 := Lib.hid (HI2.out.below hkb2 hB3)
  have HO3 := Lib.hid (HO2.out.below hkb2 hB3)
  clear hB3 HW2 HB2 HI2 HO2
  have hp := HB3.out.pass
  obtain ⟨cs, hcs⟩ := HB3.out.blk
  have hfr : w3.frozen? ⟨kb, 1, none⟩ = false := blk_frozen hcs 1
  clear hcs
  go_wp2_with fail
  have HB4 := Lib.hid (HB3.out.setPass 1)
  have HI4 := Lib.hid (KinI.pass (p' := 1) HI3.out HB3.out.own (.int .i64 1))
  have HO4 := Lib.hid (KinO.pass (p' := 1) HO3.out HB3.out.own (.int .i64 1))
  have HW4 := Lib.hid (HW3.out.setCell (p := ⟨kb, 1, none⟩) hge (.int .i64 1))
  clear HB3 HI3 HO3 HW3 hp hfr
  refine (write_any HB4.out HI4.out HO4.out hvI hvO).mono ?_
  rintro e w5 ⟨rfl, hb5, hi5, ho5, hB5⟩
  have HW5 := Lib.hid (HW4.out.trans hB5)
  have HB5 := Lib.hid hb5
  have HI5 := Lib.hid hi5
  have HO5 := Lib.hid ho5
  clear hb5 hi5 ho5 hB5 HW4 HB4 HI4 HO4
  go_wp2_with fail
  refine (holds_any HB5.out HI5.out HO5.out hvI hvO).mono ?_
  rintro e w6 ⟨rfl, hB6⟩
  have hkb5 := HB5.out.lt
  have HW6 := Lib.hid (HW5.out.trans (hB6.mono (by omega)))
  have HB6 := Lib.hid (HB5.out.below hB6)
  have HI6 := Lib.hid (HI5.out.below hkb5 hB6)
  have HO6 := Lib.hid (HO5.out.below hkb5 hB6)
  clear hB6 HW5 HB5 HI5 HO5
  go_wp2_with fail
  refine (grow_any HB6.out HI6.out HO6.out hvI hvO).mono ?_
  rintro e w7 ⟨rfl, f7, gI, gO, hb7, hi7, ho7, hB7⟩
  have HW7 := Lib.hid (HW6.out.trans hB7)
  have HB7 := Lib.hid hb7
  have HI7 := Lib.hid hi7
  have HO7 := Lib.hid ho7
  clear hb7 hi7 ho7 hB7 HW6 HB6 HI6 HO6
  go_wp2_with fail
  refine (holds_any HB7.out HI7.out HO7.out hvI hvO).mono ?_
  rintro e w8 ⟨rfl, hB8⟩
  have hkb7 := HB7.out.lt
  have HW8 := Lib.hid (HW7.out.trans (hB8.mono (by omega)))
  clear hB8 HW7 HB7 HI7 HO7
  go_wp2_with fail
  go_ret
  exact ⟨rfl, HW8.out⟩

theorem op_M_list {w : World} {base : Nat} {ok : Nat → Prop} {o : POp} {cs : List Value} (h : kOp.M w base ok o cs) : ∃ u, cs[5]? = some u ∧ (Kd.int .i64).R 3 w base ok u o.list := by
  obtain ⟨c0, r0, rfl, m0, c1, r1, rfl, m1, c2, r2, rfl, m2, c3, r3, rfl, m3, c4, r4, rfl, m4, u, rfl, g⟩ := h
  cases m0; cases m1; cases m2; cases m3; cases m4
  exact ⟨u, rfl, g⟩

/-- Whose the new script's blocks are: its row's, and its lists'. -/
def readOwn (W : World) (f : Nat → Nat) (fS : Nat → Nat) (v : Value) (nI nO : Nat) : Nat → Nat := fun k => open Classical in if k < W.heap.size then f k else if some k = v.ownBlock then 2 * nO + 1 + 5 else 2 * (nI + fS k) + 0 + 5

theorem read_facts {B : Nat} {f : Nat → Nat} {wr w2 w4 : World} {v : Value} {ops : List POp} (nI nO : Nat) (hS : Kd.S kOp 44 w2 wr.heap.size (fun _ => True) v ops) (hb : Below w2.heap.size w2 w4) (hB : B ≤ wr.heap.size) :
    ∃ f1, Elder wr f f1 ∧ kOp.R 44 w4 B (fun k => 5 ≤ f1 k) v ops ∧ (∃ rows, Row B f1 (2 * nO + 1 + 5) 6 44 w4 v rows) ∧
      ∀ (i : Nat) (o : POp), ops[i]? = some o → ∃ g u, (∃ n c, v = .slice (some ⟨g, 0, none⟩) n c) ∧ w4.cell? ⟨g, i * 6 + 5, none⟩ = some u ∧ (Kd.int .i64).R 3 w4 B (fun k => f1 k = 2 * (nI + i) + 0 + 5) u o.list := by
  obtain ⟨fS, hT⟩ := hS
  have hR := Kd.S_R ⟨fS, hT⟩
  refine ⟨readOwn wr f fS v nI nO, fun k hk => by unfold readOwn; rw [if_pos hk], ?_, ?_, fun i o ho => ?_⟩
  · refine Kd.R_lower (Kd.R_below (Kd.R_mono (Kd.R_bound hR) (fun k hk => ?_)) hb) hB
    have h1 := hk.2.1
    unfold readOwn
    rw [if_neg (by omega)]
    split <;> omega
  · obtain ⟨rows, _, hraw⟩ := raw_of hR
    refine ⟨rows, Kd.R_lower (Kd.R_below (Kd.R_mono (Kd.R_bound (raw_tight hraw)) (fun k hk => ?_)) hb) hB⟩
    have h1 := hk.2.1
    unfold readOwn
    rw [if_neg (by omega), if_pos hk.1]
  · have hi := (List.getElem?_eq_some_iff.1 ho).1
    obtain ⟨g, cap, rfl, _⟩ := Kd.R_form hR (by omega)
    obtain ⟨cs, hcl, hM, hcell, _⟩ := Kd.R_elem hT (o, 0) (i : Int) (by omega) (by omega)
    rw [Int.toNat_natCast] at hM hcell
    rw [List.getD_eq_getElem?_getD, Kd.zip_at ho] at hM
    obtain ⟨u, hu, hRu⟩ := op_M_list (show kOp.M w2 wr.heap.size _ o cs from hM)
    refine ⟨g, u, ⟨_, _, rfl⟩, pw_cell_below hb (hcell 5 u hu), Kd.R_lower (Kd.R_below (Kd.R_mono (Kd.R_bound hRu) (fun k hk => ?_)) hb) hB⟩
    obtain ⟨⟨⟨_, h2⟩, h3⟩, h1, _⟩ := hk
    unfold readOwn
    rw [if_neg (by omega), if_neg (by intro e; apply h2; simpa [Value.ownBlock] using e), show fS k = i from h3]

/-- An empty Book. -/
def bookCells : Array Value := #[.int .i64 0, .int .i64 0] ++ Array.replicate 51 (.slice none 0 0)
theorem book_build (W : World) : (Instr.build 65 #[]).run Tryz.prog W = .ok (.agg bookCells) W := by kernel_rfl
theorem book_box (W : World) : (Instr.box 65 (.agg bookCells)).run Tryz.prog W = .ok (.pointer (some ⟨W.heap.size, 0, none⟩)) (W.alloc (.cells bookCells 65)) := by kernel_rfl
theorem book_build_run (ρ : Operand → Value) (o : Oper) (W : World) (ho : o.op = .build 65 #[]) : (execOp ρ o).run Tryz.prog W = .ok (.value (.agg bookCells)) W := by
  unfold execOp
  simp only [ho, Array.map_empty, Sem.run_bind, Sem.run_pure, book_build, Result.andThen_ok]
theorem book_box_run (ρ : Operand → Value) (o : Oper) (x : Operand) (W : World) (ho : o.op = .box 65 x) (hx : ρ x = .agg bookCells) : (execOp ρ o).run Tryz.prog W = .ok (.value (.pointer (some ⟨W.heap.size, 0, none⟩))) (W.alloc (.cells bookCells 65)) := by
  unfold execOp
  simp only [ho, hx, Sem.run_bind, Sem.run_pure, book_box, Result.andThen_ok]
theorem bookCells_at : bookCells[0]? = some (.int .i64 0) ∧ bookCells[1]? = some (.int .i64 0) ∧ ∀ j, 2 ≤ j → j < 53 → bookCells[j]? = some (.slice none 0 0) := by
  refine ⟨rfl, rfl, fun j h1 h2 => ?_⟩
  unfold bookCells
  rw [Array.getElem?_append_right (by simpa using h1), Array.getElem?_replicate, if_pos (by simp; omega)]

theorem refParse_str (s : ByteArray) (hs : s.size ≤ 33554432) (w : World) : Calls Tryz.prog 8 #[.string s] w (ParsePost s.data.toList w) := by
  have := refParse_any s.data.toList (by rw [← size_list]; exact hs) w
  rwa [show mkB s.data.toList = s from mk_data s] at this

theorem parseS_at {t : By} {s : PScript} {l c : Int} {w : World} {e : Ending} {w' : World} (h : ParsePostS t w e w') (hp : parse t = (s, l, c)) :
    ∃ A c', e = .returned (.tuple #[.agg #[.int .i64 s.cap, .slice A s.ops.length c'], .int .i64 l, .int .i64 c]) ∧ s.ops.length ≤ c' ∧ Kd.S kOp 44 w' w.heap.size (fun _ => True) (.slice A s.ops.length c') s.ops ∧ Below w.heap.size w w' := by
  obtain ⟨v, rfl, hS, hb⟩ := h
  rw [hp] at hS ⊢
  obtain ⟨A, c', rfl, hl, _⟩ := Kd.S_reads hS
  exact ⟨A, c', rfl, hl, hS, hb⟩

theorem book_start {kb : Nat} {W : World} (h : W.heap[kb]? = some (.cells bookCells 65 (0, 0))) : Bk kb kb (fun _ => 0) 0 W ∧ KepI kb kb (fun _ => 0) [] [] W ∧ KepO kb kb (fun _ => 0) [] [] W := by
  obtain ⟨h0, h1, h2⟩ := bookCells_at
  have hc : ∀ j, W.cell? ⟨kb, j, none⟩ = bookCells[j]? := fun j => blk_cell h j
  refine ⟨⟨⟨_, h⟩, Nat.le_refl _, rfl, (hc 0).trans h0, (hc 1).trans h1, fun j hj => (hc j).trans (h2 j (by omega) (by omega))⟩, ⟨⟨_, (hc 5).trans (h2 5 (by omega) (by omega)), Row.nil⟩, ⟨_, (hc 6).trans (h2 6 (by omega) (by omega)), Row.nil⟩, (hc 7).trans (h2 7 (by omega) (by omega)), fun i v hv => by simp at hv, fun i v u hv => by simp at hv⟩,
    ⟨⟨_, (hc 50).trans (h2 50 (by omega) (by omega)), Row.nil⟩, ⟨_, (hc 51).trans (h2 51 (by omega) (by omega)), Row.nil⟩, (hc 52).trans (h2 52 (by omega) (by omega)), fun i v hv => by simp at hv, fun i v u hv => by simp at hv⟩⟩

set_option maxHeartbeats 8000000 in
set_option maxRecDepth 100000 in
theorem ScriptOwns_any (a : ByteArray) (w : World) (_ : a.size ≤ maxLen) {B : Nat} (hE : Env B w) : Calls Tryz.prog 5 #[.string a] w fun e w' => e = .returned (.bool true) ∧ Below w.heap.size w w' := by
  have hEW : Env w.heap.size w := hE.up hE.le (Nat.le_refl _)
  clear hE
  by_cases hl : 60000 < a.size
  · have k1 : decide (60000 < a.size) = true := decide_eq_true hl
    have m1 : decide ((60000 : Int) < (a.size : Int)) = true := decide_eq_true (by omega)
    clear hl
    go_enter Tryz.func5, Tryz.ntmps5
    go_wp2_with fail
    refine (lawFirst_any w hEW).mono ?_
    rintro e w1 ⟨rfl, hB1⟩
    go_wp2_with fail
    go_ret
    exact ⟨rfl, hB1⟩
  · have k1 : decide (60000 < a.size) = false := decide_eq_false hl
    have m1 : decide ((60000 : Int) < (a.size : Int)) = false := decide_eq_false (by omega)
    obtain ⟨s, x, c, hp⟩ : ∃ s x c, parse a.data.toList = (s, x, c) := ⟨(parse a.data.toList).1, (parse a.data.toList).2.1, (parse a.data.toList).2.2, rfl⟩
    have HP := Lib.hid hp
    have hal : a.size ≤ 33554432 := by omega
    have HL := Lib.hid (show ∀ o ∈ s.ops, o.list.length ≤ 100000 from fun o ho => by
      have h1 := parse_lists a.data.toList o (by rw [hp]; exact ho)
      rw [← size_list] at h1; omega)
    clear hp hl
    obtain ⟨n, hn⟩ : ∃ n, n = s.ops.length := ⟨_, rfl⟩
    have HN := Lib.hid hn
    clear hn
    go_enter Tryz.func5, Tryz.ntmps5
    go_wp2_with fail
    refine (lawFirst_any w hEW).mono ?_
    rintro e w1 ⟨rfl, hB1⟩
    have HW1 := Lib.hid hB1
    clear hB1
    go_wp2_with fail
    refine (refParse_str a hal _).mono ?_
    rintro e1 w5 hP
    obtain ⟨A5, d5, rfl, hl5, hC5, hB5⟩ := parse_at hP HP.out
    have HW5 := Lib.hid (HW1.out.trans (hB5.mono HW1.out.size))
    rw [← HN.out] at hl5 ⊢
    have HC5 := Lib.hid hC5
    clear hP hC5 hB5
    by_cases hc : c = 0
    · by_cases hn : 60 < n
      · have n1 : decide ((60 : Int) < (n : Int)) = true := decide_eq_true (by omega)
        have n2 : (60 : Int) < (n : Int) := by omega
        subst hc
        go_wp2_with fail
        go_ret
        exact ⟨rfl, HW5.out.alloc HW5.out.size _⟩
      · have n1 : decide ((60 : Int) < (n : Int)) = false := decide_eq_false (by omega)
        have n2 : ¬ (60 : Int) < (n : Int) := by omega
        subst hc
        have HA5 := Lib.hid (show Below w.heap.size w (w5.alloc (.cells #[.int .i64 s.cap, .slice A5 n d5] 25)) from HW5.out.alloc HW5.out.size _)
        go_wp2_with (first | (refine gate_ (.build 65 #[]) rfl ?_; refine Kd.event_run rfl (book_build_run _ _ _ rfl) ?_) | (refine gate_ (.box 65 (.tmp 36)) rfl ?_; refine box_event rfl rfl (book_box_run _ _ _ _ rfl (by rfl)) ?_; intro kb hkb wb hbk hbb))
        obtain ⟨W0, hW0⟩ : ∃ W0, W0 = w5.alloc (.cells #[.int .i64 s.cap, .slice A5 n d5] 25) := ⟨_, rfl⟩
        have HC0 := Lib.hid (show kOp.C W0 A5 s.ops.length s.ops from by rw [hW0]; exact Kd.C_below HC5.out ((Below.refl _ _).alloc (Nat.le_refl _) _))
        obtain ⟨b4, hb4⟩ : ∃ b4, b4 = w5.heap.size := ⟨_, rfl⟩
        have H4 := Lib.hid (show W0.heap[b4]? = some (.cells #[.int .i64 s.cap, .slice A5 n d5] 25 (0, 0)) from by rw [hW0, hb4]; exact heap_alloc_new w5 _)
        rw [← hW0] at hkb hbb HA5
        have hkb4 : kb = b4 + 1 := by rw [hkb, hW0, hb4]; simp
        rw [← hb4, ← hkb4]
        have HKB := Lib.hid hkb
        obtain ⟨hs1, hs2, hs3⟩ := book_start hbk
        have HS1 := Lib.hid hs1
        have HS2 := Lib.hid hs2
        have HS3 := Lib.hid hs3
        have HBB := Lib.hid hbb
        have H45 := Lib.hid hkb4
        have hb4k : b4 < kb := by omega
        clear hW0 hb4 hkb hbk hbb hs1 hs2 hs3 HC5 hkb4 HW5 HW1
        go_wp2_with fail
        go_loopw [8] (fun v wr => ∃ (i : Nat) (f : Nat → Nat) (vI wI vO wO : List Value), v = .int .i64 (i : Int) ∧ i ≤ 2 ∧ Hid (vI.length ≤ 60 * i) ∧ Hid (wI.length = vI.length) ∧ Hid (vO.length = i) ∧ Hid (wO.length = vO.length) ∧ Hid (Bk kb kb f 0 wr) ∧ Hid (KepI kb kb f vI wI wr) ∧ Hid (KepO kb kb f vO wO wr) ∧ Hid (Below W0.heap.size W0 wr)) (fun v _ => 2 - (intOf v).toNat)
        case atStart => exact ⟨0, _, [], [], [], [], rfl, by omega, Lib.hid (by simp), Lib.hid rfl, Lib.hid rfl, Lib.hid rfl, HS1, HS2, HS3, HBB⟩
        case round =>
        clear HS1 HS2 HS3 HBB
        obtain ⟨i, f, vI, wI, vO, wO, rfl, hi, hvI, hwI, hvO, hwO, hB, hI, hO, hW⟩ := hrel
        by_cases hlt : i < 2
        · have j1 : (i : Int) < (2 : Int) := by omega
          have HWW := Lib.hid (HA5.out.trans (hW.out.mono HA5.out.size))
          go_wp2_with fail
          refine (Parse_anyS a hal _ (hEW.belowB HWW.out)).mono ?_
          rintro e1 w6 hP
          obtain ⟨A6, d6, rfl, hl6, hS6, hB6⟩ := parseS_at hP HP.out
          rw [← HN.out] at hl6 ⊢
          have h46 : w6.heap[b4]? = some (.cells #[.int .i64 s.cap, .slice A5 n d5] 25 (0, 0)) := (hB6.block _ (by have := hB.out.lt; omega)).trans ((hW.out.block _ (by have := HKB.out; omega)).trans H4.out)
          obtain ⟨z0, z1, f0, f1⟩ := script_cells h46
          have hlt46 : b4 < w6.heap.size := blk_lt h46
          have hq6 : Below w6.heap.size w6 (w6.alloc (.cells #[.int .i64 s.cap, .slice A6 n d6] 25)) := (Below.refl _ _).alloc (Nat.le_refl _) _
          have HS6 := Lib.hid hS6
          have HB6 := Lib.hid hB6
          have HQ6 := Lib.hid hq6
          have HC6 := Lib.hid (Kd.C_below (Kd.S_reads' hS6).2.2 hq6)
          have HC5 := Lib.hid (Kd.C_below (Kd.C_below (Kd.C_below HC0.out hW.out) hB6) hq6)
          have H9 := Lib.hid (show (w6.alloc (.cells #[.int .i64 s.cap, .slice A6 n d6] 25)).heap[w6.heap.size]? = some (.cells #[.int .i64 s.cap, .slice A6 n d6] 25 (0, 0)) from heap_alloc_new w6 _)
          clear hP hS6 hB6 hq6 h46
          go_wp2_with fail
          have hsame := same_any s s A6 A5 d6 d5 _ HC6.out HC5.out (by rw [← HN.out]; exact hl6) (by rw [← HN.out]; exact hl5)
          rw [← HN.out] at hsame
          refine hsame.mono ?_
          clear hsame
          rintro e7 w8 ⟨⟨r, rfl, hr⟩, hB8⟩
          obtain rfl := hr.2 rfl
          have HB8 := Lib.hid hB8
          clear hr hB8 z0 z1 f0 f1
          go_wp2_with fail
          refine (num_any _ _).mono ?_
          rintro e8 w9 ⟨rfl, hw9⟩
          subst hw9
          have HR8 := Lib.hid (show Below wr.heap.size wr w8 from HB6.out.trans ((HQ6.out.trans (HB8.out.mono HQ6.out.size)).mono HB6.out.size))
          obtain ⟨z0, z1, f0, f1⟩ := script_cells ((HB8.out.block _ (blk_lt H9.out)).trans H9.out)
          have hlt9 : w6.heap.size < w8.heap.size := by have := HB8.out.size; simp at this; omega
          have hkr : kb < wr.heap.size := hB.out.lt
          obtain ⟨g1, he, hR1, ⟨rows, hrow⟩, hin⟩ := read_facts (B := kb) (f := f) vI.length vO.length HS6.out (HQ6.out.trans (HB8.out.mono HQ6.out.size)) (by omega)
          rw [← HN.out] at hR1 hrow hin
          have HG1 := Lib.hid ((hB.out.owner he).below HR8.out)
          have HG2 := Lib.hid ((hI.out.owner he).below hkr HR8.out)
          have HG3 := Lib.hid ((hO.out.owner he).below hkr HR8.out)
          have HR1 := Lib.hid hR1
          have HROW := Lib.hid hrow
          have HIN := Lib.hid (show ∀ (i : Nat) (o : POp), s.ops[i]? = some o → ∃ g u, A6 = some ⟨g, 0, none⟩ ∧ w8.cell? ⟨g, i * 6 + 5, none⟩ = some u ∧ (Kd.int .i64).R 3 w8 kb (fun k => g1 k = 2 * (vI.length + i) + 0 + 5) u o.list from fun i o ho => by
            obtain ⟨g, u, ⟨n', c', hv⟩, h2, h3⟩ := hin i o ho
            injection hv with hv
            exact ⟨g, u, hv, h2, h3⟩)
          clear he hR1 hrow hin H9
          go_wp2_with fail
          refine (keep_o HG1.out HG2.out HG3.out hwI.out hwO.out (by have := hvI.out; omega) (by have := hvO.out; omega) A6 n d6 s.ops rows HR1.out HROW.out HIN.out (by omega) HL.out).mono ?_
          rintro e9 w9 ⟨rfl, f9, vI9, wI9, u9, hl1, hl2, hK9⟩
          have HX1 := Lib.hid (show vI9.length ≤ 60 * (i + 1) by rw [hl1]; have := hvI.out; omega)
          have HX2 := Lib.hid hl2
          have HX3 := Lib.hid (show (vO ++ [Value.slice A6 n d6]).length = i + 1 by rw [List.length_append, List.length_singleton, hvO.out])
          have HX4 := Lib.hid (show (wO ++ [u9]).length = (vO ++ [Value.slice A6 n d6]).length by rw [List.length_append, List.length_append, hwO.out]; rfl)
          have HX5 := Lib.hid hK9.bk
          have HX6 := Lib.hid hK9.kI
          have HX7 := Lib.hid hK9.kO
          have HX8 := Lib.hid (show Below W0.heap.size W0 w9 from hW.out.trans ((HR8.out.mono (by have := HKB.out; omega)).trans (by rw [← HKB.out]; exact hK9.below)))
          clear hl1 hl2 hK9 HG1 HG2 HG3 HR1 HROW HIN HR8 HB8 HB6 HQ6 HS6 HC6 HC5 hB hI hO hW hvI hwI hvO hwO z0 z1 f0 f1
          go_wp2_with fail
          go_roundw
          case rel => exact ⟨i + 1, f9, vI9, wI9, _, _, by go_num, by omega, HX1, HX2, HX3, HX4, HX5, HX6, HX7, HX8⟩
          case measure => simp [intOf]; omega
        · obtain rfl : i = 2 := by omega
          go_wp2_with fail
          refine (finish_any hB.out hI.out hO.out hwI.out hwO.out (by have := hvI.out; omega) (by have := hvO.out; omega)).mono ?_
          rintro e w9 ⟨rfl, hB9⟩
          have HB9 := Lib.hid (HA5.out.trans ((hW.out.trans (by rw [← HKB.out]; exact hB9)).mono HA5.out.size))
          clear hB9
          go_wp2_with fail
          go_ret
          exact ⟨rfl, HB9.out⟩
    · have c1 : (c != 0) = true := by simpa using hc
      go_wp2_with fail
      go_ret
      exact ⟨rfl, HW5.out.alloc HW5.out.size _⟩
end Go.Proofs.YtbpackopicngmaaGreatDoor
