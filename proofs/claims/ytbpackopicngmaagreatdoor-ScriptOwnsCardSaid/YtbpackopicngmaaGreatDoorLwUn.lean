/- The document's Unescape, and ScriptUnescapes' walk. -/
import Derived.Test.YtbpackopicngmaaGreatDoorLwEsc
import Derived.Deep.RegionHeld3
namespace Go.Proofs.YtbpackopicngmaaGreatDoor
open Go.RowKit Go.Proofs.Sc Go.Proofs.YtbpackopicngmaaGreatDoorW.PrintWords

theorem digv_hex_fin : ∀ c : Fin 256, (∀ j : Fin 16, hexd j.val ≠ UInt8.ofNat c.val) → digv (UInt8.ofNat c.val) = none := by decide +kernel
theorem digv_hex (c : UInt8) (h : ∀ j, j < 16 → hexd j ≠ c) : digv c = none := by
  have := digv_hex_fin ⟨c.toNat, UInt8.toNat_lt c⟩ (fun j e => h j.val j.isLt (by rw [e]; simp))
  simpa using this
theorem digv_of_hex (k : Nat) (hk : k < 16) : digv (hexd k) = some k := digv_hexd ⟨k, hk⟩

def hexS : ByteArray := ⟨#[48, 49, 50, 51, 52, 53, 54, 55, 56, 57, 97, 98, 99, 100, 101, 102]⟩

set_option maxHeartbeats 1000000 in
theorem refDigit_any (c : UInt8) (w : World) : Calls Tryz.prog 208 #[.int .u8 c.toNat] w fun e w' => e = .returned (.int .i64 (digI c)) ∧ w = w' := by
  go_enter Tryz.func208, Tryz.ntmps208
  go_wp2_with fail
  go_loopw [3] (fun v wr => ∃ k : Nat, w = wr ∧ v = .int .i64 (k : Int) ∧ k ≤ 16 ∧ Hid (∀ j, j < k → hexd j ≠ c)) (fun v _ => 16 - (intOf v).toNat)
  case atStart => exact ⟨0, rfl, rfl, by omega, Lib.hid (fun j h => absurd h (by omega))⟩
  case round =>
  obtain ⟨k, rfl, rfl, hk, hn⟩ := hrel
  by_cases hlt : k < 16
  · have hx := hex_at k hlt
    by_cases he : hexd k = c
    · have k1 : (((hexd k).toNat : Int) == (c.toNat : Int)) = true := by rw [he]; simp
      have HR := Lib.hid (show digI c = (k : Int) from (digI_some (by rw [← he]; exact digv_of_hex k hlt)).1)
      clear he
      go_wp2_with fail
      go_ret
      exact ⟨ret_int HR.out.symm, rfl⟩
    · have k1 : (((hexd k).toNat : Int) == (c.toNat : Int)) = false := toNat_ne he
      have HN := Lib.hid (show ∀ j, j < k + 1 → hexd j ≠ c from fun j hj => by
        by_cases e : j = k
        · rw [e]; exact he
        · exact hn.out j (by omega))
      clear he
      go_wp2_with fail
      go_roundw
      case rel => exact ⟨k + 1, trivial, by go_num, hlt, HN⟩
      case measure => simp [intOf]; omega
  · obtain rfl : k = 16 := by omega
    have HR := Lib.hid (show digI c = -1 from digI_none (digv_hex c hn.out))
    go_wp2_with fail
    go_ret
    exact ⟨ret_int HR.out.symm, rfl⟩

/-! ### the reading, position for position -/

def At (l pre : By) (i : Nat) : Prop := dec l = (dec (l.drop i)).map (pre ++ ·)

theorem At.plain {l pre : By} {i : Nat} {c : UInt8} (h : At l pre i) (hf : l[i]? = some c) (hc : c ≠ 92) : At l (pre ++ [c]) (i + 1) := by
  unfold At at h ⊢
  rw [h, Lib.drop_at hf, dec_plain _ hc, Option.map_map]
  congr 1; funext x; simp
theorem At.esc {l pre : By} {i j : Nat} {x : UInt8} (h : At l pre i) (hf : l[i]? = some 92) (hu : unEsc (l.drop i) = some (x, l.drop j)) : At l (pre ++ [x]) j := by
  unfold At at h ⊢
  have hd := Lib.drop_at hf
  rw [hd] at hu h
  rw [h, dec_esc hu, Option.map_map]
  congr 1; funext x; simp
theorem At.bad {l pre : By} {i : Nat} (h : At l pre i) (hf : l[i]? = some 92) (hu : unEsc (l.drop i) = none) : dec l = none := by
  unfold At at h
  have hd := Lib.drop_at hf
  rw [hd] at hu h
  rw [h, dec_bad hu]; rfl
theorem At.end_ {l pre : By} {i : Nat} (h : At l pre i) (hi : l.length ≤ i) : dec l = some pre := by
  unfold At at h
  rw [h, List.drop_of_length_le hi, dec_nil]; simp

theorem unRes_bad {l : By} (h0 : l ≠ [45]) (h : dec l = none) : unRes l = .tuple #[.string ⟨#[]⟩, .int .i64 265] := unRes_none (by unfold unescape; rw [if_neg h0, h])
theorem unRes_good {l t : By} (h0 : l ≠ [45]) (h : dec l = some t) (he : escape t = l) : unRes l = .tuple #[.string ⟨t.toArray⟩, .int .i64 0] := unRes_some (by unfold unescape; rw [if_neg h0, h]; simp [he])
theorem unRes_no {l t : By} (h0 : l ≠ [45]) (h : dec l = some t) (he : escape t ≠ l) : unRes l = .tuple #[.string ⟨#[]⟩, .int .i64 265] := unRes_none (by unfold unescape; rw [if_neg h0, h]; simp [he])

/-- What stands when the reading is at i. -/
structure UN (w : World) (l : By) (i : Nat) (pre : By) (v : Value) (wr : World) : Prop where
  row : Row8 w wr v pre
  at_ : At l pre i
  len : pre.length ≤ i
  below : Below w.heap.size w wr

theorem ints_one (l : By) (c : UInt8) : ints (l ++ [c]) = ints l ++ [(c.toNat : Int)] := by simp [ints]

theorem row_push {w w2 : World} {v1 : Value} {pre : By} {c : UInt8} (hown : w2.ownsRow w.heap.size 5 1 v1 ((ints pre).length + 1) (nums .u8 (ints pre ++ [(c.toNat : Int)]))) : Row8 w w2 v1 (pre ++ [c]) := by
  unfold Row8; rw [ints_one, List.length_append, List.length_singleton]; exact hown

theorem hex_wrap_fin : ∀ a b : Fin 16, IntKind.u8.wrap (IntKind.i64.wrap (IntKind.i64.wrap (16 * (a.val : Int)) + (b.val : Int))) = ((UInt8.ofNat (a.val * 16 + b.val)).toNat : Int) := by decide +kernel

section
variable {ops : Array Oper} {o : Oper} {a : Act} {Q : Exit → Act → World → Prop} {Kc : Act → World → Prop}
theorem push_step {w wr : World} {pre : By} {X : Int} (hw : Region.wanted o (yielded ops a.tmps) = true) (s x : Operand) (ho : o.op = .call { callee := .builtin .append, args := #[s, x], argTypes := #[85, 85] })
    (A : Option Addr) (n c : Nat) (hs : a.eval s = .slice A n c) (hx : a.eval x = .slice (some ⟨wr.heap.size, 0, none⟩) 1 1) (hrow : Row8 w wr (.slice A n c) pre) (hb : Below w.heap.size w wr) (hl : pre.length + 1 ≤ 140737488355328)
    (h : ∀ v1 w1, w1.ownsRow w.heap.size 5 1 v1 (ints pre ++ [X]).length (nums .u8 (ints pre ++ [X])) → Below w.heap.size w w1 → Kc (a.put o.dst v1) w1) :
    if Region.wanted o (yielded ops a.tmps) = true then Oper.wp Tryz.prog o a ((wr.alloc (.cells #[.int .u8 X] 5)).drew) Kc Q else Kc (a.put o.dst undef) ((wr.alloc (.cells #[.int .u8 X] 5)).drew) :=
  Kd.R_append_step (Kd.int .u8) (w0 := w) (W := wr.drew) w.heap.size hw s x 85 5 (.int .u8 0) 1 ho Tryz.underlying85 info_u8 rfl (by decide) (by decide) (.slice A n c) (ints pre) X [.int .u8 X] (fun _ => True) (fun _ => False) hs hx rfl (fun _ h => h.elim) (fun _ _ => trivial)
    (Kd.R_drew (Kd.R_of_own hrow (fun _ _ => trivial))) (below_drew1 hb) hb.size (by rw [ints_len]; omega) (fun v1 w1 hR hB _ _ => h v1 w1 (Kd.own_of_R hR) hB)
end

set_option maxHeartbeats 8000000 in
set_option maxRecDepth 100000 in
theorem refUnescape_any (s : ByteArray) (w : World) (hs : s.size ≤ 33554432) :
    Calls Tryz.prog 145 #[.string s] w fun e w' => e = .returned (unRes s.data.toList) ∧ Below w.heap.size w w' := by
  by_cases h0 : s.data.toList = [45]
  · rw [unRes_some (t := []) (by rw [h0]; rfl)]
    obtain rfl := byteEq h0
    go_enter Tryz.func145, Tryz.ntmps145
    go_wp2_with fail
    go_ret2
    exact ⟨rfl, Below.refl _ _⟩
  have e1 : (s.toList == [45]) = false := by rw [Lib.toList_data]; simpa using h0
  obtain ⟨l, hl⟩ : ∃ l, l = s.data.toList := ⟨_, rfl⟩
  have hsz : s.size = l.length := by rw [hl]; exact size_list s
  have HAT := Lib.hid (show ∀ i (h : i < s.size), l[i]? = some (s[i]'h) from fun i h => by rw [hl]; exact getElem_list s i h)
  rw [← hl] at h0 ⊢
  have HSL := Lib.hid (show s.toList = l by rw [Lib.toList_data, hl])
  have HSZ := Lib.hid hsz
  have H0 := Lib.hid h0
  have hmk := make_bytes s.size hs
  clear hl hsz h0
  go_enter Tryz.func145, Tryz.ntmps145
  go_wp2_with fail
  go_loopw [4, 5] (fun v i w' => ∃ (k : Nat) (pre : By) (A : Option Addr) (n c : Nat), v = .slice A n c ∧ i = .int .i64 (k : Int) ∧ k ≤ s.size ∧ Hid (UN w l k pre (.slice A n c) w')) (fun _ i _ => s.size - (intOf i).toNat)
  case atStart => exact ⟨0, [], _, _, _, rfl, rfl, Nat.zero_le _, Lib.hid ⟨row8_new w s.size hs, by unfold At; simp, Nat.zero_le _, (Below.refl _ _).alloc (Nat.le_refl _) _⟩⟩
  case round =>
  obtain ⟨k, pre, A, n, c, rfl, rfl, hk, hU⟩ := hrel
  by_cases hlt : k < s.size
  · have hf := HAT.out k hlt
    by_cases h92 : s[k]'hlt = 92
    · have k1 : (((s[k]'hlt).toNat : Int) == 92) = true := by rw [h92]; rfl
      have k1n : (((s[k]'hlt).toNat : Int) != 92) = false := by rw [h92]; rfl
      rw [h92] at hf
      have HF := Lib.hid hf
      clear hf h92
      obtain ⟨p, hp⟩ : ∃ p : Nat, p = k + 1 := ⟨_, rfl⟩
      have hpk : (k : Int) + 1 = (p : Int) := by omega
      have HPK := Lib.hid hp
      clear hp
      by_cases hpn : p < s.size
      · have hge : decide ((s.size : Int) ≤ (p : Int)) = false := decide_eq_false (by omega)
        have hfp := HAT.out p hpn
        obtain ⟨d, hd⟩ : ∃ d, d = s[p]'hpn := ⟨_, rfl⟩
        have hdx : s[p]'hpn = d := hd.symm
        rw [hdx] at hfp
        have HDR := Lib.hid (show l.drop k = 92 :: d :: l.drop (p + 1) by rw [Lib.drop_at HF.out, ← HPK.out, Lib.drop_at hfp])
        clear hfp hd
        by_cases h110 : d = 110
        · subst h110
          have HA := Lib.hid (show At l (pre ++ [10]) (p + 1) from hU.out.at_.esc HF.out (by rw [HDR.out]; rfl))
          go_wp2_with (at_builtin; go_must (refine print_append_num (w0 := w) w.heap.size rfl (.tmp 38) (.tmp 39) 85 5 .u8 1 rfl Tryz.underlying85 info_u8 (by decide) (.slice A n c) (ints pre) 10 rfl rfl ?HO ?HB ?hbase ?hl ?_))
          case HO => exact hU.out.row
          case HB => exact hU.out.below
          case hbase => exact hU.out.below.size
          case hl => rw [ints_len]; have := hU.out.len; omega
          intro v1 w2 hown hB2 _ _
          have HP := Lib.hid (show UN w l (p + 1) (pre ++ [10]) v1 w2 from ⟨row_push (c := 10) hown, HA.out, by have := hU.out.len; simp; omega, hB2⟩)
          obtain ⟨A2, c2, hvv⟩ := own_slice hown
          subst hvv
          clear hown hB2
          go_wp2_with fail
          go_roundw
          case rel => exact ⟨p + 1, _, _, _, _, rfl, by go_num, hpn, HP⟩
          case measure => simp [intOf]; omega
        have m110 : ((d.toNat : Int) == 110) = false := toNat_ne h110
        by_cases h116 : d = 116
        · subst h116
          have HA := Lib.hid (show At l (pre ++ [9]) (p + 1) from hU.out.at_.esc HF.out (by rw [HDR.out]; rfl))
          go_wp2_with (at_builtin; go_must (refine print_append_num (w0 := w) w.heap.size rfl (.tmp 43) (.tmp 44) 85 5 .u8 1 rfl Tryz.underlying85 info_u8 (by decide) (.slice A n c) (ints pre) 9 rfl rfl ?HO ?HB ?hbase ?hl ?_))
          case HO => exact hU.out.row
          case HB => exact hU.out.below
          case hbase => exact hU.out.below.size
          case hl => rw [ints_len]; have := hU.out.len; omega
          intro v1 w2 hown hB2 _ _
          have HP := Lib.hid (show UN w l (p + 1) (pre ++ [9]) v1 w2 from ⟨row_push (c := 9) hown, HA.out, by have := hU.out.len; simp; omega, hB2⟩)
          obtain ⟨A2, c2, hvv⟩ := own_slice hown
          subst hvv
          clear hown hB2
          go_wp2_with fail
          go_roundw
          case rel => exact ⟨p + 1, _, _, _, _, rfl, by go_num, hpn, HP⟩
          case measure => simp [intOf]; omega
        have m116 : ((d.toNat : Int) == 116) = false := toNat_ne h116
        by_cases h115 : d = 115
        · subst h115
          have HA := Lib.hid (show At l (pre ++ [32]) (p + 1) from hU.out.at_.esc HF.out (by rw [HDR.out]; rfl))
          go_wp2_with (at_builtin; go_must (refine print_append_num (w0 := w) w.heap.size rfl (.tmp 48) (.tmp 49) 85 5 .u8 1 rfl Tryz.underlying85 info_u8 (by decide) (.slice A n c) (ints pre) 32 rfl rfl ?HO ?HB ?hbase ?hl ?_))
          case HO => exact hU.out.row
          case HB => exact hU.out.below
          case hbase => exact hU.out.below.size
          case hl => rw [ints_len]; have := hU.out.len; omega
          intro v1 w2 hown hB2 _ _
          have HP := Lib.hid (show UN w l (p + 1) (pre ++ [32]) v1 w2 from ⟨row_push (c := 32) hown, HA.out, by have := hU.out.len; simp; omega, hB2⟩)
          obtain ⟨A2, c2, hvv⟩ := own_slice hown
          subst hvv
          clear hown hB2
          go_wp2_with fail
          go_roundw
          case rel => exact ⟨p + 1, _, _, _, _, rfl, by go_num, hpn, HP⟩
          case measure => simp [intOf]; omega
        have m115 : ((d.toNat : Int) == 115) = false := toNat_ne h115
        by_cases h104 : d = 104
        · subst h104
          have HA := Lib.hid (show At l (pre ++ [35]) (p + 1) from hU.out.at_.esc HF.out (by rw [HDR.out]; rfl))
          go_wp2_with (at_builtin; go_must (refine print_append_num (w0 := w) w.heap.size rfl (.tmp 53) (.tmp 54) 85 5 .u8 1 rfl Tryz.underlying85 info_u8 (by decide) (.slice A n c) (ints pre) 35 rfl rfl ?HO ?HB ?hbase ?hl ?_))
          case HO => exact hU.out.row
          case HB => exact hU.out.below
          case hbase => exact hU.out.below.size
          case hl => rw [ints_len]; have := hU.out.len; omega
          intro v1 w2 hown hB2 _ _
          have HP := Lib.hid (show UN w l (p + 1) (pre ++ [35]) v1 w2 from ⟨row_push (c := 35) hown, HA.out, by have := hU.out.len; simp; omega, hB2⟩)
          obtain ⟨A2, c2, hvv⟩ := own_slice hown
          subst hvv
          clear hown hB2
          go_wp2_with fail
          go_roundw
          case rel => exact ⟨p + 1, _, _, _, _, rfl, by go_num, hpn, HP⟩
          case measure => simp [intOf]; omega
        have m104 : ((d.toNat : Int) == 104) = false := toNat_ne h104
        by_cases h92 : d = 92
        · subst h92
          have HA := Lib.hid (show At l (pre ++ [92]) (p + 1) from hU.out.at_.esc HF.out (by rw [HDR.out]; rfl))
          go_wp2_with (at_builtin; go_must (refine print_append_num (w0 := w) w.heap.size rfl (.tmp 58) (.tmp 59) 85 5 .u8 1 rfl Tryz.underlying85 info_u8 (by decide) (.slice A n c) (ints pre) 92 rfl rfl ?HO ?HB ?hbase ?hl ?_))
          case HO => exact hU.out.row
          case HB => exact hU.out.below
          case hbase => exact hU.out.below.size
          case hl => rw [ints_len]; have := hU.out.len; omega
          intro v1 w2 hown hB2 _ _
          have HP := Lib.hid (show UN w l (p + 1) (pre ++ [92]) v1 w2 from ⟨row_push (c := 92) hown, HA.out, by have := hU.out.len; simp; omega, hB2⟩)
          obtain ⟨A2, c2, hvv⟩ := own_slice hown
          subst hvv
          clear hown hB2
          go_wp2_with fail
          go_roundw
          case rel => exact ⟨p + 1, _, _, _, _, rfl, by go_num, hpn, HP⟩
          case measure => simp [intOf]; omega
        have m92 : ((d.toNat : Int) == 92) = false := toNat_ne h92
        have HB := Lib.hid hU.out.below
        by_cases h120 : d = 120
        · subst h120
          obtain ⟨q, hq⟩ : ∃ q : Nat, q = p + 1 := ⟨_, rfl⟩
          obtain ⟨r, hr⟩ : ∃ r : Nat, r = p + 2 := ⟨_, rfl⟩
          have hq1 : (p : Int) + 1 = (q : Int) := by omega
          have hr1 : (p : Int) + 2 = (r : Int) := by omega
          have HQ := Lib.hid hq
          have HRR := Lib.hid hr
          by_cases hrn : r < s.size
          · have hge2 : decide ((s.size : Int) ≤ (r : Int)) = false := decide_eq_false (by omega)
            have hqn : q < s.size := by omega
            have hfq := HAT.out q hqn
            have hfr := HAT.out r hrn
            obtain ⟨x1, hx1⟩ : ∃ x1, x1 = s[q]'hqn := ⟨_, rfl⟩
            obtain ⟨x2, hx2⟩ : ∃ x2, x2 = s[r]'hrn := ⟨_, rfl⟩
            have hx1' : s[q]'hqn = x1 := hx1.symm
            have hx2' : s[r]'hrn = x2 := hx2.symm
            rw [hx1'] at hfq
            rw [hx2'] at hfr
            have HDR2 := Lib.hid (show l.drop k = 92 :: 120 :: x1 :: x2 :: l.drop (r + 1) by rw [HDR.out, ← HQ.out, Lib.drop_at hfq, show q + 1 = r by omega, Lib.drop_at hfr])
            clear hq hr hfq hfr hx1 hx2
            cases hv1 : digv x1 with
            | none =>
              have HD1 := Lib.hid (digI_none hv1)
              have HR := Lib.hid (unRes_bad H0.out (hU.out.at_.bad HF.out (by rw [HDR2.out]; simp [unEsc, hv1])))
              clear hv1
              go_wp2_with fail
              refine (refDigit_any _ _).mono ?_
              rw [HD1.out]
              rintro e w1 ⟨rfl, rfl⟩
              go_wp2_with fail
              go_ret2
              exact ⟨ret_val HR.out.symm, HB.out⟩
            | some y1 =>
              have HD1 := Lib.hid (digI_some hv1).1
              have hy1 := (digI_some hv1).2
              have z1 : decide ((y1 : Int) < 0) = false := decide_eq_false (by omega)
              cases hv2 : digv x2 with
              | none =>
                have HD2 := Lib.hid (digI_none hv2)
                have HR := Lib.hid (unRes_bad H0.out (hU.out.at_.bad HF.out (by rw [HDR2.out]; simp [unEsc, hv1, hv2])))
                clear hv1 hv2
                go_wp2_with fail
                refine (refDigit_any _ _).mono ?_
                rw [HD1.out]
                rintro e w1 ⟨rfl, rfl⟩
                go_wp2_with fail
                refine (refDigit_any _ _).mono ?_
                rw [HD2.out]
                rintro e w1 ⟨rfl, rfl⟩
                go_wp2_with fail
                go_ret2
                exact ⟨ret_val HR.out.symm, HB.out⟩
              | some y2 =>
                have HD2 := Lib.hid (digI_some hv2).1
                have hy2 := (digI_some hv2).2
                have z2 : decide ((y2 : Int) < 0) = false := decide_eq_false (by omega)
                have HA := Lib.hid (show At l (pre ++ [UInt8.ofNat (y1 * 16 + y2)]) (r + 1) from hU.out.at_.esc HF.out (by rw [HDR2.out]; simp [unEsc, hv1, hv2]))
                clear hv1 hv2
                go_wp2_with fail
                refine (refDigit_any _ _).mono ?_
                rw [HD1.out]
                rintro e w1 ⟨rfl, rfl⟩
                go_wp2_with fail
                refine (refDigit_any _ _).mono ?_
                rw [HD2.out]
                rintro e w1 ⟨rfl, rfl⟩
                go_wp2_with fail
                have b0 : (0 : Int) ≤ (q : Int) := by omega
                have b1 : (q : Int) < (s.size : Int) := by omega
                have b2 : (0 : Int) ≤ (r : Int) := by omega
                have b3 : (r : Int) < (s.size : Int) := by omega
                have HXX := Lib.hid (show IntKind.u8.wrap (IntKind.i64.wrap (IntKind.i64.wrap (16 * digI x1) + digI x2)) = ((UInt8.ofNat (y1 * 16 + y2)).toNat : Int) by rw [HD1.out, HD2.out]; exact hex_wrap_fin ⟨y1, hy1⟩ ⟨y2, hy2⟩)
                have wq : IntKind.i64.wrap (q : Int) = (q : Int) := by rw [IntKind.wrap_i64]; omega
                have wr_ : IntKind.i64.wrap (r : Int) = (r : Int) := by rw [IntKind.wrap_i64]; omega
                go_region_held3 (fun _ => True) (trivial) (first | (go_at_call 208; refine (refDigit_any _ _).mono ?_; rintro e w' ⟨rfl, rfl⟩) | (change if Region.wanted ⟨some 99, _, _, _, _, _⟩ _ = true then _ else _; refine push_step (w := w) (wr := wr) (pre := pre) (by rfl) (.tmp 84) (.tmp 98) (by rfl) A n c (by rfl) (by rfl) hU.out.row hU.out.below (by have := hU.out.len; omega) ?_; intro v1 w2 hown hB2))
                all_goals
                  rw [HXX.out, List.length_append, List.length_singleton] at hown
                  have HP := Lib.hid (show UN w l (r + 1) (pre ++ [UInt8.ofNat (y1 * 16 + y2)]) v1 w2 from ⟨row_push hown, HA.out, by have := hU.out.len; simp; omega, hB2⟩)
                  obtain ⟨A2, c2, hvv⟩ := own_slice hown
                  subst hvv
                  clear hown hB2
                  go_wp2_with fail
                  go_roundw
                  case rel => exact ⟨r + 1, _, _, _, _, rfl, by go_num, hrn, HP⟩
                  case measure => simp [intOf]; omega
          · have hge2 : decide ((s.size : Int) ≤ (r : Int)) = true := decide_eq_true (by omega)
            have HR := Lib.hid (unRes_bad H0.out (hU.out.at_.bad HF.out (by
              rw [HDR.out]
              have hll : (l.drop (p + 1)).length ≤ 1 := by rw [List.length_drop, ← HSZ.out]; omega
              match hm : l.drop (p + 1), hll with
              | [], _ => rfl
              | [_], _ => rfl)))
            clear hq hr
            go_wp2_with fail
            go_ret2
            exact ⟨ret_val HR.out.symm, HB.out⟩
        · have m120 : ((d.toNat : Int) == 120) = false := toNat_ne h120
          have HR := Lib.hid (unRes_bad H0.out (hU.out.at_.bad HF.out (by rw [HDR.out]; simp [unEsc, h110, h116, h115, h104, h92, h120])))
          clear h110 h116 h115 h104 h92 h120
          go_wp2_with fail
          go_ret2
          exact ⟨ret_val HR.out.symm, HB.out⟩
      · have hge : decide ((s.size : Int) ≤ (p : Int)) = true := decide_eq_true (by omega)
        have HR := Lib.hid (unRes_bad H0.out (hU.out.at_.bad HF.out (by
          have hd := Lib.drop_at HF.out
          rw [hd, List.drop_of_length_le (by have := HSZ.out; omega)]; rfl)))
        have HB := Lib.hid hU.out.below
        go_wp2_with fail
        go_ret2
        exact ⟨ret_val HR.out.symm, HB.out⟩
    · have k1 : (((s[k]'hlt).toNat : Int) == 92) = false := toNat_ne h92
      have k1n : (((s[k]'hlt).toNat : Int) != 92) = true := by rw [bne, k1]; rfl
      have HA := Lib.hid (hU.out.at_.plain hf h92)
      obtain ⟨ch, hch⟩ : ∃ ch, ch = s[k]'hlt := ⟨_, rfl⟩
      rw [← hch] at k1 k1n HA
      have hcx : (s[k]'hlt) = ch := hch.symm
      clear h92 hf hch
      go_wp2_with (at_builtin; go_must (refine print_append_num (w0 := w) w.heap.size rfl (.tmp 21) (.tmp 25) 85 5 .u8 1 rfl Tryz.underlying85 info_u8 (by decide) (.slice A n c) (ints pre) (ch.toNat : Int) rfl rfl ?HO ?HB ?hbase ?hl ?_))
      case HO => exact hU.out.row
      case HB => exact hU.out.below
      case hbase => exact hU.out.below.size
      case hl => rw [ints_len]; have := hU.out.len; omega
      intro v1 w2 hown hB2 _ _
      have HP := Lib.hid (show UN w l (k + 1) (pre ++ [ch]) v1 w2 from ⟨row_push hown, HA.out, by have := hU.out.len; simp; omega, hB2⟩)
      obtain ⟨A2, c2, hvv⟩ := own_slice hown
      subst hvv
      clear hown hB2
      go_wp2_with fail
      go_roundw
      case rel => exact ⟨k + 1, _, _, _, _, rfl, by go_num, hlt, HP⟩
      case measure => simp [intOf]; omega
  · obtain rfl : k = s.size := by omega
    have hcv := hU.out.row.str
    have HD := Lib.hid (hU.out.at_.end_ (by have := HSZ.out; omega))
    have HB := Lib.hid hU.out.below
    have hpl := hU.out.len
    by_cases hz : s.size = 0
    · have z1 : ((s.size : Int) == 0) = true := by rw [hz]; rfl
      have HR := Lib.hid (unRes_no H0.out HD.out (by
        intro e
        have h1 := (escape_len pre).2.1
        rw [e, ← HSZ.out, hz] at h1; omega))
      clear hz
      go_wp2_with fail
      go_ret2
      exact ⟨ret_val HR.out.symm, HB.out⟩
    · have z1 : ((s.size : Int) == 0) = false := by rw [beq_eq_false_iff_ne]; omega
      have hpre : pre.length ≤ 33554432 := by omega
      clear hz
      by_cases he : escape pre = l
      · have q1 : (escape pre == s.toList) = true := by rw [HSL.out, he]; simp
        have q2 : (escape pre != s.toList) = false := by rw [bne, q1]; rfl
        have HR := Lib.hid (unRes_good H0.out HD.out he)
        clear he
        go_wp2_with fail
        refine (refEscape_any ⟨pre.toArray⟩ _ (by rw [mk_size]; exact hpre)).mono ?_
        rintro e w1 ⟨rfl, hB1⟩
        have hcv2 := (hU.out.row.keep hB1).str
        have HB1 := Lib.hid (HB.out.trans (hB1.mono HB.out.size))
        clear hcv hB1
        go_wp2_with fail
        go_ret2
        exact ⟨ret_val HR.out.symm, HB1.out⟩
      · have q1 : (escape pre == s.toList) = false := by rw [HSL.out]; simpa using he
        have q2 : (escape pre != s.toList) = true := by rw [bne, q1]; rfl
        have HR := Lib.hid (unRes_no H0.out HD.out he)
        clear he
        go_wp2_with fail
        refine (refEscape_any ⟨pre.toArray⟩ _ (by rw [mk_size]; exact hpre)).mono ?_
        rintro e w1 ⟨rfl, hB1⟩
        have HB1 := Lib.hid (HB.out.trans (hB1.mono HB.out.size))
        clear hcv hB1
        go_wp2_with fail
        go_ret2
        exact ⟨ret_val HR.out.symm, HB1.out⟩
end Go.Proofs.YtbpackopicngmaaGreatDoor
