/- ScriptFault's walk. -/
import Derived.Test.YtbpackopicngmaaDoorLwFaP
import Derived.Test.YtbpackopicngmaaDoorLwUn
namespace Go.Proofs.YtbpackopicngmaaDoor
open Go.RowKit Go.Proofs.Sc Go.Proofs.YtbpackopicngmaaDoorW.PrintWords

theorem row8_nil (w wr : World) : Row8 w wr (.slice none 0 0) [] := own_nil _ _ _ _
theorem Row8.slice {w wr : World} {v : Value} {l : By} (h : Row8 w wr v l) : ∃ A n c, v = .slice A n c := by
  obtain ⟨A, c, hv⟩ := own_slice h
  exact ⟨A, _, c, hv⟩
theorem row_str {w w1 : World} {v1 : Value} {l x : By} (hown : w1.ownsRow w.heap.size 5 1 v1 ((ints l).length + (bytesOf ⟨x.toArray⟩).length) (nums .u8 (ints l ++ bytesOf ⟨x.toArray⟩))) : Row8 w w1 v1 (l ++ x) := by
  unfold Row8; rw [ints_append, List.length_append]; exact hown
theorem rd_mk {GL : List By} {k : Nat} {x : By} (h : GL[k]? = some x) : rdOf ByteArray.empty (GL.map fun l : By => (⟨l.toArray⟩ : ByteArray)) (k : Int) = ⟨x.toArray⟩ := by
  simp [rdOf, List.getElem?_map, h]

set_option maxHeartbeats 8000000 in
set_option maxRecDepth 100000 in
theorem fault_short (t o : ByteArray) (w : World) (ht : t.size ≤ 60000) (ho : o.size ≤ 60000) {B : Nat} (hE : Env B w) : Calls Tryd.prog 9 #[.string t, .string o] w fun e w' => e = .returned (.bool true) ∧ Below w.heap.size w w' := by
  have hEW : Env w.heap.size w := hE.up hE.le (Nat.le_refl _)
  clear hE
  have k1 : decide (60000 < t.size) = false := decide_eq_false (by omega)
  have m1 : decide ((60000 : Int) < (t.size : Int)) = false := decide_eq_false (by omega)
  have k2 : decide (60000 < o.size) = false := decide_eq_false (by omega)
  have m2 : decide ((60000 : Int) < (o.size : Int)) = false := decide_eq_false (by omega)
  rcases fault_cases t.data.toList o.data.toList (by rw [← size_list]; exact ht) (by rw [← size_list]; exact ho) headOf_codes stepOf_codes with ⟨s, c, hp⟩ | ⟨s, n, e, hp, hF⟩
  · have HP := Lib.hid hp
    clear hp
    go_enter Tryd.func9, Tryd.ntmps9
    go_wp2_with fail
    refine (lawFirst_any w hEW).mono ?_
    rintro e w1 ⟨rfl, hB1⟩
    go_wp2_with fail
    refine (Parse_any t (by omega) _ (hEW.belowB hB1)).mono ?_
    rintro e1 w2 hP
    obtain ⟨A2, d2, rfl, _, _, hB2⟩ := parse_at hP HP.out
    have HW2 := Lib.hid ((hB1.trans (hB2.mono hB1.size)).alloc (hB1.trans (hB2.mono hB1.size)).size (.cells #[.int .i64 s.cap, .slice A2 s.ops.length d2] 36))
    clear hP hB2
    by_cases hc : c = 0
    · have q1 : (c == 0) = true := by simpa using hc
      clear hc
      go_wp2_with fail
      refine (num_any _ _).mono ?_
      rintro e2 w9 ⟨rfl, rfl⟩
      go_wp2_with fail
      go_ret
      exact ⟨rfl, HW2.out⟩
    · have q1 : (c == 0) = false := by simpa using hc
      clear hc
      go_wp2_with fail
      refine (num_any _ _).mono ?_
      rintro e2 w9 ⟨rfl, rfl⟩
      go_wp2_with fail
      go_ret
      exact ⟨rfl, HW2.out⟩
  · have HP := Lib.hid hp
    have q1 : (e == 0) = false := by simpa using hF.code
    have q2 : decide ((n : Int) < 1) = false := decide_eq_false (by have := hF.pos; omega)
    obtain ⟨GL, hGL⟩ : ∃ GL, GL = goLines t.data.toList := ⟨_, rfl⟩
    obtain ⟨m, hm⟩ : ∃ m, m = GL.length := ⟨_, rfl⟩
    have hnm : n ≤ m := by rw [hm, hGL]; exact hF.le
    have q3 : decide ((m : Int) < (n : Int)) = false := decide_eq_false (by omega)
    have q4 : decide (m < n) = false := decide_eq_false (by omega)
    have HAG := Lib.hid hF.again
    have HAH := Lib.hid hF.ahead
    have HTL := Lib.hid (show ∀ k, (textOf (GL.take k)).length ≤ 60001 from fun k => by
      have h1 := textOf_linesOf t.data.toList
      rw [← size_list] at h1
      obtain ⟨r, hr⟩ := goLines_prefix t.data.toList
      rw [← hr, textOf_append, List.length_append, ← hGL] at h1
      have h2 : GL = GL.take k ++ GL.drop k := (List.take_append_drop k GL).symm
      have h3 := congrArg (fun l => (textOf l).length) h2
      simp only [textOf_append, List.length_append] at h3
      omega)
    obtain ⟨n1, hn1⟩ : ∃ n1 : Nat, n1 = n - 1 := ⟨_, rfl⟩
    have hn1i : (n : Int) - 1 = (n1 : Int) := by have := hF.pos; omega
    have hn1m : n1 ≤ m := by omega
    rw [← hGL] at HAG HAH
    rw [← hn1] at HAH
    have HGLE := Lib.hid hGL
    have HGL := Lib.hid hm
    clear hp hF hGL hm hn1
    go_enter Tryd.func9, Tryd.ntmps9
    go_wp2_with fail
    refine (lawFirst_any w hEW).mono ?_
    rintro e0 w1 ⟨rfl, hB1⟩
    go_wp2_with fail
    refine (Parse_any t (by omega) _ (hEW.belowB hB1)).mono ?_
    rintro e1 w2 hP
    obtain ⟨A2, d2, rfl, _, _, hB2⟩ := parse_at hP HP.out
    have HW2 := Lib.hid ((hB1.trans (hB2.mono hB1.size)).alloc (hB1.trans (hB2.mono hB1.size)).size (.cells #[.int .i64 s.cap, .slice A2 s.ops.length d2] 36))
    clear hP hB2 hB1
    go_wp2_with fail
    refine (num_any _ _).mono ?_
    rintro e2 w9 ⟨rfl, rfl⟩
    go_wp2_with fail
    refine (lines_any t (by omega) _).mono ?_
    rw [← HGLE.out]
    rintro e3 w3 ⟨v3, rfl, hR3, hB3⟩
    have HW3 := Lib.hid (HW2.out.trans (hB3.mono HW2.out.size))
    obtain ⟨A3, d3, rfl, hl3, hC3⟩ := Kd.R_reads hR3
    rw [List.length_map, ← HGL.out] at hC3 hl3 ⊢
    have hm63 : m ≤ 9223372036854775807 := hC3.2.1
    have HC3 := Lib.hid hC3
    clear hR3 hC3 hB3
    go_wp2_with fail
    go_loopw [10, 11] (fun v i wr => ∃ (k : Nat) (A : Option Addr) (n' c' : Nat), v = .slice A n' c' ∧ i = .int .i64 (k : Int) ∧ k ≤ n ∧ Hid (Row8 w3 wr (.slice A n' c') (textOf (GL.take k))) ∧ Hid (Below w3.heap.size w3 wr)) (fun _ i _ => n - (intOf i).toNat)
    case atStart => exact ⟨0, none, 0, 0, rfl, rfl, Nat.zero_le _, Lib.hid (row8_nil _ _), Lib.hid (Below.refl _ _)⟩
    case round =>
    obtain ⟨k, A, n', c', rfl, rfl, hk, hR, hB⟩ := hrel
    have htl := HTL.out k
    by_cases hlt : k < n
    · obtain ⟨x, hx⟩ : ∃ x, GL[k]? = some x := ⟨GL[k]'(by have := HGL.out; omega), List.getElem?_eq_getElem _⟩
      obtain ⟨ad, hAd, hcell⟩ := Kd.at_string (Kd.C_below HC3.out hB.out) (k : Int) (by omega) (by omega)
      rw [Int.toNat_natCast, rd_mk hx] at hcell
      have hstep : textOf (GL.take (k + 1)) = textOf (GL.take k) ++ x ++ [10] := by rw [List.take_add_one, hx, textOf_append]; simp [textOf]
      have htl2 := HTL.out (k + 1)
      rw [hstep, List.length_append, List.length_append] at htl2
      have HST := Lib.hid hstep
      clear hx hstep
      subst hAd
      go_wp2_with (at_builtin; go_must (refine print_append_str (w0 := w3) w3.heap.size rfl (.tmp 60) (.tmp 64) 47 9 5 rfl Tryd.underlying47 Tryd.underlying9 info_u8 (.slice A n' c') (ints (textOf (GL.take k))) ⟨x.toArray⟩ rfl rfl ?HO ?HB ?hbase ?hl ?_))
      case HO => exact hR.out
      case HB => exact hB.out
      case hbase => exact hB.out.size
      case hl => rw [ints_len, mk_size]; omega
      intro v1 w4 hown hB4 _
      have HR4 := Lib.hid (row_str hown)
      have HB4 := Lib.hid hB4
      clear hown hB4
      obtain ⟨A4, n4, c4, rfl⟩ := HR4.out.slice
      go_wp2_with (at_builtin; go_must (refine print_append_num (w0 := w3) w3.heap.size rfl (.tmp 66) (.tmp 67) 47 5 .u8 1 rfl Tryd.underlying47 info_u8 (by decide) (.slice A4 n4 c4) (ints (textOf (GL.take k) ++ x)) 10 rfl rfl ?HO ?HB ?hbase ?hl ?_))
      case HO => exact HR4.out
      case HB => exact HB4.out
      case hbase => exact HB4.out.size
      case hl => rw [ints_len, List.length_append]; omega
      intro v1 w5 hown hB5 _ _
      have HR5 := Lib.hid (show Row8 w3 w5 v1 (textOf (GL.take (k + 1))) by rw [HST.out]; exact row_push (c := 10) hown)
      have HB5 := Lib.hid hB5
      clear hown hB5
      obtain ⟨A5, n5, c5, rfl⟩ := HR5.out.slice
      go_wp2_with fail
      go_roundw
      case rel => exact ⟨k + 1, _, _, _, rfl, by go_num, hlt, HR5, HB5⟩
      case measure => simp [intOf]; omega
    · obtain rfl : k = n := by omega
      clear hlt
      go_wp2_with (at_builtin; go_must (refine print_append_str (w0 := w3) w3.heap.size rfl (.tmp 69) (.tmp 70) 47 9 5 rfl Tryd.underlying47 Tryd.underlying9 info_u8 (.slice A n' c') (ints (textOf (GL.take k))) o rfl rfl ?HO ?HB ?hbase ?hl ?_))
      case HO => exact hR.out
      case HB => exact hB.out
      case hbase => exact hB.out.size
      case hl => rw [ints_len]; omega
      intro v1 w4 hown hB4 _
      rw [← mk_data o] at hown
      have HR4 := Lib.hid (row_str hown)
      have HB4 := Lib.hid hB4
      clear hown hB4
      obtain ⟨A4, n4, c4, rfl⟩ := HR4.out.slice
      have hcv4 := HR4.out.str
      go_wp2_with fail
      refine (Parse_any ⟨(textOf (GL.take k) ++ o.data.toList).toArray⟩ (by rw [mk_size, List.length_append, ← size_list]; omega) _ (hEW.belowB (HW3.out.trans (HB4.out.mono HW3.out.size)))).mono ?_
      rintro e1 w5 hP
      obtain ⟨s5, hp5⟩ := HAG.out
      obtain ⟨A5, d5, rfl, _, _, hB5⟩ := parse_at hP hp5
      have HB5 := Lib.hid (HB4.out.trans (hB5.mono HB4.out.size))
      have HA5 := Lib.hid (show Below w3.heap.size w3 (w5.alloc (.cells #[.int .i64 s5.cap, .slice A5 s5.ops.length d5] 36)) from HB5.out.alloc HB5.out.size _)
      clear hP hp5 hB5 hcv4
      go_wp2_with fail
      refine (num_any _ _).mono ?_
      rintro e2 w9 ⟨rfl, rfl⟩
      go_wp2_with fail
      refine (num_any _ _).mono ?_
      rintro e2 w9 ⟨rfl, rfl⟩
      go_wp2_with fail
      clear hR hB htl
      go_loopw [15, 16] (fun v i wr => ∃ (k : Nat) (A : Option Addr) (n' c' : Nat), v = .slice A n' c' ∧ i = .int .i64 (k : Int) ∧ k ≤ n1 ∧ Hid (Row8 w3 wr (.slice A n' c') (textOf (GL.take k))) ∧ Hid (Below w3.heap.size w3 wr)) (fun _ i _ => n1 - (intOf i).toNat)
      case atStart => exact ⟨0, none, 0, 0, rfl, rfl, Nat.zero_le _, Lib.hid (row8_nil _ _), HA5⟩
      case round =>
      obtain ⟨k, A, n', c', rfl, rfl, hk, hR, hB⟩ := hrel
      have htl := HTL.out k
      by_cases hlt : k < n1
      · obtain ⟨x, hx⟩ : ∃ x, GL[k]? = some x := ⟨GL[k]'(by have := HGL.out; omega), List.getElem?_eq_getElem _⟩
        obtain ⟨ad, hAd, hcell⟩ := Kd.at_string (Kd.C_below HC3.out hB.out) (k : Int) (by omega) (by omega)
        rw [Int.toNat_natCast, rd_mk hx] at hcell
        have hstep : textOf (GL.take (k + 1)) = textOf (GL.take k) ++ x ++ [10] := by rw [List.take_add_one, hx, textOf_append]; simp [textOf]
        have htl2 := HTL.out (k + 1)
        rw [hstep, List.length_append, List.length_append] at htl2
        have HST := Lib.hid hstep
        clear hx hstep
        subst hAd
        go_wp2_with (at_builtin; go_must (refine print_append_str (w0 := w3) w3.heap.size rfl (.tmp 95) (.tmp 99) 47 9 5 rfl Tryd.underlying47 Tryd.underlying9 info_u8 (.slice A n' c') (ints (textOf (GL.take k))) ⟨x.toArray⟩ rfl rfl ?HO ?HB ?hbase ?hl ?_))
        case HO => exact hR.out
        case HB => exact hB.out
        case hbase => exact hB.out.size
        case hl => rw [ints_len, mk_size]; omega
        intro v1 w4 hown hB4 _
        have HR4 := Lib.hid (row_str hown)
        have HB4 := Lib.hid hB4
        clear hown hB4
        obtain ⟨A4, n4, c4, rfl⟩ := HR4.out.slice
        go_wp2_with (at_builtin; go_must (refine print_append_num (w0 := w3) w3.heap.size rfl (.tmp 101) (.tmp 102) 47 5 .u8 1 rfl Tryd.underlying47 info_u8 (by decide) (.slice A4 n4 c4) (ints (textOf (GL.take k) ++ x)) 10 rfl rfl ?HO ?HB ?hbase ?hl ?_))
        case HO => exact HR4.out
        case HB => exact HB4.out
        case hbase => exact HB4.out.size
        case hl => rw [ints_len, List.length_append]; omega
        intro v1 w5 hown hB5 _ _
        have HR5 := Lib.hid (show Row8 w3 w5 v1 (textOf (GL.take (k + 1))) by rw [HST.out]; exact row_push (c := 10) hown)
        have HB5 := Lib.hid hB5
        clear hown hB5
        obtain ⟨A5, n5, c5, rfl⟩ := HR5.out.slice
        go_wp2_with fail
        go_roundw
        case rel => exact ⟨k + 1, _, _, _, rfl, by go_num, hlt, HR5, HB5⟩
        case measure => simp [intOf]; omega
      · obtain rfl : k = n1 := by omega
        clear hlt
        have hcv := hR.out.str
        go_wp2_with fail
        refine (Parse_any ⟨(textOf (GL.take k)).toArray⟩ (by rw [mk_size]; omega) _ (hEW.belowB (HW3.out.trans (hB.out.mono HW3.out.size)))).mono ?_
        rintro e1 w8 hP
        obtain ⟨s8, c8, hp8, hc8⟩ := HAH.out
        obtain ⟨A8, d8, rfl, _, _, hB8⟩ := parse_at hP hp8
        have HW8 := Lib.hid ((HW3.out.trans (hB.out.mono HW3.out.size)).trans (hB8.mono (HW3.out.trans (hB.out.mono HW3.out.size)).size))
        have hq8 : Below w8.heap.size w8 (w8.alloc (.cells #[.int .i64 s8.cap, .slice A8 s8.ops.length d8] 36)) := (Below.refl _ _).alloc (Nat.le_refl _) _
        clear hP hp8 hB8 hcv
        rcases hc8 with rfl | rfl
        · go_wp2_with fail
          refine (num_any _ _).mono ?_
          rintro e2 w9 ⟨rfl, rfl⟩
          go_wp2_with fail
          go_ret
          exact ⟨rfl, HW8.out.trans (hq8.mono HW8.out.size)⟩
        · go_wp2_with fail
          refine (num_any _ _).mono ?_
          rintro e2 w9 ⟨rfl, rfl⟩
          go_wp2_with fail
          refine (num_any _ _).mono ?_
          rintro e2 w9 ⟨rfl, rfl⟩
          go_wp2_with fail
          go_ret
          exact ⟨rfl, HW8.out.trans (hq8.mono HW8.out.size)⟩

theorem ScriptFault_any (a b : ByteArray) (w : World) (_ : a.size ≤ maxLen) (_ : b.size ≤ maxLen) {B : Nat} (hE : Env B w) : Calls Tryd.prog 9 #[.string a, .string b] w fun e w' => e = .returned (.bool true) ∧ Below w.heap.size w w' := by
  by_cases h1 : 60000 < a.size
  · have hEW : Env w.heap.size w := hE.up hE.le (Nat.le_refl _)
    have k1 : decide (60000 < a.size) = true := decide_eq_true h1
    have m1 : decide ((60000 : Int) < (a.size : Int)) = true := decide_eq_true (by omega)
    clear h1 hE
    go_enter Tryd.func9, Tryd.ntmps9
    go_wp2_with fail
    refine (lawFirst_any w hEW).mono ?_
    rintro e w1 ⟨rfl, hB1⟩
    go_wp2_with fail
    go_ret
    exact ⟨rfl, hB1⟩
  · by_cases h2 : 60000 < b.size
    · have hEW : Env w.heap.size w := hE.up hE.le (Nat.le_refl _)
      have k1 : decide (60000 < a.size) = false := decide_eq_false h1
      have m1 : decide ((60000 : Int) < (a.size : Int)) = false := decide_eq_false (by omega)
      have k2 : decide (60000 < b.size) = true := decide_eq_true h2
      have m2 : decide ((60000 : Int) < (b.size : Int)) = true := decide_eq_true (by omega)
      clear h1 h2 hE
      go_enter Tryd.func9, Tryd.ntmps9
      go_wp2_with fail
      refine (lawFirst_any w hEW).mono ?_
      rintro e w1 ⟨rfl, hB1⟩
      go_wp2_with fail
      go_ret
      exact ⟨rfl, hB1⟩
    · exact fault_short a b w (by omega) (by omega) hE
end Go.Proofs.YtbpackopicngmaaDoor
