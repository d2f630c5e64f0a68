/- ScriptParses' walk. -/
import Derived.Test.YtbpackopicngmaaGreatDoorRfP
namespace Go.Proofs.YtbpackopicngmaaGreatDoor
open Go.RowKit Go.Proofs.Sc Go.Proofs.YtbpackopicngmaaGreatDoorW.PrintWords

theorem refParse_str (s : ByteArray) (hs : s.size ≤ 33554432) (w : World) : Calls Tryz.prog 8 #[.string s] w (ParsePost s.data.toList w) := by
  have := refParse_any s.data.toList (by rw [← size_list]; exact hs) w
  rwa [show mkB s.data.toList = s from mk_data s] at this

set_option maxHeartbeats 4000000 in
set_option maxRecDepth 100000 in
theorem ScriptParses_any (a : ByteArray) (w : World) (_ : a.size ≤ maxLen) {B : Nat} (hE : Env B w) : Calls Tryz.prog 3 #[.string a] w fun e w' => e = .returned (.bool true) ∧ Below w.heap.size w w' := by
  have hEW : Env w.heap.size w := hE.up hE.le (Nat.le_refl _)
  clear hE
  by_cases hl : 2097152 < a.size
  · have k1 : decide (2097152 < a.size) = true := decide_eq_true hl
    have m1 : decide ((2097152 : Int) < (a.size : Int)) = true := decide_eq_true (by omega)
    clear hl
    go_enter Tryz.func3, Tryz.ntmps3
    go_wp2_with fail
    refine (lawFirst_any w hEW).mono ?_
    rintro e w1 ⟨rfl, hB1⟩
    go_wp2_with fail
    go_ret
    exact ⟨rfl, hB1⟩
  · have k1 : decide (2097152 < a.size) = false := decide_eq_false hl
    have m1 : decide ((2097152 : Int) < (a.size : Int)) = false := decide_eq_false (by omega)
    obtain ⟨s, x, c, hp⟩ : ∃ s x c, parse a.data.toList = (s, x, c) := ⟨(parse a.data.toList).1, (parse a.data.toList).2.1, (parse a.data.toList).2.2, rfl⟩
    have HP := Lib.hid hp
    have hal : a.size ≤ 33554432 := by omega
    clear hp hl
    go_enter Tryz.func3, Tryz.ntmps3
    go_wp2_with fail
    refine (lawFirst_any w hEW).mono ?_
    rintro e w1 ⟨rfl, hB1⟩
    have HW1 := Lib.hid hB1
    clear hB1
    go_wp2_with fail
    refine (Parse_any a hal _ (hEW.belowB HW1.out)).mono ?_
    rintro e1 w5 hP
    obtain ⟨A5, d5, rfl, hl5, hC5, hB5⟩ := parse_at hP HP.out
    have hq5 : Below w5.heap.size w5 (w5.alloc (.cells #[.int .i64 s.cap, .slice A5 s.ops.length d5] 25)) := (Below.refl _ _).alloc (Nat.le_refl _) _
    have HW5 := Lib.hid (HW1.out.trans (hB5.mono HW1.out.size))
    have HA5 := Lib.hid (HW5.out.trans (hq5.mono HW5.out.size))
    have HC5 := Lib.hid (Kd.C_below hC5 hq5)
    have HL5 := Lib.hid hl5
    clear hP hC5 hl5 hB5 hq5
    go_wp2_with fail
    refine (refParse_str a hal _).mono ?_
    rintro e2 w6 hP
    obtain ⟨A6, d6, rfl, hl6, hC6, hB6⟩ := parse_at hP HP.out
    have h56 : w6.heap[w5.heap.size]? = some (.cells #[.int .i64 s.cap, .slice A5 s.ops.length d5] 25 (0, 0)) := (hB6.block _ (by simp)).trans (new_at _ _ _ rfl)
    obtain ⟨z0, z1, f0, f1⟩ := script_cells h56
    have hlt56 : w5.heap.size < w6.heap.size := blk_lt h56
    have hq6 : Below w6.heap.size w6 (w6.alloc (.cells #[.int .i64 s.cap, .slice A6 s.ops.length d6] 25)) := (Below.refl _ _).alloc (Nat.le_refl _) _
    have HC6 := Lib.hid (Kd.C_below hC6 hq6)
    have HC56 := Lib.hid (Kd.C_below (Kd.C_below HC5.out hB6) hq6)
    have HL6 := Lib.hid hl6
    have HW6 := Lib.hid (HA5.out.trans (hB6.mono HA5.out.size))
    have HA6 := Lib.hid (HW6.out.trans (hq6.mono HW6.out.size))
    clear hP hC6 hl6 hB6 hq6 h56
    go_wp2_with fail
    refine (same_any s s A5 A6 d5 d6 _ HC56.out HC6.out HL5.out HL6.out).mono ?_
    rintro e7 w7 ⟨⟨r, rfl, hr⟩, hB7⟩
    obtain rfl := hr.2 rfl
    have HW7 := Lib.hid (HA6.out.trans (hB7.mono HA6.out.size))
    clear hr hB7 z0 z1 f0 f1
    go_wp2_with fail
    refine (num_any _ _).mono ?_
    rintro e8 w8 ⟨rfl, rfl⟩
    go_wp2_with fail
    go_ret
    exact ⟨rfl, HW7.out⟩
end Go.Proofs.YtbpackopicngmaaGreatDoor
