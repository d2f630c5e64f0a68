/- ScriptOneWord's walk: bytes have one word. -/
import Derived.Test.YtbpackopicngmaaDoorSwN
namespace Go.Proofs.YtbpackopicngmaaDoor
open Go.RowKit Go.Proofs.Sc Go.Proofs.YtbpackopicngmaaDoorW.PrintWords

set_option maxHeartbeats 4000000 in
set_option maxRecDepth 100000 in
theorem one_long (a b w0 : ByteArray) (w : World) (h : 2097152 < a.size ∨ 2097152 < b.size ∨ 2097152 < w0.size) {B : Nat} (hE : Env B w) : Calls Tryd.prog 6 #[.string a, .string b, .string w0] w fun e w' => e = .returned (.bool true) ∧ Below w.heap.size w w' := by
  have hEW : Env w.heap.size w := hE.up hE.le (Nat.le_refl _)
  clear hE
  by_cases h1 : 2097152 < a.size
  · have k1 : decide (2097152 < a.size) = true := decide_eq_true h1
    have m1 : decide ((2097152 : Int) < (a.size : Int)) = true := decide_eq_true (by omega)
    clear h h1
    go_enter Tryd.func6, Tryd.ntmps6
    go_wp2_with fail
    refine (lawFirst_any w hEW).mono ?_
    rintro e w1 ⟨rfl, hB1⟩
    go_wp2_with fail
    go_ret
    exact ⟨rfl, hB1⟩
  have k1 : decide (2097152 < a.size) = false := decide_eq_false h1
  have m1 : decide ((2097152 : Int) < (a.size : Int)) = false := decide_eq_false (by omega)
  by_cases h2 : 2097152 < b.size
  · have k2 : decide (2097152 < b.size) = true := decide_eq_true h2
    have m2 : decide ((2097152 : Int) < (b.size : Int)) = true := decide_eq_true (by omega)
    clear h h1 h2
    go_enter Tryd.func6, Tryd.ntmps6
    go_wp2_with fail
    refine (lawFirst_any w hEW).mono ?_
    rintro e w1 ⟨rfl, hB1⟩
    go_wp2_with fail
    go_ret
    exact ⟨rfl, hB1⟩
  have k2 : decide (2097152 < b.size) = false := decide_eq_false h2
  have m2 : decide ((2097152 : Int) < (b.size : Int)) = false := decide_eq_false (by omega)
  have k3 : decide (2097152 < w0.size) = true := decide_eq_true (by omega)
  have m3 : decide ((2097152 : Int) < (w0.size : Int)) = true := decide_eq_true (by omega)
  clear h h1 h2
  go_enter Tryd.func6, Tryd.ntmps6
  go_wp2_with fail
  refine (lawFirst_any w hEW).mono ?_
  rintro e w1 ⟨rfl, hB1⟩
  go_wp2_with fail
  go_ret
  exact ⟨rfl, hB1⟩

theorem beq_of {a b : By} {r : Bool} (h : r = true ↔ a = b) : (a == b) = r := by
  cases r with
  | true => simpa using h.1 rfl
  | false => simpa using fun e => absurd (h.2 e) (by decide)

set_option maxHeartbeats 8000000 in
set_option maxRecDepth 100000 in
theorem one_short (a b w0 : ByteArray) (w : World) (ha : a.size ≤ 2097152) (hb : b.size ≤ 2097152) (hw0 : w0.size ≤ 2097152) {B : Nat} (hE : Env B w) : Calls Tryd.prog 6 #[.string a, .string b, .string w0] w fun e w' => e = .returned (.bool true) ∧ Below w.heap.size w w' := by
  have hEW : Env w.heap.size w := hE.up hE.le (Nat.le_refl _)
  clear hE
  have k1 : decide (2097152 < a.size) = false := decide_eq_false (by omega)
  have m1 : decide ((2097152 : Int) < (a.size : Int)) = false := decide_eq_false (by omega)
  have k2 : decide (2097152 < b.size) = false := decide_eq_false (by omega)
  have m2 : decide ((2097152 : Int) < (b.size : Int)) = false := decide_eq_false (by omega)
  have k3 : decide (2097152 < w0.size) = false := decide_eq_false (by omega)
  have m3 : decide ((2097152 : Int) < (w0.size : Int)) = false := decide_eq_false (by omega)
  obtain ⟨X, hX⟩ : ∃ X : ByteArray, X = ⟨(escape a.data.toList).toArray⟩ := ⟨_, rfl⟩
  obtain ⟨Y, hY⟩ : ∃ Y : ByteArray, Y = ⟨(escape b.data.toList).toArray⟩ := ⟨_, rfl⟩
  have hXl : X.data.toList = escape a.data.toList := by rw [hX]
  have hYl : Y.data.toList = escape b.data.toList := by rw [hY]
  have hXs : 1 ≤ X.size ∧ X.size ≤ 33554432 := by
    rw [size_list X, hXl]; have h1 := escape_len a.data.toList; rw [← size_list] at h1; omega
  have hx0 : (0 : Int) < (X.size : Int) := by omega
  have kz : ((X.size : Int) == 0) = false := by rw [beq_eq_false_iff_ne]; omega
  have kz2 : (X.size == 0) = false := by rw [beq_eq_false_iff_ne]; omega
  have HOK := Lib.hid (show ∀ i (h : i < X.size), wordByte (X[i]'h) from fun i h => escape_ok a.data.toList _ (by rw [← hXl]; exact List.mem_of_getElem? (getElem_list X i h)))
  obtain ⟨r, hr⟩ : ∃ r : Bool, r = true ↔ a.toList = b.toList := ⟨decide (a.toList = b.toList), by simp⟩
  have kab : (a.toList == b.toList) = r := beq_of hr
  have kxy : (X.toList == Y.toList) = r := beq_of (by
    rw [hr, Lib.toList_data, Lib.toList_data, Lib.toList_data, Lib.toList_data, hXl, hYl]
    exact ⟨fun h => by rw [h], fun h => escape_inj h⟩)
  have HX := Lib.hid hX
  have HY := Lib.hid hY
  have HUX := Lib.hid (show unRes X.data.toList = .tuple #[.string a, .int .i64 0] by rw [hXl, unRes_some (unescape_escape _), mk_data])
  clear hX hY hXl hYl hr
  go_enter Tryd.func6, Tryd.ntmps6
  go_wp2_with fail
  refine (lawFirst_any w hEW).mono ?_
  rintro e w1 ⟨rfl, hB1⟩
  go_wp2_with fail
  refine (escape_any a _ (by omega)).mono ?_
  rw [← HX.out]
  rintro e w2 ⟨rfl, hB2⟩
  have hW2 := hB1.trans (hB2.mono hB1.size)
  clear hB1 hB2
  go_wp2_with fail
  refine (escape_any b _ (by omega)).mono ?_
  rw [← HY.out]
  rintro e w3 ⟨rfl, hB3⟩
  have hW3 := hW2.trans (hB3.mono hW2.size)
  clear hW2 hB3
  have kne : (r != r) = false := by cases r <;> rfl
  go_wp2_with fail
  go_loopw [10] (fun v wr => ∃ i : Nat, v = .int .i64 (i : Int) ∧ i ≤ X.size ∧ Below w.heap.size w wr) (fun v _ => X.size - (intOf v).toNat)
  case atStart => exact ⟨0, rfl, Nat.zero_le _, hW3⟩
  case round =>
  clear hW3
  obtain ⟨i, rfl, hi, hW⟩ := hrel
  by_cases hlt : i < X.size
  · obtain ⟨c1, c2, c3⟩ := HOK.out i hlt
    obtain ⟨f, hf⟩ : ∃ f, f = (X[i]'hlt).toNat := ⟨_, rfl⟩
    have q1 : decide (((X[i]'hlt).toNat : Int) < 33) = false := decide_eq_false (by omega)
    have q2 : decide ((126 : Int) < ((X[i]'hlt).toNat : Int)) = false := decide_eq_false (by omega)
    have q3 : (((X[i]'hlt).toNat : Int) == 35) = false := toNat_ne c3
    have q4 : decide ((X[i]'hlt).toNat < 33) = false := decide_eq_false (by omega)
    have q5 : decide (126 < (X[i]'hlt).toNat) = false := decide_eq_false (by omega)
    clear c1 c2 c3 hf
    go_wp2_with fail
    go_roundw
    case rel => exact ⟨i + 1, by go_num, hlt, hW⟩
    case measure => simp [intOf]; omega
  · have hEX : i = X.size := by omega
    subst hEX
    go_wp2_with fail
    refine (Unescape_any X _ (by omega)).mono ?_
    rintro e w4 ⟨he, hB4⟩
    obtain rfl := he.trans (congrArg Ending.returned HUX.out)
    have hW4 := hW.trans (hB4.mono hW.size)
    clear he hB4 hW
    go_wp2_with fail
    cases hu : unescape w0.data.toList with
    | none =>
      refine (Unescape_any w0 _ (by omega)).mono ?_
      rintro e w5 ⟨he, hB5⟩
      obtain rfl := he.trans (congrArg Ending.returned (unRes_none hu))
      have hW5 := hW4.trans (hB5.mono hW4.size)
      clear he hB5 hW4 hu
      go_wp2_with fail
      refine (num_any _ _).mono ?_
      rintro e w6 ⟨rfl, rfl⟩
      go_wp2_with fail
      refine (num_any _ _).mono ?_
      rintro e w6 ⟨rfl, rfl⟩
      go_wp2_with fail
      refine (num_any _ _).mono ?_
      rintro e w6 ⟨rfl, rfl⟩
      go_wp2_with fail
      go_ret
      exact ⟨rfl, hW5⟩
    | some t =>
      have ht := unescape_some hu
      have htl : t.length ≤ 33554432 := by
        have h1 := (escape_len t).1
        rw [ht, ← size_list] at h1; omega
      have HT := Lib.hid (show (⟨(escape t).toArray⟩ : ByteArray) = w0 by rw [ht, mk_data])
      refine (Unescape_any w0 _ (by omega)).mono ?_
      rintro e w5 ⟨he, hB5⟩
      obtain rfl := he.trans (congrArg Ending.returned (unRes_some hu))
      have hW5 := hW4.trans (hB5.mono hW4.size)
      clear he hB5 hW4 hu ht
      go_wp2_with fail
      refine (num_any _ _).mono ?_
      rintro e w6 ⟨rfl, rfl⟩
      go_wp2_with fail
      refine (num_any _ _).mono ?_
      rintro e w6 ⟨rfl, rfl⟩
      go_wp2_with fail
      refine (escape_any ⟨t.toArray⟩ _ (by rw [mk_size]; exact htl)).mono ?_
      rintro e w7 ⟨he, hB7⟩
      obtain rfl := he.trans (congrArg (fun s => Ending.returned (.string s)) HT.out)
      have hW7 := hW5.trans (hB7.mono hW5.size)
      clear he
      go_wp2_with fail
      go_ret
      exact ⟨rfl, hW7⟩

theorem ScriptOneWord_any (a b w0 : ByteArray) (w : World) (_ : a.size ≤ maxLen) (_ : b.size ≤ maxLen) (_ : w0.size ≤ maxLen) {B : Nat} (hE : Env B w) : Calls Tryd.prog 6 #[.string a, .string b, .string w0] w fun e w' => e = .returned (.bool true) ∧ Below w.heap.size w w' := by
  by_cases h : 2097152 < a.size ∨ 2097152 < b.size ∨ 2097152 < w0.size
  · exact one_long a b w0 w h hE
  · exact one_short a b w0 w (by omega) (by omega) (by omega) hE
end Go.Proofs.YtbpackopicngmaaDoor
