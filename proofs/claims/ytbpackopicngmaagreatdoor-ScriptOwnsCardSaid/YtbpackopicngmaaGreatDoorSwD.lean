/- Walks, part D: what the package-level variables hold; a step's word; a number. -/
import Derived.Test.YtbpackopicngmaaGreatDoorSwC
import Derived.Test.YtbpackopicngmaaGreatDoorScD
import Derived.Lib.LaidTab
import Derived.ShapedOpen
import Derived.ChangeAgain
import Derived.Lib.AppendIntMem
import Derived.Lib.ConvBytes
namespace Go.Proofs.YtbpackopicngmaaGreatDoor
open Go.RowKit Go.Proofs.Sc

/-- The table's cells: a word and its fields, a kind. -/
def stepCells : List Value := (kindWords.zip kindFields).flatMap fun p => [.string ⟨p.1.toArray⟩, .string ⟨p.2.toArray⟩]

/-- A package-level variable, in a block below B, holds cs. -/
def VarAt (B : Nat) (w : World) (n : String) (cs : Array Value) : Prop := w.var? Tryz.prog n = some cs ∧ ∀ g, Tryz.prog.globalNamed n = some g → g < B

theorem VarAt.keep {B : Nat} {w w' : World} {n : String} {cs : Array Value} (h : VarAt B w n cs) (hb : Below B w w') : VarAt B w' n cs := by
  obtain ⟨hv, hg⟩ := h
  refine ⟨?_, hg⟩
  unfold World.var? at hv ⊢
  cases e : Tryz.prog.globalNamed n with
  | none => rw [e] at hv; cases hv
  | some g =>
    rw [e] at hv
    simp only [Option.bind_some] at hv ⊢
    rw [hb.block g (hg g e)]; exact hv

/-- What the package-level variables hold; they lie below B. -/
structure Env (B : Nat) (w : World) : Prop where
  le : B ≤ w.heap.size
  maxLen : ∃ m : Int, VarAt B w "internal/bytealg.MaxLen" #[.int .i64 m]
  pow : VarAt B w "internal/strconv.uint64pow10" (Lib.pow10Tab.map fun z => Value.int .u64 z).toArray
  steps : VarAt B w "pith/script.steps" stepCells.toArray
  errS : ∃ tp p, VarAt B w "strconv.ErrSyntax" #[.iface tp p]
  errR : ∃ tp p, VarAt B w "strconv.ErrRange" #[.iface tp p]

theorem Env.belowB {B : Nat} {w w' : World} (h : Env B w) (hb : Below B w w') : Env B w' where
  le := Nat.le_trans h.le hb.size
  maxLen := let ⟨m, e⟩ := h.maxLen; ⟨m, e.keep hb⟩
  pow := h.pow.keep hb
  steps := h.steps.keep hb
  errS := let ⟨tp, p, e⟩ := h.errS; ⟨tp, p, e.keep hb⟩
  errR := let ⟨tp, p, e⟩ := h.errR; ⟨tp, p, e.keep hb⟩

theorem Env.below {B : Nat} {w w' : World} (h : Env B w) (hb : Below w.heap.size w w') : Env B w' := h.belowB (hb.mono h.le)

theorem Env.up {B B' : Nat} {w : World} (h : Env B w) (hB : B ≤ B') (hw : B' ≤ w.heap.size) : Env B' w where
  le := hw
  maxLen := let ⟨m, e⟩ := h.maxLen; ⟨m, e.1, fun g hg => Nat.lt_of_lt_of_le (e.2 g hg) hB⟩
  pow := ⟨h.pow.1, fun g hg => Nat.lt_of_lt_of_le (h.pow.2 g hg) hB⟩
  steps := ⟨h.steps.1, fun g hg => Nat.lt_of_lt_of_le (h.steps.2 g hg) hB⟩
  errS := let ⟨tp, p, e⟩ := h.errS; ⟨tp, p, e.1, fun g hg => Nat.lt_of_lt_of_le (e.2 g hg) hB⟩
  errR := let ⟨tp, p, e⟩ := h.errR; ⟨tp, p, e.1, fun g hg => Nat.lt_of_lt_of_le (e.2 g hg) hB⟩

theorem named_steps : Tryz.prog.globalNamed "pith/script.steps" = some 0 := by kernel_rfl
theorem named_maxLen : Tryz.prog.globalNamed "internal/bytealg.MaxLen" = some 1 := by kernel_rfl

theorem Env.cell {B : Nat} {w : World} (h : Env B w) (i : Nat) : w.cell? ⟨0, i, none⟩ = stepCells[i]? := by
  have := World.var?_cell named_steps h.steps.1 i
  simpa using this

theorem Env.lenCell {B : Nat} {w : World} (h : Env B w) : ∃ m : Int, w.cell? ⟨1, 0, none⟩ = some (.int .i64 m) := by
  obtain ⟨m, e, _⟩ := h.maxLen
  exact ⟨m, by have := World.var?_cell named_maxLen e 0; simpa using this⟩

theorem stepCells_fin : ∀ i : Fin 19, stepCells[i.val * 2]? = some (.string ⟨(kindWords.getD i.val []).toArray⟩) ∧ stepCells[i.val * 2 + 1]? = some (.string ⟨(kindFields.getD i.val []).toArray⟩) := by
  intro i
  match i with
  | ⟨0, _⟩ | ⟨1, _⟩ | ⟨2, _⟩ | ⟨3, _⟩ | ⟨4, _⟩ | ⟨5, _⟩ | ⟨6, _⟩ | ⟨7, _⟩ | ⟨8, _⟩ | ⟨9, _⟩ | ⟨10, _⟩ | ⟨11, _⟩ | ⟨12, _⟩ | ⟨13, _⟩ | ⟨14, _⟩ | ⟨15, _⟩ | ⟨16, _⟩ | ⟨17, _⟩ | ⟨18, _⟩ => exact ⟨rfl, rfl⟩
  | ⟨n + 19, h⟩ => exact absurd h (by omega)

theorem Env.word {B : Nat} {w : World} (h : Env B w) (k : Int) (hk : Sc.kindOk k) : w.cell? ⟨0, (k.toNat - 1) * 2, none⟩ = some (.string ⟨(wordOf k).toArray⟩) ∧ w.cell? ⟨0, (k.toNat - 1) * 2 + 1, none⟩ = some (.string ⟨(fieldsOf k).toArray⟩) := by
  unfold Sc.kindOk at hk
  have := stepCells_fin ⟨(k - 1).toNat, by omega⟩
  rw [show k.toNat - 1 = (k - 1).toNat by omega]
  rw [h.cell, h.cell]
  unfold wordOf fieldsOf
  rw [if_neg (by omega)]
  exact this

set_option maxHeartbeats 1000000 in
theorem Word_any (k : Int) (w : World) {B : Nat} (hE : Env B w) (h0 : -9223372036854775808 ≤ k) (h1 : k ≤ 9223372036854775807) :
    Calls Tryz.prog 21 #[.int .i64 k] w fun e w' => e = .returned (.string ⟨(wordOf k).toArray⟩) ∧ w = w' := by
  by_cases hk : Sc.kindOk k
  · obtain ⟨hc, _⟩ := hE.word k hk
    have k1 : decide (k < 1) = false := by simp; exact hk.1
    have k2 : decide (19 < k) = false := by simp; exact hk.2
    have k3 := hk.1
    have k4 := hk.2
    clear hE hk
    go_enter Tryz.func21, Tryz.ntmps21
    go_wp2
    go_ret
    exact ⟨rfl, rfl⟩
  · rw [wordOf_none hk]
    unfold Sc.kindOk at hk
    by_cases hlo : k < 1
    · have k1 : decide (k < 1) = true := by simpa using hlo
      go_enter Tryz.func21, Tryz.ntmps21
      go_wp2
      go_ret
      exact ⟨rfl, rfl⟩
    · have k1 : decide (k < 1) = false := by simpa using hlo
      have k2 : decide (19 < k) = true := by simp; omega
      go_enter Tryz.func21, Tryz.ntmps21
      go_wp2
      go_ret
      exact ⟨rfl, rfl⟩

theorem wordOf_len (k : Int) : (wordOf k).length ≤ 9 := by
  by_cases h : Sc.kindOk k
  · obtain ⟨i, rfl⟩ := wordOf_nat h
    have : ∀ i : Fin 19, (wordOf ((i.val : Int) + 1)).length ≤ 9 := by decide +kernel
    exact this i
  · rw [wordOf_none h]; simp

theorem kindFrom_succ (l : By) (n : Nat) (k : Int) : kindFrom l (n + 1) k = if wordOf k = l then k else kindFrom l n (k + 1) := rfl

set_option maxHeartbeats 1000000 in
theorem kindOf_any (s : ByteArray) (w : World) {B : Nat} (hE : Env B w) :
    Calls Tryz.prog 56 #[.string s] w fun e w' => e = .returned (.int .i64 (kindOf s.data.toList)) ∧ w = w' := by
  have HE := Lib.hid hE
  clear hE
  go_enter Tryz.func56, Tryz.ntmps56
  go_wp2_with fail
  go_loop [3] (fun v => ∃ k : Nat, 1 ≤ k ∧ k ≤ 20 ∧ v = .int .i64 (k : Int) ∧ Hid (kindOf s.data.toList = kindFrom s.data.toList (20 - k) k)) (fun v => 20 - (intOf v).toNat)
  case atStart => exact ⟨1, by omega, by omega, rfl, rfl⟩
  case round =>
    obtain ⟨k, h1, h2, rfl, hk⟩ := hrel
    by_cases hlt : k ≤ 19
    · by_cases he : wordOf (k : Int) = s.data.toList
      · have hb : (wordOf (k : Int) == s.toList) = true := by rw [Lib.toList_data, ← he]; simp
        have HR := Lib.hid (show kindOf s.data.toList = (k : Int) by rw [hk.out, show 20 - k = (19 - k) + 1 by omega, kindFrom_succ, if_pos he])
        clear he
        go_wp2_with fail
        refine (Word_any (k : Int) _ HE.out (by omega) (by omega)).mono ?_
        rintro e w1 ⟨rfl, rfl⟩
        go_wp2_with fail
        go_ret
        exact ⟨ret_int HR.out.symm, rfl⟩
      · have hb : (wordOf (k : Int) == s.toList) = false := by rw [Lib.toList_data]; simpa using he
        have HR := Lib.hid (show kindOf s.data.toList = kindFrom s.data.toList (20 - (k + 1)) ((k + 1 : Nat) : Int) by
          rw [hk.out, show 20 - k = (19 - k) + 1 by omega, kindFrom_succ, if_neg he, show 20 - (k + 1) = 19 - k by omega, Int.natCast_add]; rfl)
        clear he
        go_wp2_with fail
        refine (Word_any (k : Int) _ HE.out (by omega) (by omega)).mono ?_
        rintro e w1 ⟨rfl, rfl⟩
        go_wp2_with fail
        go_round
        case rel => exact ⟨k + 1, by omega, by omega, by go_num, HR⟩
        case measure => simp [intOf]; omega
    · obtain rfl : k = 20 := by omega
      have HR := Lib.hid (show kindOf s.data.toList = 0 by rw [hk.out]; rfl)
      go_wp2_with fail
      go_ret
      exact ⟨ret_int HR.out.symm, rfl⟩

theorem itoa_any (n : Int) (h0 : -9223372036854775808 ≤ n) (h1 : n ≤ 9223372036854775807) (w : World) {B : Nat} (hE : Env B w) :
    Calls Tryz.prog 34 #[.int .i64 n] w fun e w' => e = .returned (.string ⟨(Lib.itoa n).toArray⟩) ∧ Below w.heap.size w w' :=
  (Tryz.strconv_Itoa n h0 h1 w hE.pow.1).mono fun e w' ⟨h1, k, os, h2⟩ => ⟨h1, by rw [h2]; exact Lib.below_grow _ _ (Nat.le_refl _) _ _⟩

theorem bytes_below (w : World) (e : TypeId) (s : ByteArray) : Below w.heap.size w (Lib.bytesWorld w e s) :=
  ⟨rfl, rfl, rfl, by rw [Lib.bytesWorld_size]; omega, fun i hi => Lib.bytesWorld_at_old w e s i (by omega)⟩

theorem atoi_ok (s : ByteArray) (hs : s.size ≤ 33554432) (v : Int) (h : Lib.atoiAll s.data.toList = .ok v) (w : World) :
    Calls Tryz.prog 143 #[.string s] w fun e w' => e = .returned (.tuple #[.int .i64 v, .nilIface]) ∧ Below w.heap.size w w' :=
  (Tryz.strconv_Atoi_ok s (by omega) v h w).mono fun e w' ⟨h1, h2⟩ => ⟨h1, by
    rcases h2 with rfl | ⟨t, rfl⟩
    · exact Below.refl _ _
    · exact bytes_below _ _ _⟩

def IsErr (v : Value) : Prop := ∃ t a, v = .iface t (.pointer (some a))

theorem atoi_bad (s : ByteArray) (hs : s.size ≤ 33554432) (h : ∀ v, Lib.atoiAll s.data.toList ≠ .ok v) (w : World) {B : Nat} (hE : Env B w) :
    Calls Tryz.prog 143 #[.string s] w fun e w' => ∃ v t a, e = .returned (.tuple #[.int .i64 v, .iface t (.pointer (some a))]) ∧ -9223372036854775808 ≤ v ∧ v ≤ 9223372036854775807 ∧ Below w.heap.size w w' := by
  obtain ⟨tp, p, e1⟩ := hE.errS
  obtain ⟨tq, q, e2⟩ := hE.errR
  match hh : Lib.atoiAll s.data.toList with
  | .ok v => exact absurd hh (h v)
  | Lib.NumEnd.syntax => exact (Tryz.strconv_Atoi_syntax_var s (by omega) hh tp p w e1.1).mono fun e w' ⟨N, h1, _, _, h2⟩ => ⟨_, _, _, h1, by omega, by omega, h2⟩
  | .range => exact (Tryz.strconv_Atoi_range_var s (by omega) hh tq q w e2.1).mono fun e w' ⟨N, h1, _, _, h2⟩ => ⟨_, _, _, h1, (Lib.atoiSat_bounds _).1, (Lib.atoiSat_bounds _).2, h2⟩

set_option maxHeartbeats 2000000 in
theorem number_bad (s : ByteArray) (hs : s.size ≤ 33554432) (h : numR s.data.toList = none) (w : World) {B : Nat} (hE : Env B w) :
    Calls Tryz.prog 55 #[.string s] w fun e w' => (∃ v, e = .returned (.tuple #[.int .i64 v, .bool false])) ∧ Below w.heap.size w w' := by
  rw [← numP_eq] at h
  by_cases hok : ∃ v, Lib.atoiAll s.data.toList = .ok v
  · obtain ⟨v, hv⟩ := hok
    obtain ⟨b0, b1⟩ := Lib.atoiAll_bounds hv
    have hA := Lib.hid hv
    have hn : ¬ (bounded v ∧ Lib.itoa v = s.data.toList) := by
      intro hc; unfold numP at h; rw [hv] at h; simp only [hc, and_self, if_true] at h; cases h
    clear hv h
    have HE := Lib.hid hE
    clear hE
    by_cases h1 : (-2147483647 : Int) ≤ v
    · by_cases h2 : v ≤ 2147483647
      · have hne : (Lib.itoa v == s.toList) = false := by
          rw [Lib.toList_data]; simp; intro e; exact hn ⟨⟨h1, h2⟩, e⟩
        have k1 : decide ((-2147483647 : Int) ≤ v) = true := by simpa using h1
        have k2 : decide (v ≤ 2147483647) = true := by simpa using h2
        clear hn h1 h2
        go_enter Tryz.func55, Tryz.ntmps55
        go_wp2_with fail
        refine (atoi_ok s hs v hA.out _).mono ?_
        rintro e w1 ⟨rfl, hw1⟩
        go_wp2_with fail
        refine (itoa_any v b0 b1 _ (HE.out.below hw1)).mono ?_
        rintro e w2 ⟨rfl, hw2⟩
        go_wp2_with fail
        go_ret2
        exact ⟨⟨_, rfl⟩, hw1.trans (hw2.mono hw1.size)⟩
      · have k1 : decide ((-2147483647 : Int) ≤ v) = true := by simpa using h1
        have k2 : decide (v ≤ 2147483647) = false := by simp; omega
        clear hn h1 h2
        go_enter Tryz.func55, Tryz.ntmps55
        go_wp2_with fail
        refine (atoi_ok s hs v hA.out _).mono ?_
        rintro e w1 ⟨rfl, hw1⟩
        go_wp2_with fail
        go_ret2
        exact ⟨⟨_, rfl⟩, hw1⟩
    · have k1 : decide ((-2147483647 : Int) ≤ v) = false := by simp; omega
      clear hn h1
      go_enter Tryz.func55, Tryz.ntmps55
      go_wp2_with fail
      refine (atoi_ok s hs v hA.out _).mono ?_
      rintro e w1 ⟨rfl, hw1⟩
      go_wp2_with fail
      go_ret2
      exact ⟨⟨_, rfl⟩, hw1⟩
  · have hA := Lib.hid (show ∀ v, Lib.atoiAll s.data.toList ≠ .ok v from fun v e => hok ⟨v, e⟩)
    clear hok h
    have HE := Lib.hid hE
    clear hE
    go_enter Tryz.func55, Tryz.ntmps55
    go_wp2_with fail
    refine (atoi_bad s hs hA.out _ HE.out).mono ?_
    rintro e w1 ⟨v, t, a, rfl, v0, v1, hw1⟩
    go_wp2_with fail
    go_ret2
    exact ⟨⟨_, rfl⟩, hw1⟩

set_option maxHeartbeats 2000000 in
theorem number_ok (s : ByteArray) (hs : s.size ≤ 33554432) (v : Int) (h : numR s.data.toList = some v) (w : World) {B : Nat} (hE : Env B w) :
    Calls Tryz.prog 55 #[.string s] w fun e w' => e = .returned (.tuple #[.int .i64 v, .bool true]) ∧ Below w.heap.size w w' := by
  obtain ⟨hv, hb⟩ := numR_iff.1 h
  have hA := Lib.hid (show Lib.atoiAll s.data.toList = .ok v by rw [← hv]; exact atoiAll_itoa hb)
  have hne : (Lib.itoa v == s.toList) = true := by rw [Lib.toList_data, hv]; simp
  unfold bounded at hb
  have k1 : decide ((-2147483647 : Int) ≤ v) = true := by simpa using hb.1
  have k2 : decide (v ≤ 2147483647) = true := by simpa using hb.2
  have b0 := hb.1
  have b1 := hb.2
  clear hv h hb
  have HE := Lib.hid hE
  clear hE
  go_enter Tryz.func55, Tryz.ntmps55
  go_wp2_with fail
  refine (atoi_ok s hs v hA.out _).mono ?_
  rintro e w1 ⟨rfl, hw1⟩
  go_wp2_with fail
  refine (itoa_any v (by omega) (by omega) _ (HE.out.below hw1)).mono ?_
  rintro e w2 ⟨rfl, hw2⟩
  go_wp2_with fail
  go_ret2
  exact ⟨rfl, hw1.trans (hw2.mono hw1.size)⟩
end Go.Proofs.YtbpackopicngmaaGreatDoor
