/- Walks, part F: a line's words, the first line, a step. -/
import Derived.Test.YtbpackopicngmaaGreatDoorSwE
import Derived.Test.YtbpackopicngmaaGreatDoorScE
namespace Go.Proofs.YtbpackopicngmaaGreatDoor
open Go.RowKit Go.Proofs.Sc Go.Proofs.YtbpackopicngmaaGreatDoorW.PrintWords

/-- A slice of words that is read: it lies below B. -/
def Words (B : Nat) (w : World) (v : Value) (ws : List By) : Prop :=
  ∃ g c, v = .slice (some ⟨g, 0, none⟩) ws.length c ∧ g < B ∧ ws.length ≤ c ∧ c ≤ 9223372036854775807 ∧ ∀ (j : Nat) x, ws[j]? = some x → w.cell? ⟨g, j, none⟩ = some (.string ⟨x.toArray⟩)

theorem Words.keep {B : Nat} {w w' : World} {v : Value} {ws : List By} (h : Words B w v ws) (hb : Below B w w') : Words B w' v ws := by
  obtain ⟨g, c, h1, h2, h3, h4, h5⟩ := h
  exact ⟨g, c, h1, h2, h3, h4, fun j x hx => (hb.cell (p := ⟨g, j, none⟩) h2).trans (h5 j x hx)⟩

theorem blank_any (x : Nat) (w : World) : Calls Tryz.prog 54 #[.int .i32 x] w fun e w' => e = .returned (.bool (blankR x)) ∧ w' = w := by
  by_cases h1 : x = 32
  · subst h1
    go_enter Tryz.func54, Tryz.ntmps54
    go_wp2
    go_ret
    exact ⟨rfl, rfl⟩
  · have g1 : ((x : Int) == 32) = false := by rw [beq_eq_false_iff_ne]; omega
    by_cases h2 : x = 9
    · subst h2
      go_enter Tryz.func54, Tryz.ntmps54
      go_wp2
      go_ret
      exact ⟨rfl, rfl⟩
    · have g2 : ((x : Int) == 9) = false := by rw [beq_eq_false_iff_ne]; omega
      have hr : blankR x = false := by unfold blankR; simp [h1, h2]
      rw [hr]
      go_enter Tryz.func54, Tryz.ntmps54
      go_wp2
      go_ret
      exact ⟨rfl, rfl⟩

theorem blank_pred (w : World) : PredAt Tryz.prog 54 #[] encR blankR w := by
  intro W x _
  exact (blank_any x W).mono fun e w' ⟨h1, h2⟩ => ⟨h1, 0, h2⟩

theorem enters_blank : ∀ args w, (callFunc 54 args).run Tryz.prog w = .ok (.enter 54 args) w := enters_of Tryz.func54 (by kernel_rfl) rfl

theorem lib_fields (s : ByteArray) (hs : s.size ≤ 33554432) (hno : ∀ c ∈ s.data.toList, c ≠ 35) (w : World) :
    Calls Tryz.prog 53 #[.string s, .func (.func 54) #[] #[]] w fun e w' => (∃ v, e = .returned v ∧ Words w'.heap.size w' v (wordsOf s.data.toList)) ∧ Below w.heap.size w w' := by
  refine (Tryz.strings_FieldsFunc 54 #[] enters_blank blankR s w (by omega) (blank_pred w)).mono ?_
  rintro e w' ⟨A, he, hA, hown, hb⟩
  refine ⟨⟨_, he, ?_⟩, hb⟩
  have hf := fields_eq s hno
  have hlen : (Lib.goFieldsP blankR s).length = (wordsOf s.data.toList).length := by rw [← hf, List.length_map]
  have hlt : A < w'.heap.size := own_lt hown A rfl
  have hmx : (Lib.goFieldsP blankR s).length ≤ 33554433 := by
    rw [hlen]; have := words_count s.data.toList []; rw [← size_list] at this; unfold wordsOf; omega
  rw [hlen]
  refine ⟨A, (wordsOf s.data.toList).length, rfl, hlt, Nat.le_refl _, by rw [← hlen]; omega, fun j x hx => ?_⟩
  have hc := hown.cells (g := A) rfl j (.string ⟨x.toArray⟩) (by
    rw [← hf, List.getElem?_map] at hx
    rw [List.getElem?_map]
    cases hg : (Lib.goFieldsP blankR s)[j]? with
    | none => rw [hg] at hx; cases hx
    | some y => rw [hg] at hx; cases hx; simp)
  rwa [add_plain] at hc

set_option maxHeartbeats 1000000 in
theorem words_any (s : ByteArray) (hs : s.size ≤ 33554432) (w : World) {B : Nat} (hE : Env B w) :
    Calls Tryz.prog 23 #[.string s] w fun e w' => (∃ v, e = .returned v ∧ Words w'.heap.size w' v (wordsOf s.data.toList)) ∧ Below w.heap.size w w' := by
  obtain ⟨m, hm⟩ := hE.lenCell
  have HM := Lib.hid hm
  clear hm hE
  have hcl : (Lib.cut s.data.toList [35]).1.length ≤ s.size := by rw [cut_one, size_list]; exact (List.takeWhile_prefix _).length_le
  have HF := Lib.hid (show wordsOf (Lib.cut s.data.toList [35]).1 = wordsOf s.data.toList from words_cut _)
  have HN := Lib.hid (show ∀ c ∈ (Lib.cut s.data.toList [35]).1, c ≠ 35 by rw [cut_one]; exact tw_no _ _)
  go_enter Tryz.func23, Tryz.ntmps23
  go_wp2_with fail
  refine (Tryz.strings_Cut s ⟨#[35]⟩ m _ (by omega) HM.out).mono ?_
  rintro e w1 ⟨rfl, n, rfl⟩
  go_wp2_with fail
  refine (lib_fields ⟨(Lib.cut s.data.toList [35]).1.toArray⟩ (by rw [mk_size]; omega) HN.out _).mono ?_
  rintro e w2 ⟨⟨v, rfl, hw⟩, hb⟩
  obtain ⟨g, c, rfl, hr⟩ := hw
  go_wp2_with fail
  go_ret
  refine ⟨⟨_, rfl, ?_⟩, (below_drewN _ _).trans hb⟩
  rw [← HF.out]
  exact ⟨g, c, rfl, hr⟩

def headRes (ws : List By) : Value := match headOf ws with | .ok n => .tuple #[.int .i64 n, .int .i64 0] | .error c => .tuple #[.int .i64 0, .int .i64 c]

set_option maxHeartbeats 1000000 in
theorem first_any (ws : List By) (hne : ws ≠ []) (hsz : ∀ x ∈ ws, x.length ≤ 33554432) (v : Value) (w : World) {B B' : Nat} (hE : Env B w) (hv : Words B' w v ws) :
    Calls Tryz.prog 24 #[v] w fun e w' => e = .returned (headRes ws) ∧ Below w.heap.size w w' := by
  obtain ⟨g, c, rfl, hg, hc1, hc2, hcell⟩ := hv
  match ws, hne with
  | x :: r, _ =>
    have c0 := hcell 0 x rfl
    have hx := hsz x (by simp)
    obtain ⟨n, hn⟩ : ∃ n, n = (x :: r).length := ⟨_, rfl⟩
    rw [← hn] at hc1 ⊢
    have hn1 : 1 ≤ n := by rw [hn]; simp
    have HN := Lib.hid hn
    have HC := Lib.hid hcell
    have HS := Lib.hid hsz
    clear hn hcell hsz
    have n1 : (0 : Int) < (n : Int) := by omega
    by_cases hh : x = headWord
    · have k1 : (x == [112, 105, 116, 104]) = true := by rw [hh]; rfl
      have HH := Lib.hid hh
      clear hh
      by_cases h2 : n = 2
      · obtain ⟨y, rfl⟩ : ∃ y, r = [y] := by
          have := HN.out
          match r with
          | [] => simp at this; omega
          | [y] => exact ⟨y, rfl⟩
          | _ :: _ :: _ => simp at this; omega
        subst h2
        have c1 := HC.out 1 y rfl
        have hy := HS.out y (by simp)
        cases hm : numR y with
        | none =>
          have HR := Lib.hid (show headRes [x, y] = .tuple #[.int .i64 0, .int .i64 262] by simp [headRes, headOf, HH.out, hm])
          have HM := Lib.hid hm
          clear hm
          go_enter Tryz.func24, Tryz.ntmps24
          go_wp2_with fail
          refine (number_bad ⟨y.toArray⟩ (by rw [mk_size]; exact hy) HM.out _ hE).mono ?_
          rintro e w1 ⟨⟨v, rfl⟩, hw1⟩
          go_wp2_with fail
          go_ret2
          exact ⟨ret_val HR.out.symm, hw1⟩
        | some m =>
          have HR := Lib.hid (show headRes [x, y] = .tuple #[.int .i64 m, .int .i64 0] by simp [headRes, headOf, HH.out, hm])
          have HM := Lib.hid hm
          clear hm
          go_enter Tryz.func24, Tryz.ntmps24
          go_wp2_with fail
          refine (number_ok ⟨y.toArray⟩ (by rw [mk_size]; exact hy) m HM.out _ hE).mono ?_
          rintro e w1 ⟨rfl, hw1⟩
          go_wp2_with fail
          go_ret2
          exact ⟨ret_val HR.out.symm, hw1⟩
      · have k2 : ((n : Int) != 2) = true := by rw [bne_iff_ne]; omega
        have HR := Lib.hid (show headRes (x :: r) = .tuple #[.int .i64 0, .int .i64 263] by
          have := HN.out
          match r with
          | [] => simp [headRes, headOf, HH.out]
          | [y] => simp at this; omega
          | _ :: _ :: _ => simp [headRes, headOf, HH.out])
        clear h2
        go_enter Tryz.func24, Tryz.ntmps24
        go_wp2_with fail
        go_ret2
        exact ⟨ret_val HR.out.symm, Below.refl _ _⟩
    · have k1 : (x == [112, 105, 116, 104]) = false := by rw [beq_eq_false_iff_ne]; exact hh
      have HR := Lib.hid (show headRes (x :: r) = .tuple #[.int .i64 0, .int .i64 260] by simp [headRes, headOf, hh])
      clear hh
      go_enter Tryz.func24, Tryz.ntmps24
      go_wp2_with fail
      go_ret2
      exact ⟨ret_val HR.out.symm, Below.refl _ _⟩
end Go.Proofs.YtbpackopicngmaaGreatDoor
