/- ScriptNoise's walk (begun). -/
import Derived.Test.YtbpackopicngmaaDoorLwNoP
import Derived.Test.YtbpackopicngmaaDoorLwFa
namespace Go.Proofs.YtbpackopicngmaaDoor
open Go.RowKit Go.Proofs.Sc Go.Proofs.YtbpackopicngmaaDoorW.PrintWords

def kNs : Kd (Int × Int) := Kd.pair (Kd.int .i64) (Kd.int .i64)

theorem at_ns {w : World} {A : Option Addr} {n : Nat} {ns : List (Int × Int)} (h : kNs.C w A n ns) (i : Nat) (x : Int × Int) (hx : ns[i]? = some x) :
    ∃ ad, A = some ad ∧ w.cell? (ad.add (i * 2)) = some (.int .i64 x.1) ∧ w.cell? ⟨(ad.add (i * 2)).block, (ad.add (i * 2)).off + 1, none⟩ = some (.int .i64 x.2) := by
  have hlt : i < n := by rw [← h.1]; exact (List.getElem?_eq_some_iff.1 hx).1
  obtain ⟨ad, c, e, _, hK, hc0⟩ := Kd.C_get h (0, 0) (i : Int) (by omega) (by omega)
  have hrd : ns.getD (i : Int).toNat (0, 0) = x := by simp [hx]
  rw [hrd] at hK
  rw [Int.toNat_natCast] at hc0
  have hc : ∀ j u, c[j]? = some u → w.cell? (ad.add (i * 2 + j)) = some u := hc0
  obtain ⟨_, _, rfl, rfl, rfl⟩ := hK
  exact ⟨ad, e, hc 0 _ rfl, by rw [← add_field _ _ 1 (by omega)]; exact hc 1 _ rfl⟩

/-- How many noises are laid ahead of the lines before i. -/
def cntLt (ns : List (Int × Int)) (i : Nat) : Nat := (ns.filter fun x => decide (0 ≤ x.1) && decide (x.1 < (i : Int))).length
/-- How many of the first k are laid ahead of line i. -/
def cntEq (ns : List (Int × Int)) (i k : Nat) : Nat := ((ns.take k).filter fun x => x.1 == (i : Int)).length

theorem cnt_step : ∀ (ns : List (Int × Int)) (i : Nat), cntLt ns (i + 1) = cntLt ns i + (ns.filter fun x => x.1 == (i : Int)).length
  | [], i => rfl
  | x :: ns, i => by
    have ih := cnt_step ns i
    unfold cntLt at ih ⊢
    by_cases h1 : x.1 = (i : Int)
    · have a1 : (decide (0 ≤ x.1) && decide (x.1 < ((i + 1 : Nat) : Int))) = true := by rw [h1]; simp; omega
      have a2 : (decide (0 ≤ x.1) && decide (x.1 < (i : Int))) = false := by rw [h1]; simp
      have a3 : (x.1 == (i : Int)) = true := by rw [h1]; simp
      simp only [List.filter_cons, a1, a2, a3, if_true, List.length_cons, Bool.false_eq_true, if_false]; omega
    · have a3 : (x.1 == (i : Int)) = false := by rw [beq_eq_false_iff_ne]; exact h1
      by_cases h2 : 0 ≤ x.1 ∧ x.1 < (i : Int)
      · have a1 : (decide (0 ≤ x.1) && decide (x.1 < ((i + 1 : Nat) : Int))) = true := by simp; omega
        have a2 : (decide (0 ≤ x.1) && decide (x.1 < (i : Int))) = true := by simp; omega
        simp only [List.filter_cons, a1, a2, a3, if_true, List.length_cons, Bool.false_eq_true, if_false]; omega
      · have a1 : (decide (0 ≤ x.1) && decide (x.1 < ((i + 1 : Nat) : Int))) = false := by simp; omega
        have a2 : (decide (0 ≤ x.1) && decide (x.1 < (i : Int))) = false := by simp; omega
        simp only [List.filter_cons, a1, a2, a3, Bool.false_eq_true, if_false]; omega

theorem cntLt_le (ns : List (Int × Int)) (i : Nat) : cntLt ns i ≤ ns.length := List.length_filter_le _ _
theorem cntEq_all (ns : List (Int × Int)) (i : Nat) : cntEq ns i ns.length = (ns.filter fun x => x.1 == (i : Int)).length := by unfold cntEq; rw [List.take_length]
theorem cntEq_le (ns : List (Int × Int)) (i k : Nat) : cntEq ns i k ≤ (ns.filter fun x => x.1 == (i : Int)).length := ((List.take_sublist k ns).filter _).length_le
theorem cntEq_step (ns : List (Int × Int)) (i k : Nat) (x : Int × Int) (hx : ns[k]? = some x) : cntEq ns i (k + 1) = cntEq ns i k + if x.1 = (i : Int) then 1 else 0 := by
  unfold cntEq
  rw [List.take_add_one, hx, List.filter_append, List.length_append]
  by_cases h : x.1 = (i : Int)
  · simp [h]
  · simp [h]

def nats (l : List Nat) : List Int := l.map fun n : Nat => (n : Int)

/-- What stands while the text with noise is made. -/
structure NB (w3 : World) (ls D : List By) (cur : By) (at_ : List Nat) (v7 v8 : Value) (wr : World) : Prop where
  row : Row8 w3 wr v7 (textOf D ++ cur)
  ats : wr.ownsRow w3.heap.size 3 1 v8 (nats at_).length (nums .i64 (nats at_))
  below : Below w3.heap.size w3 wr
  no10 : ∀ l ∈ D, ∀ c ∈ l, c ≠ 10
  noisy : Noisy ls D at_
  blank : ∀ c ∈ cur, isBlank c

theorem two_rows {w3 wr : World} {v7 v8 : Value} {l : By} {n : Nat} {xs : List Value} (h7 : Row8 w3 wr v7 l) (h8 : wr.ownsRow w3.heap.size 3 1 v8 n xs) : ∀ k, v8.ownBlock = some k → v7.ownBlock ≠ some k := by
  intro k hk e
  obtain ⟨c8, h8'⟩ := own_typed h8 k hk
  obtain ⟨c7, h7'⟩ := own_typed h7 k e
  rw [h8'] at h7'
  cases h7'

section
variable {w3 wr w1 : World} {ls D : List By} {cur : By} {at_ : List Nat} {v7 v8 v1 : Value}
theorem NB.kept (h : NB w3 ls D cur at_ v7 v8 wr) (hg : wr.grownBy w1 v7.ownBlock) : w1.ownsRow w3.heap.size 3 1 v8 (nats at_).length (nums .i64 (nats at_)) := by
  refine h.ats.kept hg ?_
  cases hk : v8.ownBlock with
  | none => exact Or.inl rfl
  | some k => exact Or.inr (fun e => two_rows h.row h.ats k hk e.symm)

/-- A line of noise is laid: its newline byte is behind it. -/
theorem NB.noise (h : NB w3 ls D cur at_ v7 v8 wr) (hg : wr.grownBy w1 v7.ownBlock) (hr : Row8 w3 w1 v1 (textOf D ++ cur ++ (noiseLine ++ [10]))) (hb : Below w3.heap.size w3 w1) : NB w3 ls (D ++ [cur ++ noiseLine]) [] at_ v1 v8 w1 := by
  have e : textOf D ++ cur ++ (noiseLine ++ [10]) = textOf (D ++ [cur ++ noiseLine]) ++ [] := by rw [textOf_append]; simp [textOf]
  refine ⟨by rw [← e]; exact hr, h.kept hg, hb, ?_, .blank h.noisy (words_noise cur h.blank), by simp⟩
  intro l hl c hc
  rcases List.mem_append.1 hl with hl | hl
  · exact h.no10 l hl c hc
  · rw [List.mem_singleton.1 hl] at hc
    rcases List.mem_append.1 hc with hc | hc
    · rcases h.blank c hc with rfl | rfl <;> decide
    · exact (show ∀ c ∈ noiseLine, c ≠ 10 by decide) c hc

/-- A blank more. -/
theorem NB.more (h : NB w3 ls D cur at_ v7 v8 wr) (hg : wr.grownBy w1 v7.ownBlock) {c : UInt8} (hc : isBlank c) (hr : Row8 w3 w1 v1 (textOf D ++ cur ++ [c])) (hb : Below w3.heap.size w3 w1) : NB w3 ls D (cur ++ [c]) at_ v1 v8 w1 := by
  refine ⟨by rw [← List.append_assoc]; exact hr, h.kept hg, hb, h.no10, h.noisy, ?_⟩
  intro x hx
  rcases List.mem_append.1 hx with hx | hx
  · exact h.blank x hx
  · rw [List.mem_singleton.1 hx]; exact hc

/-- The line itself, with a remark behind it. -/
theorem NB.line (h : NB w3 ls D cur at_ v7 v8 wr) {x : By} (hx : ∀ c ∈ x, c ≠ 10) {w2 : World} {v1 v2 : Value} (hr : Row8 w3 w2 v1 (textOf D ++ cur ++ x ++ [9, 32, 35, 32, 115, 111, 10])) (ha : w2.ownsRow w3.heap.size 3 1 v2 (nats (at_ ++ [D.length + 1])).length (nums .i64 (nats (at_ ++ [D.length + 1])))) (hb : Below w3.heap.size w3 w2) :
    NB w3 (ls ++ [x]) (D ++ [cur ++ (x ++ [9, 32, 35, 32, 115, 111])]) [] (at_ ++ [D.length + 1]) v1 v2 w2 := by
  have e : textOf D ++ cur ++ x ++ [9, 32, 35, 32, 115, 111, 10] = textOf (D ++ [cur ++ (x ++ [9, 32, 35, 32, 115, 111])]) ++ [] := by rw [textOf_append]; simp [textOf]
  refine ⟨by rw [← e]; exact hr, ha, hb, ?_, .line h.noisy ?_, by simp⟩
  · intro l hl c hc
    rcases List.mem_append.1 hl with hl | hl
    · exact h.no10 l hl c hc
    · rw [List.mem_singleton.1 hl] at hc
      rcases List.mem_append.1 hc with hc | hc
      · rcases h.blank c hc with rfl | rfl <;> decide
      · rcases List.mem_append.1 hc with hc | hc
        · exact hx c hc
        · exact (show ∀ c ∈ ([9, 32, 35, 32, 115, 111] : By), c ≠ 10 by decide) c hc
  · rw [words_blanks cur _ h.blank, words_remark]
end
/-! ### the walk -/

theorem noise_both {t : By} {D : List By} {at_ : List Nat} (h : Noisy (goLines t) D at_) (hD : ∀ l ∈ D, ∀ c ∈ l, c ≠ 10) (ht : t.length ≤ 1048576) (hs : (textOf D).length ≤ 1048576) :
    ∃ (s : PScript) (x y c : Int), parse t = (s, x, c) ∧ parse (textOf D) = (s, y, c) ∧ ((x = 0 ∧ y = 0) ∨ ∃ q p yn : Nat, p = q + 1 ∧ x = (p : Int) ∧ at_[q]? = some yn ∧ y = (yn : Int)) := by
  rcases noise_parse h hD ht hs with ⟨s, c, h1, h2⟩ | ⟨n, y, e, h1, h2, h3⟩
  · exact ⟨s, 0, 0, c, h1, h2, Or.inl ⟨rfl, rfl⟩⟩
  · exact ⟨.zero, (n : Int) + 1, (y : Int), e, h1, h3, Or.inr ⟨n, n + 1, y, rfl, by omega, h2, rfl⟩⟩

theorem textOf_count : ∀ D : List By, D.length ≤ (textOf D).length
  | [] => Nat.zero_le _
  | l :: D => by
    have := textOf_count D
    have e : textOf (l :: D) = l ++ [10] ++ textOf D := by simp [textOf]
    rw [e]; simp; omega

/-- The sizes: line i is at hand, k noises are looked at, j bytes of the present one laid. -/
def Sz (ns : List (Int × Int)) (GL D : List By) (cur : By) (i k j : Nat) : Prop :=
  (textOf D ++ cur).length ≤ (textOf (GL.take i)).length + 7 * i + 32 * (cntLt ns i + cntEq ns i k) + j

theorem Sz.le {ns : List (Int × Int)} {GL D : List By} {cur : By} {i k j : Nat} (h : Sz ns GL D cur i k j) (hn : ns.length ≤ 60) (hi : i ≤ 60001) (hj : j ≤ 32) (ht : (textOf (GL.take i)).length ≤ 60001) : (textOf D ++ cur).length ≤ 500000 ∧ D.length ≤ 500000 := by
  unfold Sz at h
  have h1 := cntEq_le ns i k
  have h2 := cnt_step ns i
  have h3 := cntLt_le ns (i + 1)
  have h4 := textOf_count D
  rw [List.length_append] at h ⊢
  omega
/-- Steps of the counts. -/
theorem Sz.skip {ns : List (Int × Int)} {GL D : List By} {cur : By} {i k : Nat} {y : Int × Int} (h : Sz ns GL D cur i k 0) (hy : ns[k]? = some y) (hne : y.1 ≠ (i : Int)) : Sz ns GL D cur i (k + 1) 0 := by
  unfold Sz at h ⊢; rw [cntEq_step ns i k y hy, if_neg hne]; omega
theorem Sz.noise {ns : List (Int × Int)} {GL D : List By} {cur : By} {i k : Nat} (h : Sz ns GL D cur i k 0) : Sz ns GL (D ++ [cur ++ noiseLine]) [] i k 12 := by
  unfold Sz at h ⊢
  rw [textOf_append, List.append_nil, List.length_append]
  rw [List.length_append] at h
  have : (textOf [cur ++ noiseLine]).length = cur.length + 12 := by simp [textOf, noiseLine]
  omega
theorem Sz.more {ns : List (Int × Int)} {GL D : List By} {cur : By} {i k j : Nat} {c : UInt8} (h : Sz ns GL D cur i k j) : Sz ns GL D (cur ++ [c]) i k (j + 1) := by
  unfold Sz at h ⊢
  rw [List.length_append, List.length_append, List.length_singleton]
  rw [List.length_append] at h
  omega
theorem Sz.done {ns : List (Int × Int)} {GL D : List By} {cur : By} {i k j : Nat} {y : Int × Int} (h : Sz ns GL D cur i k j) (hy : ns[k]? = some y) (he : y.1 = (i : Int)) (hj : j ≤ 32) : Sz ns GL D cur i (k + 1) 0 := by
  unfold Sz at h ⊢; rw [cntEq_step ns i k y hy, if_pos he]; omega
theorem Sz.line {ns : List (Int × Int)} {GL D : List By} {cur x : By} {i : Nat} (h : Sz ns GL D cur i ns.length 0) (hx : GL[i]? = some x) : Sz ns GL (D ++ [cur ++ (x ++ [9, 32, 35, 32, 115, 111])]) [] (i + 1) 0 0 := by
  unfold Sz at h ⊢
  rw [cntEq_all] at h
  rw [cnt_step, List.take_add_one, hx, textOf_append, textOf_append, List.append_nil, List.length_append, List.length_append]
  rw [List.length_append] at h
  have e1 : (textOf [cur ++ (x ++ [9, 32, 35, 32, 115, 111])]).length = cur.length + x.length + 7 := by simp [textOf]; omega
  have e2 : (textOf (some x).toList).length = x.length + 1 := by simp [textOf]
  omega

theorem row_data {w w1 : World} {v1 : Value} {l : By} {s : ByteArray} {x : By} (hs : s = ⟨x.toArray⟩) (hown : w1.ownsRow w.heap.size 5 1 v1 ((ints l).length + (bytesOf s).length) (nums .u8 (ints l ++ bytesOf s))) : Row8 w w1 v1 (l ++ x) := by
  subst hs; exact row_str hown

theorem two_rows' {w3 wr : World} {v7 v8 : Value} {l : By} {n : Nat} {xs : List Value} (h7 : Row8 w3 wr v7 l) (h8 : wr.ownsRow w3.heap.size 3 1 v8 n xs) : ∀ k, v7.ownBlock = some k → v8.ownBlock ≠ some k :=
  fun k hk e => two_rows h7 h8 k e hk

theorem row_kept {w3 wr w1 : World} {v7 v8 : Value} {l : By} {n : Nat} {xs : List Value} (h7 : Row8 w3 wr v7 l) (h8 : wr.ownsRow w3.heap.size 3 1 v8 n xs) (hg : wr.grownBy w1 v8.ownBlock) : Row8 w3 w1 v7 l := by
  refine World.ownsRow.kept h7 hg ?_
  cases hk : v7.ownBlock with
  | none => exact Or.inl rfl
  | some k => exact Or.inr (fun e => two_rows' h7 h8 k hk e.symm)

theorem nats_append (l : List Nat) (n : Nat) : nats (l ++ [n]) = nats l ++ [(n : Int)] := by simp [nats]
theorem nats_len (l : List Nat) : (nats l).length = l.length := by simp [nats]

theorem ats_push {w3 w1 : World} {v : Value} {at_ : List Nat} {n : Nat} (h : w1.ownsRow w3.heap.size 3 1 v ((nats at_).length + 1) (nums .i64 (nats at_ ++ [(n : Int)]))) : w1.ownsRow w3.heap.size 3 1 v (nats (at_ ++ [n])).length (nums .i64 (nats (at_ ++ [n]))) := by
  rw [nats_append, List.length_append, List.length_singleton]; exact h

theorem NB.start (w3 : World) (GL : List By) : NB w3 (GL.take 0) [] [] [] (.slice none 0 0) (.slice none 0 0) w3 :=
  ⟨row8_nil _ _, own_nil _ _ _ _, Below.refl _ _, by simp, by rw [List.take_zero]; exact .nil, by simp⟩
theorem Sz.start (ns : List (Int × Int)) (GL : List By) : Sz ns GL [] [] 0 0 0 := by unfold Sz; simp [textOf]

theorem ats_kept {w3 wr w1 : World} {v7 v8 : Value} {l : By} {n : Nat} {xs : List Value} (h7 : Row8 w3 wr v7 l) (h8 : wr.ownsRow w3.heap.size 3 1 v8 n xs) (hg : wr.grownBy w1 v7.ownBlock) : w1.ownsRow w3.heap.size 3 1 v8 n xs := by
  refine World.ownsRow.kept h8 hg ?_
  cases hk : v8.ownBlock with
  | none => exact Or.inl rfl
  | some k => exact Or.inr (fun e => two_rows h7 h8 k hk e.symm)

set_option maxHeartbeats 8000000 in
set_option maxRecDepth 100000 in
theorem noise_short (t : ByteArray) (A0 : Option Addr) (n c0 : Nat) (ns : List (Int × Int)) (w : World) (hC : kNs.C w A0 n ns) (ht : t.size ≤ 60000) (hn : n ≤ 60) {B : Nat} (hE : Env B w) : Calls Tryd.prog 8 #[.string t, .slice A0 n c0] w fun e w' => e = .returned (.bool true) ∧ Below w.heap.size w w' := by
  have hEW : Env w.heap.size w := hE.up hE.le (Nat.le_refl _)
  clear hE
  have k1 : decide (60000 < t.size) = false := decide_eq_false (by omega)
  have m1 : decide ((60000 : Int) < (t.size : Int)) = false := decide_eq_false (by omega)
  have k2 : decide (60 < n) = false := decide_eq_false (by omega)
  have m2 : decide ((60 : Int) < (n : Int)) = false := decide_eq_false (by omega)
  obtain ⟨GL, hGL⟩ : ∃ GL, GL = goLines t.data.toList := ⟨_, rfl⟩
  obtain ⟨m, hm⟩ : ∃ m, m = GL.length := ⟨_, rfl⟩
  have HTL := Lib.hid (show ∀ k, (textOf (GL.take k)).length ≤ 60001 from fun k => by
    have h1 := textOf_linesOf t.data.toList
    rw [← size_list] at h1
    obtain ⟨r, hr⟩ := goLines_prefix t.data.toList
    rw [← hr, textOf_append, List.length_append, ← hGL] at h1
    have h2 : GL = GL.take k ++ GL.drop k := (List.take_append_drop k GL).symm
    have h3 := congrArg (fun l => (textOf l).length) h2
    simp only [textOf_append, List.length_append] at h3
    omega)
  have hm6 : m ≤ 60001 := by
    have h1 := HTL.out m
    rw [List.take_of_length_le (by omega)] at h1
    have := textOf_count GL
    omega
  have HG10 := Lib.hid (show ∀ x ∈ GL, ∀ c ∈ x, c ≠ 10 from fun x hx => by
    rw [hGL] at hx
    obtain ⟨r, hr⟩ := goLines_prefix t.data.toList
    exact linesOf_no10 t.data.toList x (by rw [← hr]; exact List.mem_append_left _ hx))
  have HGLE := Lib.hid hGL
  have HGL := Lib.hid hm
  have HNL := Lib.hid hC.1
  have hlen60 : ns.length ≤ 60 := by rw [hC.1]; exact hn
  have HL60 := Lib.hid hlen60
  have HC := Lib.hid hC
  clear hGL hm hC hlen60
  go_enter Tryd.func8, Tryd.ntmps8
  go_wp2_with fail
  refine (lawFirst_any w hEW).mono ?_
  rintro e0 w1 ⟨rfl, hB1⟩
  go_wp2_with fail
  refine (lines_any t (by omega) _).mono ?_
  rw [← HGLE.out]
  rintro e3 w3 ⟨v3, rfl, hR3, hB3⟩
  have HW3 := Lib.hid (hB1.trans (hB3.mono hB1.size))
  obtain ⟨A3, d3, rfl, hl3, hC3⟩ := Kd.R_reads hR3
  rw [List.length_map, ← HGL.out] at hC3 hl3 ⊢
  have HC3 := Lib.hid hC3
  have HN3 := Lib.hid (Kd.C_below HC.out HW3.out)
  clear hR3 hC3 hB3 hB1
  go_wp2_with fail
  go_loopw [7, 8, 9, 10] (fun v7 v8 v9 v10 wr => ∃ (i d : Nat) (D : List By) (at_ : List Nat) (A7 : Option Addr) (n7 c7 : Nat) (A8 : Option Addr) (n8 c8 : Nat), v7 = .slice A7 n7 c7 ∧ v8 = .slice A8 n8 c8 ∧ v9 = .int .i64 (d : Int) ∧ v10 = .int .i64 (i : Int) ∧ i ≤ m ∧ d ≤ 500000 ∧ Hid (d = D.length) ∧ Hid (NB w3 (GL.take i) D [] at_ (.slice A7 n7 c7) (.slice A8 n8 c8) wr) ∧ Hid (Sz ns GL D [] i 0 0)) (fun _ _ _ i _ => m - (intOf i).toNat)
  case atStart => exact ⟨0, 0, [], [], none, 0, 0, none, 0, 0, rfl, rfl, rfl, rfl, Nat.zero_le _, by omega, Lib.hid rfl, Lib.hid (NB.start w3 GL), Lib.hid (Sz.start ns GL)⟩
  case round =>
  obtain ⟨i, d, D, at_, A7, n7, c7, A8, n8, c8, rfl, rfl, rfl, rfl, hi, hd, hD, hNB, hSZ⟩ := hrel
  by_cases hlt : i < m
  · go_wp2_with fail
    go_loopw [7, 9, 11] (fun v7 v9 v11 wr => ∃ (k e : Nat) (D : List By) (cur : By) (A7 : Option Addr) (n7 c7 : Nat), v7 = .slice A7 n7 c7 ∧ v9 = .int .i64 (e : Int) ∧ v11 = .int .i64 (k : Int) ∧ k ≤ n ∧ e ≤ 500001 ∧ Hid (e = D.length + 1) ∧ Hid (NB w3 (GL.take i) D cur at_ (.slice A7 n7 c7) (.slice A8 n8 c8) wr) ∧ Hid (Sz ns GL D cur i k 0)) (fun _ _ k _ => n - (intOf k).toNat)
    case atStart => exact ⟨0, d + 1, D, [], A7, n7, c7, rfl, by go_num, rfl, Nat.zero_le _, by omega, Lib.hid (by rw [hD.out]), hNB, hSZ⟩
    case round =>
    clear hD hNB hSZ hd
    obtain ⟨k, e, D, cur, A7, n7, c7, rfl, rfl, rfl, hk, he, hD, hNB, hSZ⟩ := hrel
    have hlen := (hSZ.out.le HL60.out (by omega) (by omega) (HTL.out i)).1
    by_cases hkn : k < n
    · obtain ⟨⟨y1, y2⟩, hy⟩ : ∃ y, ns[k]? = some y := ⟨ns[k]'(by have := HNL.out; omega), List.getElem?_eq_getElem _⟩
      obtain ⟨ad, hAd, hce0, hce1⟩ := at_ns (Kd.C_below HN3.out hNB.out.below) k _ hy
      have HY := Lib.hid hy
      subst hAd
      clear hy
      by_cases hq : y1 = (i : Int)
      · have q1 : (y1 == (i : Int)) = true := by rw [beq_iff_eq]; exact hq
        have HQ := Lib.hid hq
        clear hq
        go_wp2_with (at_builtin; go_must (refine print_append_str (w0 := w3) w3.heap.size rfl (.tmp 57) (.const (.string ⟨#[32, 9, 35, 32, 112, 117, 116, 32, 101, 32, 45, 10]⟩)) 47 9 5 rfl Tryd.underlying47 Tryd.underlying9 info_u8 (.slice A7 n7 c7) (ints (textOf D ++ cur)) ⟨#[32, 9, 35, 32, 112, 117, 116, 32, 101, 32, 45, 10]⟩ rfl rfl ?HO ?HB ?hbase ?hl ?_))
        case HO => exact hNB.out.row
        case HB => exact hNB.out.below
        case hbase => exact hNB.out.below.size
        case hl => rw [ints_len]; omega
        intro v1 w4 hown hB4 hg4
        have HN4 := Lib.hid (hNB.out.noise hg4 (row_data (x := noiseLine ++ [10]) rfl hown) hB4)
        have HS4 := Lib.hid (hSZ.out.noise)
        have HD4 := Lib.hid (show e + 1 = (D ++ [cur ++ noiseLine]).length + 1 by rw [List.length_append, List.length_singleton, hD.out])
        have hlen4 := (HS4.out.le HL60.out (by omega) (by omega) (HTL.out i)).2
        have he4 : e ≤ 500000 := by have := HD4.out; omega
        obtain ⟨A4, n4, c4, rfl⟩ := HN4.out.row.slice
        obtain ⟨D4, hD4⟩ : ∃ D4, D4 = D ++ [cur ++ noiseLine] := ⟨_, rfl⟩
        rw [← hD4] at HN4 HS4 HD4
        clear hown hB4 hg4 hD hNB hSZ hlen hlen4 hD4
        go_wp2_with fail
        go_loopw [7, 12] (fun v7 v12 wr => ∃ (j : Nat) (cur : By) (A7 : Option Addr) (n7 c7 : Nat), v7 = .slice A7 n7 c7 ∧ v12 = .int .i64 (j : Int) ∧ j ≤ 20 ∧ Hid (NB w3 (GL.take i) D4 cur at_ (.slice A7 n7 c7) (.slice A8 n8 c8) wr) ∧ Hid (Sz ns GL D4 cur i k (12 + j))) (fun _ j _ => 20 - (intOf j).toNat)
        case atStart => exact ⟨0, [], _, _, _, rfl, rfl, Nat.zero_le _, HN4, HS4⟩
        case round =>
        clear HN4 HS4 hce0 hce1
        obtain ⟨j, cur, A7, n7, c7, rfl, rfl, hj, hNB, hSZ⟩ := hrel
        have hlen := (hSZ.out.le HL60.out (by omega) (by omega) (HTL.out i)).1
        obtain ⟨ad', hAd, hce0, hce1⟩ := at_ns (Kd.C_below HN3.out hNB.out.below) k _ HY.out
        obtain rfl : ad = ad' := Option.some.inj hAd
        clear hAd
        by_cases hjy : (j : Int) < y2
        · have j1 : decide ((j : Int) < y2) = true := decide_eq_true hjy
          by_cases hj20 : j < 20
          · have j2 : decide ((j : Int) < 20) = true := decide_eq_true (by omega)
            have j3 : decide (j < 20) = true := decide_eq_true hj20
            clear hjy
            obtain ⟨q, hq2⟩ : ∃ q : Nat, j = 2 * q ∨ j = 2 * q + 1 := ⟨j / 2, by omega⟩
            rcases hq2 with hq2 | hq2
            · have hmod : Int.tmod (j : Int) 2 = 0 := by rw [Int.tmod_eq_emod_of_nonneg (by omega)]; omega
              clear hq2
              go_wp2_with (at_builtin; go_must (refine print_append_num (w0 := w3) w3.heap.size rfl (.tmp 74) (.tmp 78) 47 5 .u8 1 rfl Tryd.underlying47 info_u8 (by decide) (.slice A7 n7 c7) (ints (textOf D4 ++ cur)) 32 rfl rfl ?HO ?HB ?hbase ?hl ?_))
              case HO => exact hNB.out.row
              case HB => exact hNB.out.below
              case hbase => exact hNB.out.below.size
              case hl => rw [ints_len]; omega
              intro v1 w5 hown hB5 hg5 _
              have HN5 := Lib.hid (hNB.out.more hg5 (c := 32) (Or.inl rfl) (row_push (c := 32) hown) hB5)
              have HS5 := Lib.hid (hSZ.out.more (c := 32))
              obtain ⟨A5, n5, c5, rfl⟩ := HN5.out.row.slice
              clear hown hB5 hg5 hNB hSZ hlen
              go_wp2_with fail
              go_roundw
              case rel => exact ⟨j + 1, _, _, _, _, rfl, by go_num, hj20, HN5, HS5⟩
              case measure => simp [intOf]; omega
            · have hmod : Int.tmod (j : Int) 2 = 1 := by rw [Int.tmod_eq_emod_of_nonneg (by omega)]; omega
              clear hq2
              go_wp2_with (at_builtin; go_must (refine print_append_num (w0 := w3) w3.heap.size rfl (.tmp 74) (.tmp 78) 47 5 .u8 1 rfl Tryd.underlying47 info_u8 (by decide) (.slice A7 n7 c7) (ints (textOf D4 ++ cur)) 9 rfl rfl ?HO ?HB ?hbase ?hl ?_))
              case HO => exact hNB.out.row
              case HB => exact hNB.out.below
              case hbase => exact hNB.out.below.size
              case hl => rw [ints_len]; omega
              intro v1 w5 hown hB5 hg5 _
              have HN5 := Lib.hid (hNB.out.more hg5 (c := 9) (Or.inr rfl) (row_push (c := 9) hown) hB5)
              have HS5 := Lib.hid (hSZ.out.more (c := 9))
              obtain ⟨A5, n5, c5, rfl⟩ := HN5.out.row.slice
              clear hown hB5 hg5 hNB hSZ hlen
              go_wp2_with fail
              go_roundw
              case rel => exact ⟨j + 1, _, _, _, _, rfl, by go_num, hj20, HN5, HS5⟩
              case measure => simp [intOf]; omega
          · have j2 : decide ((j : Int) < 20) = false := decide_eq_false (by omega)
            have j3 : decide (j < 20) = false := decide_eq_false hj20
            clear hjy
            have HS6 := Lib.hid (hSZ.out.done HY.out HQ.out (by omega))
            go_wp2_with fail
            go_roundw
            case rel => exact ⟨k + 1, e + 1, D4, cur, A7, n7, c7, rfl, by go_num, by go_num, hkn, by omega, HD4, hNB, HS6⟩
            case measure => simp [intOf]; omega
        · have j1 : decide ((j : Int) < y2) = false := decide_eq_false hjy
          clear hjy
          have HS6 := Lib.hid (hSZ.out.done HY.out HQ.out (by omega))
          go_wp2_with fail
          go_roundw
          case rel => exact ⟨k + 1, e + 1, D4, cur, A7, n7, c7, rfl, by go_num, by go_num, hkn, by omega, HD4, hNB, HS6⟩
          case measure => simp [intOf]; omega
      · have q1 : (y1 == (i : Int)) = false := by rw [beq_eq_false_iff_ne]; exact hq
        have HS6 := Lib.hid (hSZ.out.skip HY.out hq)
        clear hq
        go_wp2_with fail
        go_roundw
        case rel => exact ⟨k + 1, e, D, cur, A7, n7, c7, rfl, rfl, by go_num, hkn, he, hD, hNB, HS6⟩
        case measure => simp [intOf]; omega
    · obtain rfl : k = n := by omega
      clear hkn
      obtain ⟨x, hx⟩ : ∃ x, GL[i]? = some x := ⟨GL[i]'(by have := HGL.out; omega), List.getElem?_eq_getElem _⟩
      have HX := Lib.hid hx
      have HS6 := Lib.hid (show Sz ns GL (D ++ [cur ++ (x ++ [9, 32, 35, 32, 115, 111])]) [] (i + 1) 0 0 from Sz.line (by rw [HNL.out]; exact hSZ.out) hx)
      have hlen6 := (HS6.out.le HL60.out (by omega) (by omega) (HTL.out (i + 1)))
      have hxl : x.length ≤ 500000 := by
        have := hlen6.1
        rw [textOf_append, List.append_nil, List.length_append] at this
        have e2 : (textOf [cur ++ (x ++ [9, 32, 35, 32, 115, 111])]).length = cur.length + x.length + 7 := by simp [textOf]; omega
        omega
      have hlen6 := hlen6.2
      have hal : at_.length ≤ 60001 := by have := hNB.out.noisy.length; rw [List.length_take] at this; omega
      have HAL := Lib.hid hal
      clear hx hal
      go_wp2_with (at_builtin; go_must (refine print_append_num (w0 := w3) w3.heap.size rfl (.tmp 80) (.tmp 82) 48 3 .i64 8 rfl Tryd.underlying48 info_int (by decide) (.slice A8 n8 c8) (nats at_) (e : Int) rfl rfl ?HO ?HB ?hbase ?hl ?_))
      case HO => exact hNB.out.ats
      case HB => exact hNB.out.below
      case hbase => exact hNB.out.below.size
      case hl => rw [nats_len]; have := HAL.out; omega
      intro v8 w4 hown hB4 hg4 _
      have HB4 := Lib.hid hB4
      have HA4 := Lib.hid (show w4.ownsRow w3.heap.size 3 1 v8 (nats (at_ ++ [D.length + 1])).length (nums .i64 (nats (at_ ++ [D.length + 1]))) from by rw [← hD.out]; exact ats_push hown)
      have HR4 := Lib.hid (row_kept hNB.out.row hNB.out.ats hg4)
      obtain ⟨A9, c9, rfl⟩ := own_slice HA4.out
      have hn9 : (nats (at_ ++ [D.length + 1])).length ≤ 60002 := by rw [nats_len, List.length_append, List.length_singleton]; have := HAL.out; omega
      obtain ⟨n9, hn9e⟩ : ∃ n9, n9 = (nats (at_ ++ [D.length + 1])).length := ⟨_, rfl⟩
      rw [← hn9e] at HA4 hn9 ⊢
      have HN9 := Lib.hid hn9e
      obtain ⟨ax, hAx, hcell⟩ := Kd.at_string (Kd.C_below HC3.out hB4) (i : Int) (by omega) (by omega)
      rw [Int.toNat_natCast, rd_mk HX.out] at hcell
      subst hAx
      clear hown hB4 hg4 hn9e
      go_wp2_with (at_builtin; go_must (refine print_append_str (w0 := w3) w3.heap.size rfl (.tmp 84) (.tmp 88) 47 9 5 rfl Tryd.underlying47 Tryd.underlying9 info_u8 (.slice A7 n7 c7) (ints (textOf D ++ cur)) ⟨x.toArray⟩ rfl rfl ?HO ?HB ?hbase ?hl ?_))
      case HO => exact HR4.out
      case HB => exact HB4.out
      case hbase => exact HB4.out.size
      case hl => rw [ints_len, mk_size]; omega
      intro v1 w5 hown hB5 hg5
      have HR5 := Lib.hid (row_str hown)
      have HB5 := Lib.hid hB5
      have HA5 := Lib.hid (ats_kept HR4.out HA4.out hg5)
      clear hown hB5 hg5 hcell
      obtain ⟨A5, n5, c5, rfl⟩ := HR5.out.slice
      go_wp2_with (at_builtin; go_must (refine print_append_str (w0 := w3) w3.heap.size rfl (.tmp 90) (.const (.string ⟨#[9, 32, 35, 32, 115, 111, 10]⟩)) 47 9 5 rfl Tryd.underlying47 Tryd.underlying9 info_u8 (.slice A5 n5 c5) (ints (textOf D ++ cur ++ x)) ⟨#[9, 32, 35, 32, 115, 111, 10]⟩ rfl rfl ?HO ?HB ?hbase ?hl ?_))
      case HO => exact HR5.out
      case HB => exact HB5.out
      case hbase => exact HB5.out.size
      case hl => rw [ints_len, show (⟨#[9, 32, 35, 32, 115, 111, 10]⟩ : ByteArray).size = 7 from rfl]; simp only [List.length_append] at hlen ⊢; omega
      intro v1 w6 hown hB6 hg6
      have HR6 := Lib.hid (show Row8 w3 w6 v1 (textOf D ++ cur ++ x ++ [9, 32, 35, 32, 115, 111, 10]) from by simp only [← List.append_assoc] at hown; exact row_data rfl hown)
      have HA6 := Lib.hid (ats_kept HR5.out HA5.out hg6)
      have HNB6 := Lib.hid (show NB w3 (GL.take (i + 1)) (D ++ [cur ++ (x ++ [9, 32, 35, 32, 115, 111])]) [] (at_ ++ [D.length + 1]) v1 (.slice A9 n9 c9) w6 from by
        have := hNB.out.line (fun c hc => HG10.out x (List.mem_of_getElem? HX.out) c hc) HR6.out (by rw [← HN9.out]; exact HA6.out) hB6
        rw [List.take_add_one, HX.out]
        exact this)
      obtain ⟨A6, n6, c6, rfl⟩ := HR6.out.slice
      have HD6 := Lib.hid (show e = (D ++ [cur ++ (x ++ [9, 32, 35, 32, 115, 111])]).length by rw [List.length_append, List.length_singleton, hD.out])
      have he6 : e ≤ 500000 := by have := HD6.out; omega
      clear hown hB6 hg6
      go_wp2_with fail
      go_roundw
      case rel => exact ⟨i + 1, e, _, _, _, _, _, _, _, _, rfl, rfl, rfl, by go_num, hlt, he6, HD6, HNB6, HS6⟩
      case measure => simp [intOf]; omega
  · obtain rfl : i = m := by omega
    clear hlt hd hD
    have hsz := (hSZ.out.le HL60.out (by omega) (by omega) (HTL.out i)).1
    rw [List.append_nil] at hsz
    obtain ⟨s, x, y, c, hp1, hp2, hxy⟩ := noise_both (t := t.data.toList) (D := D) (at_ := at_) (by
      have hN := hNB.out.noisy
      rw [List.take_of_length_le (by have := HGL.out; omega), HGLE.out] at hN
      exact hN) hNB.out.no10 (by rw [← size_list]; omega) (by omega)
    have HP1 := Lib.hid hp1
    have HP2 := Lib.hid hp2
    have HXY := Lib.hid hxy
    have HAL := Lib.hid (show at_.length ≤ 60001 by have := hNB.out.noisy.length; rw [List.length_take] at this; omega)
    have HROW := Lib.hid (show Row8 w3 wr (.slice A7 n7 c7) (textOf D) from by have := hNB.out.row; rwa [List.append_nil] at this)
    have HAT := Lib.hid hNB.out.ats
    have HB := Lib.hid hNB.out.below
    have HWR := Lib.hid (HW3.out.trans (HB.out.mono HW3.out.size))
    clear hp1 hp2 hxy hNB hSZ
    go_wp2_with fail
    refine (Parse_any t (by omega) _ (hEW.belowB HWR.out)).mono ?_
    rintro e1 w5 hP
    obtain ⟨A5, d5, rfl, hl5, hC5, hB5⟩ := parse_at hP HP1.out
    have HC5 := Lib.hid hC5
    have HL5 := Lib.hid hl5
    have HA5 := Lib.hid (show Below wr.heap.size wr (w5.alloc (.cells #[.int .i64 s.cap, .slice A5 s.ops.length d5] 36)) from hB5.alloc hB5.size _)
    have hcv := (HROW.out.keep HA5.out).str
    clear hP hC5 hl5 hB5
    go_wp2_with fail
    refine (Parse_any ⟨(textOf D).toArray⟩ (by rw [mk_size]; omega) _ (hEW.belowB (HWR.out.trans (HA5.out.mono HWR.out.size)))).mono ?_
    rintro e2 w6 hP
    obtain ⟨A6, d6, rfl, hl6, hC6, hB6⟩ := parse_at hP HP2.out
    have h56 : w6.heap[w5.heap.size]? = some (.cells #[.int .i64 s.cap, .slice A5 s.ops.length d5] 36 (0, 0)) := (hB6.block _ (by simp)).trans (new_at _ _ _ rfl)
    obtain ⟨z0, z1, f0, f1⟩ := script_cells h56
    have hlt56 : w5.heap.size < w6.heap.size := blk_lt h56
    have hq6 : Below w6.heap.size w6 (w6.alloc (.cells #[.int .i64 s.cap, .slice A6 s.ops.length d6] 36)) := (Below.refl _ _).alloc (Nat.le_refl _) _
    have hq5 : Below w5.heap.size w5 (w5.alloc (.cells #[.int .i64 s.cap, .slice A5 s.ops.length d5] 36)) := (Below.refl _ _).alloc (Nat.le_refl _) _
    have HQ6 := Lib.hid hq6
    have HC6 := Lib.hid (Kd.C_below hC6 hq6)
    have HC5 := Lib.hid (Kd.C_below (Kd.C_below (Kd.C_below HC5.out hq5) hB6) hq6)
    have HL6 := Lib.hid hl6
    have HB6 := Lib.hid (show Below wr.heap.size wr (w6.alloc (.cells #[.int .i64 s.cap, .slice A6 s.ops.length d6] 36)) from (HA5.out.trans (hB6.mono HA5.out.size)).trans (hq6.mono (HA5.out.trans (hB6.mono HA5.out.size)).size))
    clear hP hC6 hl6 hB6 hq6 hq5 hcv h56
    go_wp2_with fail
    refine (same_any s s A5 A6 d5 d6 _ HC5.out HC6.out HL5.out HL6.out).mono ?_
    rintro e7 w7 ⟨⟨r, rfl, hr⟩, hB7⟩
    obtain rfl := hr.2 rfl
    have HB7 := Lib.hid (HB6.out.trans (hB7.mono HB6.out.size))
    have HW7 := Lib.hid (HWR.out.trans (HB7.out.mono HWR.out.size))
    have HAT7 := Lib.hid (own_move HAT.out (fun k hk => HB7.out.block k (own_lt HAT.out k hk)))
    clear hr hB7 z0 z1 f0 f1
    rcases HXY.out with ⟨rfl, rfl⟩ | ⟨q, p, yn, hpq, rfl, hat, rfl⟩
    · go_wp2_with fail
      refine (num_any _ _).mono ?_
      rintro e8 w8 ⟨rfl, rfl⟩
      go_wp2_with fail
      refine (num_any _ _).mono ?_
      rintro e8 w8 ⟨rfl, rfl⟩
      go_wp2_with fail
      go_ret
      exact ⟨rfl, HW7.out⟩
    · have hql : q < at_.length := (List.getElem?_eq_some_iff.1 hat).1
      obtain ⟨g1, c1, hv, _, _⟩ := HAT7.out.form (by rw [nats_len]; omega)
      obtain ⟨rfl, hn8, rfl⟩ : A8 = _ ∧ n8 = _ ∧ c8 = _ := by simpa using hv
      have hcell : w7.cell? ⟨g1, q, none⟩ = some (.int .i64 (yn : Int)) := by
        have := HAT7.out.cells (g := g1) (by simp [Value.ownBlock]) q (.int .i64 (yn : Int)) (by simp [nums, nats, hat])
        rwa [add_plain] at this
      have hn8' : n8 = at_.length := by rw [hn8, nats_len]
      have hp1 : decide ((p : Int) < 1) = false := decide_eq_false (by omega)
      have hp1' : decide (p < 1) = false := decide_eq_false (by omega)
      have hp2 : decide ((n8 : Int) < (p : Int)) = false := decide_eq_false (by omega)
      have hp2' : decide (n8 < p) = false := decide_eq_false (by omega)
      have hp3 : (p : Int) - 1 = (q : Int) := by omega
      have hq8 : q < n8 := by omega
      have hq9 : n8 ≤ 9223372036854775807 := by have := HAL.out; omega
      clear hv hn8 hn8' hpq hat hql
      go_wp2_with fail
      refine (num_any _ _).mono ?_
      rintro e8 w8 ⟨rfl, rfl⟩
      go_wp2_with fail
      refine (num_any _ _).mono ?_
      rintro e8 w8 ⟨rfl, rfl⟩
      go_wp2_with fail
      go_ret
      exact ⟨rfl, HW7.out⟩
end Go.Proofs.YtbpackopicngmaaDoor
