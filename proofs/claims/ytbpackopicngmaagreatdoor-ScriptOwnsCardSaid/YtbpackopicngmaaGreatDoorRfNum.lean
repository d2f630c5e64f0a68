/- The document's number (written by gen/mkNum.py). -/
import Derived.Test.YtbpackopicngmaaGreatDoorLwUn
namespace Go.Proofs.Sc
open Go.Lib (decFrom digitVal)

theorem dec_step' {l : List UInt8} {i v d : Nat} {b : UInt8} (h : decFrom 0 (l.take i) = some v) (hb : l[i]? = some b) (h1 : 48 ≤ b.toNat) (h2 : b.toNat ≤ 57) (hd : d = b.toNat - 48) : decFrom 0 (l.take (i + 1)) = some (10 * v + d) := by
  have hv : digitVal b = some d := by unfold digitVal; rw [if_pos ⟨h1, h2⟩, hd]
  rw [List.take_add_one, hb, decFrom_append, h]
  simp only [Option.bind_some, Option.toList_some, decFrom, hv]
  congr 1; omega
theorem dec_bad' {l : List UInt8} {i v : Nat} {b : UInt8} (h : decFrom 0 (l.take i) = some v) (hb : l[i]? = some b) (hd : b.toNat < 48 ∨ 57 < b.toNat) : decFrom 0 l = none := by
  have hv : digitVal b = none := by unfold digitVal; rw [if_neg (by omega)]
  have e : l = l.take i ++ l.drop i := (List.take_append_drop i l).symm
  rw [e, decFrom_append, h, Go.Lib.drop_at hb]
  simp only [Option.bind_some, decFrom, hv]
theorem numM_dec {l : List UInt8} (h : decFrom 0 l = none) : numM l = none := by
  unfold numM; split
  · rfl
  · rw [h]
theorem numM_big {l : List UInt8} {v : Nat} (h : decFrom 0 l = some v) (hv : ¬ v ≤ 2147483647) : numM l = none := by
  unfold numM; split
  · rfl
  · rw [h]; simp only; rw [if_neg hv]
def numOk (l : List UInt8) : Prop := ¬ (l = [] ∨ 10 < l.length ∨ (1 < l.length ∧ l.head? = some 48))
theorem numM_ok {l : List UInt8} {v : Nat} (ho : numOk l) (h : decFrom 0 l = some v) (hv : v ≤ 2147483647) : numM l = some v := by
  unfold numM; rw [if_neg ho, h]; simp only; rw [if_pos hv]
theorem numM_nil {l : List UInt8} (h : l.length = 0) : numM l = none := by
  unfold numM; rw [if_pos (Or.inl (List.length_eq_zero_iff.1 h))]
theorem numM_long {l : List UInt8} (h : 10 < l.length) : numM l = none := by
  unfold numM; rw [if_pos (Or.inr (Or.inl h))]
theorem numM_zero {l : List UInt8} (h : 1 < l.length) (h0 : l[0]? = some 48) : numM l = none := by
  unfold numM; rw [if_pos (Or.inr (Or.inr ⟨h, by rw [List.head?_eq_getElem?]; exact h0⟩))]
theorem numOk_one {l : List UInt8} (h : l.length ≠ 0) (h1 : l.length ≤ 1) : numOk l := by
  rintro (e | e | ⟨e, _⟩)
  · rw [e] at h; exact h rfl
  · omega
  · omega
theorem numOk_many {l : List UInt8} (h : l.length ≠ 0) (h1 : l.length ≤ 10) (h0 : l[0]? ≠ some 48) : numOk l := by
  rintro (e | e | ⟨_, e⟩)
  · rw [e] at h; exact h rfl
  · omega
  · rw [List.head?_eq_getElem?] at e; exact h0 e
theorem numP_none {l L : List UInt8} {f : Nat → Int} (h : numR l = (numM L).map f) (hm : numM L = none) : numR l = none := by rw [h, hm]; rfl
theorem numP_some {l L : List UInt8} {f : Nat → Int} {v : Nat} (h : numR l = (numM L).map f) (hm : numM L = some v) : numR l = some (f v) := by rw [h, hm]; rfl
theorem numR_neg {c : UInt8} {r : List UInt8} (h : c ≠ 48) : numR (45 :: c :: r) = (numM (c :: r)).map fun n : Nat => -(n : Int) := by
  simp only [numR]; rw [if_neg h]
theorem numR_neg0 {r : List UInt8} : numR (45 :: 48 :: r) = none := by simp [numR]
theorem numR_pos {l : List UInt8} (h : ¬ (1 < l.length ∧ l[0]? = some 45)) : numR l = (numM l).map fun n : Nat => (n : Int) := by
  unfold numR
  split
  · exact absurd ⟨by simp, rfl⟩ h
  · rfl
theorem pow_step {v k d : Nat} (h : v < 10 ^ k) (hd : d ≤ 9) : 10 * v + d < 10 ^ (k + 1) := by rw [Nat.pow_succ]; omega
end Go.Proofs.Sc
namespace Go.Proofs.YtbpackopicngmaaGreatDoor
open Go.RowKit Go.Proofs.Sc Go.Proofs.YtbpackopicngmaaGreatDoorW.PrintWords
open Go.Lib (decFrom digitVal)

def NumPost (l : By) (e : Ending) : Prop := ∃ (v : Int) (b : Bool), e = .returned (.tuple #[.int .i64 v, .bool b]) ∧ ((b = true ∧ numR l = some v) ∨ (b = false ∧ numR l = none))

theorem NumPost.bad {l : By} {v : Int} (h : numR l = none) : NumPost l (.returned (.tuple #[.int .i64 v, .bool false])) := ⟨v, false, rfl, Or.inr ⟨rfl, h⟩⟩
theorem NumPost.good {l : By} {v : Int} (h : numR l = some v) : NumPost l (.returned (.tuple #[.int .i64 v, .bool true])) := ⟨v, true, rfl, Or.inl ⟨rfl, h⟩⟩

theorem extract_one (s : ByteArray) {c0 : UInt8} {r : By} (h : s.data.toList = c0 :: r) : (s.extract 1 s.size).data.toList = r := by
  rw [ByteArray.data_extract, Array.toList_extract, h]
  have : s.size = r.length + 1 := by rw [size_list, h]; rfl
  rw [this]
  simp

set_option maxHeartbeats 8000000 in
theorem refNumber_any (s : ByteArray) (w : World) (hs : s.size ≤ 33554432) : Calls Tryz.prog 59 #[.string s] w fun e w' => NumPost s.data.toList e ∧ w = w' := by
  obtain ⟨l, hl⟩ : ∃ l, l = s.data.toList := ⟨_, rfl⟩
  rw [← hl]
  by_cases hA : 1 < s.size
  · have a1 : decide (1 < s.size) = true := decide_eq_true hA
    have a2 : decide ((1 : Int) < (s.size : Int)) = true := decide_eq_true (by omega)
    by_cases h45 : s[0]'(by omega) = 45
    · have a3 : (((s[0]'(by omega)).toNat : Int) == 45) = true := by rw [h45]; rfl
      obtain ⟨c, r, hcr⟩ : ∃ c r, s.data.toList = 45 :: c :: r := by
        have h0 := getElem_list s 0 (by omega)
        rw [h45] at h0
        have hsz := size_list s
        match hm : s.data.toList, h0, hsz with
        | c0 :: c :: r, h0, _ => obtain rfl := Option.some.inj h0; exact ⟨c, r, rfl⟩
        | [c0], _, hsz => simp at hsz; omega
      obtain ⟨u, hu⟩ : ∃ u, u = s.extract 1 s.size := ⟨_, rfl⟩
      have hx : s.extract 1 s.size = u := hu.symm
      have hul : u.data.toList = c :: r := by rw [hu]; exact extract_one s hcr
      have hus : u.size = r.length + 1 := by rw [size_list, hul]; rfl
      have hss : s.size = r.length + 2 := by rw [size_list, hcr]; rfl
      have hu0 : 0 < u.size := by omega
      have HAT := Lib.hid (show ∀ i (h : i < u.size), u.data.toList[i]? = some (u[i]'h) from fun i h => getElem_list u i h)
      have hc0 : u[0]'hu0 = c := by
        have := HAT.out 0 hu0
        rw [hul] at this
        exact (Option.some.inj this).symm
      by_cases hc48 : c = 48
      · have a4 : (((u[0]'hu0).toNat : Int) == 48) = true := by rw [hc0, hc48]; rfl
        have HN := Lib.hid (show numR l = none by rw [hl, hcr, hc48]; exact numR_neg0)
        clear hl hcr hu hul hus hss hc0 hc48 h45
        go_enter Tryz.func59, Tryz.ntmps59
        go_wp2_with fail
        go_ret2
        exact ⟨NumPost.bad HN.out, rfl⟩
      · have a4 : (((u[0]'hu0).toNat : Int) == 48) = false := by rw [hc0]; exact toNat_ne hc48
        have NUM := Lib.hid (show numR l = (numM u.data.toList).map fun n : Nat => -(n : Int) by rw [hl, hcr, hul]; exact numR_neg hc48)
        have z0 : ((u.size : Int) == 0) = false := by rw [beq_eq_false_iff_ne]; omega
        have H48 := Lib.hid (show u.data.toList[0]? ≠ some 48 by rw [hul]; intro e; exact hc48 (Option.some.inj e))
        clear hl hcr hu hul hus hss hc0 hc48 h45
        go_enter Tryz.func59, Tryz.ntmps59
        by_cases z10 : 10 < u.size
        · have t1 : decide (10 < u.size) = true := decide_eq_true z10
          have t2 : decide ((10 : Int) < (u.size : Int)) = true := decide_eq_true (by omega)
          have HN := Lib.hid (numP_none NUM.out (numM_long (by rw [← size_list]; exact z10)))
          go_wp2_with fail
          go_ret2
          exact ⟨NumPost.bad HN.out, rfl⟩
        · have t1 : decide (10 < u.size) = false := decide_eq_false z10
          have t2 : decide ((10 : Int) < (u.size : Int)) = false := decide_eq_false (by omega)
          by_cases h1 : 1 < u.size
          · have z1 : decide (1 < u.size) = true := decide_eq_true h1
            have z2 : decide ((1 : Int) < (u.size : Int)) = true := decide_eq_true (by omega)
            have HOK := Lib.hid (numOk_many (l := u.data.toList) (by rw [← size_list]; omega) (by rw [← size_list]; omega) H48.out)
            go_wp2_with fail
            go_loopw [5, 6] (fun n i wr => ∃ k v : Nat, w = wr ∧ n = .int .i64 (v : Int) ∧ i = .int .i64 (k : Int) ∧ k ≤ u.size ∧ v ≤ 9999999999 ∧ Hid (decFrom 0 (u.data.toList.take k) = some v) ∧ Hid (v < 10 ^ k)) (fun _ i _ => u.size - (intOf i).toNat)
            case atStart => exact ⟨0, 0, rfl, rfl, rfl, Nat.zero_le _, by omega, Lib.hid rfl, Lib.hid (by decide)⟩
            case round =>
            obtain ⟨k, v, rfl, rfl, rfl, hk, hv, hD, hP⟩ := hrel
            by_cases hlt : k < u.size
            · have hb := HAT.out k hlt
              obtain ⟨b, hbb⟩ : ∃ b, b = u[k]'hlt := ⟨_, rfl⟩
              rw [← hbb] at hb
              have hbk : ∀ h, u[k]'h = b := fun _ => hbb.symm
              have HB := Lib.hid hb
              have hb256 := UInt8.toNat_lt b
              clear hb hbb
              by_cases h48 : b.toNat < 48
              · have p1 : decide (b.toNat < 48) = true := decide_eq_true h48
                have p2 : decide ((b.toNat : Int) < 48) = true := decide_eq_true (by omega)
                have HN := Lib.hid (numP_none (NUM.out) (numM_dec (dec_bad' hD.out HB.out (Or.inl h48))))
                clear h48
                go_wp2_with fail
                go_ret2
                exact ⟨NumPost.bad HN.out, rfl⟩
              · have p1 : decide (b.toNat < 48) = false := decide_eq_false h48
                have p2 : decide ((b.toNat : Int) < 48) = false := decide_eq_false (by omega)
                by_cases h57 : 57 < b.toNat
                · have p3 : decide (57 < b.toNat) = true := decide_eq_true h57
                  have p4 : decide ((57 : Int) < (b.toNat : Int)) = true := decide_eq_true (by omega)
                  have HN := Lib.hid (numP_none (NUM.out) (numM_dec (dec_bad' hD.out HB.out (Or.inr h57))))
                  clear h48 h57
                  go_wp2_with fail
                  go_ret2
                  exact ⟨NumPost.bad HN.out, rfl⟩
                · have p3 : decide (57 < b.toNat) = false := decide_eq_false h57
                  have p4 : decide ((57 : Int) < (b.toNat : Int)) = false := decide_eq_false (by omega)
                  obtain ⟨d, hd⟩ : ∃ d, d = b.toNat - 48 := ⟨_, rfl⟩
                  have hd9 : d ≤ 9 := by omega
                  have hw1 : IntKind.u8.wrap ((b.toNat : Int) - 48) = (d : Int) := by rw [show ((b.toNat : Int) - 48) = (d : Int) by omega]; rw [IntKind.wrap_u8]; omega
                  have HST := Lib.hid (dec_step' hD.out HB.out (by omega) (by omega) hd)
                  have HP2 := Lib.hid (pow_step hP.out hd9)
                  have hv2 : 10 * v + d ≤ 9999999999 := by
                    have h1 := HP2.out
                    have h2 : 10 ^ (k + 1) ≤ 10 ^ 10 := Nat.pow_le_pow_right (by decide) (by omega)
                    omega
                  clear h48 h57 hd
                  go_wp2_with fail
                  go_roundw
                  case rel => exact ⟨k + 1, 10 * v + d, trivial, by go_num, by go_num, hlt, hv2, HST, HP2⟩
                  case measure => simp [intOf]; omega
            · obtain rfl : k = u.size := by omega
              clear hlt
              have hdl := hD.out
              rw [List.take_of_length_le (by rw [← size_list]; exact Nat.le_refl _)] at hdl
              have HDL := Lib.hid hdl
              clear hdl hD hP
              by_cases hmx : v ≤ 2147483647
              · have p5 : decide (v ≤ 2147483647) = true := decide_eq_true hmx
                have p6 : decide ((v : Int) ≤ 2147483647) = true := decide_eq_true (by omega)
                have HN := Lib.hid (numP_some NUM.out (numM_ok HOK.out HDL.out hmx))
                clear hmx
                go_wp2_with fail
                go_ret2
                exact ⟨NumPost.good (by rw [HN.out]), rfl⟩
              · have p5 : decide (v ≤ 2147483647) = false := decide_eq_false hmx
                have p6 : decide ((v : Int) ≤ 2147483647) = false := decide_eq_false (by omega)
                have HN := Lib.hid (numP_none NUM.out (numM_big HDL.out hmx))
                clear hmx
                go_wp2_with fail
                go_ret2
                exact ⟨NumPost.bad HN.out, rfl⟩
          · have z1 : decide (1 < u.size) = false := decide_eq_false h1
            have z2 : decide ((1 : Int) < (u.size : Int)) = false := decide_eq_false (by omega)
            have HOK := Lib.hid (numOk_one (l := u.data.toList) (by rw [← size_list]; omega) (by rw [← size_list]; omega))

            go_wp2_with fail
            go_loopw [5, 6] (fun n i wr => ∃ k v : Nat, w = wr ∧ n = .int .i64 (v : Int) ∧ i = .int .i64 (k : Int) ∧ k ≤ u.size ∧ v ≤ 9999999999 ∧ Hid (decFrom 0 (u.data.toList.take k) = some v) ∧ Hid (v < 10 ^ k)) (fun _ i _ => u.size - (intOf i).toNat)
            case atStart => exact ⟨0, 0, rfl, rfl, rfl, Nat.zero_le _, by omega, Lib.hid rfl, Lib.hid (by decide)⟩
            case round =>
            obtain ⟨k, v, rfl, rfl, rfl, hk, hv, hD, hP⟩ := hrel
            by_cases hlt : k < u.size
            · have hb := HAT.out k hlt
              obtain ⟨b, hbb⟩ : ∃ b, b = u[k]'hlt := ⟨_, rfl⟩
              rw [← hbb] at hb
              have hbk : ∀ h, u[k]'h = b := fun _ => hbb.symm
              have HB := Lib.hid hb
              have hb256 := UInt8.toNat_lt b
              clear hb hbb
              by_cases h48 : b.toNat < 48
              · have p1 : decide (b.toNat < 48) = true := decide_eq_true h48
                have p2 : decide ((b.toNat : Int) < 48) = true := decide_eq_true (by omega)
                have HN := Lib.hid (numP_none (NUM.out) (numM_dec (dec_bad' hD.out HB.out (Or.inl h48))))
                clear h48
                go_wp2_with fail
                go_ret2
                exact ⟨NumPost.bad HN.out, rfl⟩
              · have p1 : decide (b.toNat < 48) = false := decide_eq_false h48
                have p2 : decide ((b.toNat : Int) < 48) = false := decide_eq_false (by omega)
                by_cases h57 : 57 < b.toNat
                · have p3 : decide (57 < b.toNat) = true := decide_eq_true h57
                  have p4 : decide ((57 : Int) < (b.toNat : Int)) = true := decide_eq_true (by omega)
                  have HN := Lib.hid (numP_none (NUM.out) (numM_dec (dec_bad' hD.out HB.out (Or.inr h57))))
                  clear h48 h57
                  go_wp2_with fail
                  go_ret2
                  exact ⟨NumPost.bad HN.out, rfl⟩
                · have p3 : decide (57 < b.toNat) = false := decide_eq_false h57
                  have p4 : decide ((57 : Int) < (b.toNat : Int)) = false := decide_eq_false (by omega)
                  obtain ⟨d, hd⟩ : ∃ d, d = b.toNat - 48 := ⟨_, rfl⟩
                  have hd9 : d ≤ 9 := by omega
                  have hw1 : IntKind.u8.wrap ((b.toNat : Int) - 48) = (d : Int) := by rw [show ((b.toNat : Int) - 48) = (d : Int) by omega]; rw [IntKind.wrap_u8]; omega
                  have HST := Lib.hid (dec_step' hD.out HB.out (by omega) (by omega) hd)
                  have HP2 := Lib.hid (pow_step hP.out hd9)
                  have hv2 : 10 * v + d ≤ 9999999999 := by
                    have h1 := HP2.out
                    have h2 : 10 ^ (k + 1) ≤ 10 ^ 10 := Nat.pow_le_pow_right (by decide) (by omega)
                    omega
                  clear h48 h57 hd
                  go_wp2_with fail
                  go_roundw
                  case rel => exact ⟨k + 1, 10 * v + d, trivial, by go_num, by go_num, hlt, hv2, HST, HP2⟩
                  case measure => simp [intOf]; omega
            · obtain rfl : k = u.size := by omega
              clear hlt
              have hdl := hD.out
              rw [List.take_of_length_le (by rw [← size_list]; exact Nat.le_refl _)] at hdl
              have HDL := Lib.hid hdl
              clear hdl hD hP
              by_cases hmx : v ≤ 2147483647
              · have p5 : decide (v ≤ 2147483647) = true := decide_eq_true hmx
                have p6 : decide ((v : Int) ≤ 2147483647) = true := decide_eq_true (by omega)
                have HN := Lib.hid (numP_some NUM.out (numM_ok HOK.out HDL.out hmx))
                clear hmx
                go_wp2_with fail
                go_ret2
                exact ⟨NumPost.good (by rw [HN.out]), rfl⟩
              · have p5 : decide (v ≤ 2147483647) = false := decide_eq_false hmx
                have p6 : decide ((v : Int) ≤ 2147483647) = false := decide_eq_false (by omega)
                have HN := Lib.hid (numP_none NUM.out (numM_big HDL.out hmx))
                clear hmx
                go_wp2_with fail
                go_ret2
                exact ⟨NumPost.bad HN.out, rfl⟩
    · have a3 : (((s[0]'(by omega)).toNat : Int) == 45) = false := toNat_ne h45
      have NUM := Lib.hid (show numR l = (numM s.data.toList).map fun n : Nat => (n : Int) by
        rw [hl]; refine numR_pos fun h => h45 ?_
        have h0 := getElem_list s 0 (by omega)
        rw [h.2] at h0; exact (Option.some.inj h0).symm)
      obtain ⟨u, hu⟩ : ∃ u, u = s := ⟨_, rfl⟩
      subst hu
      have h1 := hA
      have z0 : ((u.size : Int) == 0) = false := by rw [beq_eq_false_iff_ne]; omega
      have HAT := Lib.hid (show ∀ i (h : i < u.size), u.data.toList[i]? = some (u[i]'h) from fun i h => getElem_list u i h)
      clear hl h45
      go_enter Tryz.func59, Tryz.ntmps59
      by_cases z10 : 10 < u.size
      · have t1 : decide (10 < u.size) = true := decide_eq_true z10
        have t2 : decide ((10 : Int) < (u.size : Int)) = true := decide_eq_true (by omega)
        have HN := Lib.hid (numP_none NUM.out (numM_long (by rw [← size_list]; exact z10)))
        go_wp2_with fail
        go_ret2
        exact ⟨NumPost.bad HN.out, rfl⟩
      · have t1 : decide (10 < u.size) = false := decide_eq_false z10
        have t2 : decide ((10 : Int) < (u.size : Int)) = false := decide_eq_false (by omega)
        have z1 : decide (1 < u.size) = true := decide_eq_true h1
        have z2 : decide ((1 : Int) < (u.size : Int)) = true := decide_eq_true (by omega)
        by_cases z48 : u[0]'(by omega) = 48
        · have y1 : (((u[0]'(by omega)).toNat : Int) == 48) = true := by rw [z48]; rfl
          have HN := Lib.hid (numP_none NUM.out (numM_zero (by rw [← size_list]; exact h1) (by rw [HAT.out 0 (by omega), z48])))
          go_wp2_with fail
          go_ret2
          exact ⟨NumPost.bad HN.out, rfl⟩
        · have y1 : (((u[0]'(by omega)).toNat : Int) == 48) = false := toNat_ne z48
          have HOK := Lib.hid (numOk_many (l := u.data.toList) (by rw [← size_list]; omega) (by rw [← size_list]; omega) (by rw [HAT.out 0 (by omega)]; intro e; exact z48 (Option.some.inj e)))
          clear z48
          go_wp2_with fail
          go_loopw [5, 6] (fun n i wr => ∃ k v : Nat, w = wr ∧ n = .int .i64 (v : Int) ∧ i = .int .i64 (k : Int) ∧ k ≤ u.size ∧ v ≤ 9999999999 ∧ Hid (decFrom 0 (u.data.toList.take k) = some v) ∧ Hid (v < 10 ^ k)) (fun _ i _ => u.size - (intOf i).toNat)
          case atStart => exact ⟨0, 0, rfl, rfl, rfl, Nat.zero_le _, by omega, Lib.hid rfl, Lib.hid (by decide)⟩
          case round =>
          obtain ⟨k, v, rfl, rfl, rfl, hk, hv, hD, hP⟩ := hrel
          by_cases hlt : k < u.size
          · have hb := HAT.out k hlt
            obtain ⟨b, hbb⟩ : ∃ b, b = u[k]'hlt := ⟨_, rfl⟩
            rw [← hbb] at hb
            have hbk : ∀ h, u[k]'h = b := fun _ => hbb.symm
            have HB := Lib.hid hb
            have hb256 := UInt8.toNat_lt b
            clear hb hbb
            by_cases h48 : b.toNat < 48
            · have p1 : decide (b.toNat < 48) = true := decide_eq_true h48
              have p2 : decide ((b.toNat : Int) < 48) = true := decide_eq_true (by omega)
              have HN := Lib.hid (numP_none (NUM.out) (numM_dec (dec_bad' hD.out HB.out (Or.inl h48))))
              clear h48
              go_wp2_with fail
              go_ret2
              exact ⟨NumPost.bad HN.out, rfl⟩
            · have p1 : decide (b.toNat < 48) = false := decide_eq_false h48
              have p2 : decide ((b.toNat : Int) < 48) = false := decide_eq_false (by omega)
              by_cases h57 : 57 < b.toNat
              · have p3 : decide (57 < b.toNat) = true := decide_eq_true h57
                have p4 : decide ((57 : Int) < (b.toNat : Int)) = true := decide_eq_true (by omega)
                have HN := Lib.hid (numP_none (NUM.out) (numM_dec (dec_bad' hD.out HB.out (Or.inr h57))))
                clear h48 h57
                go_wp2_with fail
                go_ret2
                exact ⟨NumPost.bad HN.out, rfl⟩
              · have p3 : decide (57 < b.toNat) = false := decide_eq_false h57
                have p4 : decide ((57 : Int) < (b.toNat : Int)) = false := decide_eq_false (by omega)
                obtain ⟨d, hd⟩ : ∃ d, d = b.toNat - 48 := ⟨_, rfl⟩
                have hd9 : d ≤ 9 := by omega
                have hw1 : IntKind.u8.wrap ((b.toNat : Int) - 48) = (d : Int) := by rw [show ((b.toNat : Int) - 48) = (d : Int) by omega]; rw [IntKind.wrap_u8]; omega
                have HST := Lib.hid (dec_step' hD.out HB.out (by omega) (by omega) hd)
                have HP2 := Lib.hid (pow_step hP.out hd9)
                have hv2 : 10 * v + d ≤ 9999999999 := by
                  have h1 := HP2.out
                  have h2 : 10 ^ (k + 1) ≤ 10 ^ 10 := Nat.pow_le_pow_right (by decide) (by omega)
                  omega
                clear h48 h57 hd
                go_wp2_with fail
                go_roundw
                case rel => exact ⟨k + 1, 10 * v + d, trivial, by go_num, by go_num, hlt, hv2, HST, HP2⟩
                case measure => simp [intOf]; omega
          · obtain rfl : k = u.size := by omega
            clear hlt
            have hdl := hD.out
            rw [List.take_of_length_le (by rw [← size_list]; exact Nat.le_refl _)] at hdl
            have HDL := Lib.hid hdl
            clear hdl hD hP
            by_cases hmx : v ≤ 2147483647
            · have p5 : decide (v ≤ 2147483647) = true := decide_eq_true hmx
              have p6 : decide ((v : Int) ≤ 2147483647) = true := decide_eq_true (by omega)
              have HN := Lib.hid (numP_some NUM.out (numM_ok HOK.out HDL.out hmx))
              clear hmx
              go_wp2_with fail
              go_ret2
              exact ⟨NumPost.good (by rw [HN.out]), rfl⟩
            · have p5 : decide (v ≤ 2147483647) = false := decide_eq_false hmx
              have p6 : decide ((v : Int) ≤ 2147483647) = false := decide_eq_false (by omega)
              have HN := Lib.hid (numP_none NUM.out (numM_big HDL.out hmx))
              clear hmx
              go_wp2_with fail
              go_ret2
              exact ⟨NumPost.bad HN.out, rfl⟩
  · have a1 : decide (1 < s.size) = false := decide_eq_false hA
    have a2 : decide ((1 : Int) < (s.size : Int)) = false := decide_eq_false (by omega)
    have NUM := Lib.hid (show numR l = (numM s.data.toList).map fun n : Nat => (n : Int) by
      rw [hl]; refine numR_pos fun h => hA ?_
      have := h.1
      rwa [← size_list] at this)
    obtain ⟨u, hu⟩ : ∃ u, u = s := ⟨_, rfl⟩
    subst hu
    have h1 := hA
    have HAT := Lib.hid (show ∀ i (h : i < u.size), u.data.toList[i]? = some (u[i]'h) from fun i h => getElem_list u i h)
    clear hl hA
    by_cases h0 : u.size = 0
    · have z0 : ((u.size : Int) == 0) = true := by rw [h0]; rfl
      have HZ := Lib.hid (show u.data.toList.length = 0 by rw [← size_list]; exact h0)
      clear h0
      go_enter Tryz.func59, Tryz.ntmps59
      have HN := Lib.hid (numP_none NUM.out (numM_nil HZ.out))
      go_wp2_with fail
      go_ret2
      exact ⟨NumPost.bad HN.out, rfl⟩
    · have z0 : ((u.size : Int) == 0) = false := by rw [beq_eq_false_iff_ne]; omega
      have t1 : decide (10 < u.size) = false := decide_eq_false (by omega)
      have t2 : decide ((10 : Int) < (u.size : Int)) = false := decide_eq_false (by omega)
      go_enter Tryz.func59, Tryz.ntmps59
      have z1 : decide (1 < u.size) = false := decide_eq_false h1
      have z2 : decide ((1 : Int) < (u.size : Int)) = false := decide_eq_false (by omega)
      have HOK := Lib.hid (numOk_one (l := u.data.toList) (by rw [← size_list]; omega) (by rw [← size_list]; omega))

      go_wp2_with fail
      go_loopw [5, 6] (fun n i wr => ∃ k v : Nat, w = wr ∧ n = .int .i64 (v : Int) ∧ i = .int .i64 (k : Int) ∧ k ≤ u.size ∧ v ≤ 9999999999 ∧ Hid (decFrom 0 (u.data.toList.take k) = some v) ∧ Hid (v < 10 ^ k)) (fun _ i _ => u.size - (intOf i).toNat)
      case atStart => exact ⟨0, 0, rfl, rfl, rfl, Nat.zero_le _, by omega, Lib.hid rfl, Lib.hid (by decide)⟩
      case round =>
      obtain ⟨k, v, rfl, rfl, rfl, hk, hv, hD, hP⟩ := hrel
      by_cases hlt : k < u.size
      · have hb := HAT.out k hlt
        obtain ⟨b, hbb⟩ : ∃ b, b = u[k]'hlt := ⟨_, rfl⟩
        rw [← hbb] at hb
        have hbk : ∀ h, u[k]'h = b := fun _ => hbb.symm
        have HB := Lib.hid hb
        have hb256 := UInt8.toNat_lt b
        clear hb hbb
        by_cases h48 : b.toNat < 48
        · have p1 : decide (b.toNat < 48) = true := decide_eq_true h48
          have p2 : decide ((b.toNat : Int) < 48) = true := decide_eq_true (by omega)
          have HN := Lib.hid (numP_none (NUM.out) (numM_dec (dec_bad' hD.out HB.out (Or.inl h48))))
          clear h48
          go_wp2_with fail
          go_ret2
          exact ⟨NumPost.bad HN.out, rfl⟩
        · have p1 : decide (b.toNat < 48) = false := decide_eq_false h48
          have p2 : decide ((b.toNat : Int) < 48) = false := decide_eq_false (by omega)
          by_cases h57 : 57 < b.toNat
          · have p3 : decide (57 < b.toNat) = true := decide_eq_true h57
            have p4 : decide ((57 : Int) < (b.toNat : Int)) = true := decide_eq_true (by omega)
            have HN := Lib.hid (numP_none (NUM.out) (numM_dec (dec_bad' hD.out HB.out (Or.inr h57))))
            clear h48 h57
            go_wp2_with fail
            go_ret2
            exact ⟨NumPost.bad HN.out, rfl⟩
          · have p3 : decide (57 < b.toNat) = false := decide_eq_false h57
            have p4 : decide ((57 : Int) < (b.toNat : Int)) = false := decide_eq_false (by omega)
            obtain ⟨d, hd⟩ : ∃ d, d = b.toNat - 48 := ⟨_, rfl⟩
            have hd9 : d ≤ 9 := by omega
            have hw1 : IntKind.u8.wrap ((b.toNat : Int) - 48) = (d : Int) := by rw [show ((b.toNat : Int) - 48) = (d : Int) by omega]; rw [IntKind.wrap_u8]; omega
            have HST := Lib.hid (dec_step' hD.out HB.out (by omega) (by omega) hd)
            have HP2 := Lib.hid (pow_step hP.out hd9)
            have hv2 : 10 * v + d ≤ 9999999999 := by
              have h1 := HP2.out
              have h2 : 10 ^ (k + 1) ≤ 10 ^ 10 := Nat.pow_le_pow_right (by decide) (by omega)
              omega
            clear h48 h57 hd
            go_wp2_with fail
            go_roundw
            case rel => exact ⟨k + 1, 10 * v + d, trivial, by go_num, by go_num, hlt, hv2, HST, HP2⟩
            case measure => simp [intOf]; omega
      · obtain rfl : k = u.size := by omega
        clear hlt
        have hdl := hD.out
        rw [List.take_of_length_le (by rw [← size_list]; exact Nat.le_refl _)] at hdl
        have HDL := Lib.hid hdl
        clear hdl hD hP
        by_cases hmx : v ≤ 2147483647
        · have p5 : decide (v ≤ 2147483647) = true := decide_eq_true hmx
          have p6 : decide ((v : Int) ≤ 2147483647) = true := decide_eq_true (by omega)
          have HN := Lib.hid (numP_some NUM.out (numM_ok HOK.out HDL.out hmx))
          clear hmx
          go_wp2_with fail
          go_ret2
          exact ⟨NumPost.good (by rw [HN.out]), rfl⟩
        · have p5 : decide (v ≤ 2147483647) = false := decide_eq_false hmx
          have p6 : decide ((v : Int) ≤ 2147483647) = false := decide_eq_false (by omega)
          have HN := Lib.hid (numP_none NUM.out (numM_big HDL.out hmx))
          clear hmx
          go_wp2_with fail
          go_ret2
          exact ⟨NumPost.bad HN.out, rfl⟩
end Go.Proofs.YtbpackopicngmaaGreatDoor
