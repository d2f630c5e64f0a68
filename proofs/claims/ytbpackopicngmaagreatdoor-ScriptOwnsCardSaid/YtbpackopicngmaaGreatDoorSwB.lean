/- Walks, part B: a word read as bytes. -/
import Derived.Test.YtbpackopicngmaaGreatDoorSwA
import Derived.Deep.QuietTactic
import Derived.BigQuiet
namespace Go.Proofs.YtbpackopicngmaaGreatDoor
open Go.RowKit Go.Proofs.Sc

/-- What a digit's byte says; -1: it is none. -/
def digI (c : UInt8) : Int := match digv c with | some d => d | none => -1

theorem ret_int {k : IntKind} {a b : Int} (h : a = b) : Ending.returned (.int k a) = .returned (.int k b) := by rw [h]

theorem digI_lo (c : UInt8) (h1 : 48 ≤ c.toNat) (h2 : c.toNat ≤ 57) : digI c = (c.toNat : Int) - 48 := by
  unfold digI digv; rw [if_neg (by omega), if_pos ⟨h1, h2⟩]; simp; omega
theorem digI_hi (c : UInt8) (h1 : 97 ≤ c.toNat) (h2 : c.toNat ≤ 102) : digI c = (c.toNat : Int) - 87 := by
  unfold digI digv; rw [if_pos ⟨h1, h2⟩]; simp; omega
theorem digI_no (c : UInt8) (h1 : ¬ (97 ≤ c.toNat ∧ c.toNat ≤ 102)) (h2 : ¬ (48 ≤ c.toNat ∧ c.toNat ≤ 57)) : digI c = -1 := by
  unfold digI digv; rw [if_neg h1, if_neg h2]

set_option maxHeartbeats 1000000 in
theorem digit_any (c : UInt8) (w : World) : Calls Tryz.prog 138 #[.int .u8 c.toNat] w fun e w' => e = .returned (.int .i64 (digI c)) ∧ w = w' := by
  have hc := UInt8.toNat_lt c
  by_cases h1 : 97 ≤ c.toNat
  · by_cases h2 : c.toNat ≤ 102
    · rw [digI_hi c h1 h2]
      have k1 : decide ((97 : Int) ≤ (c.toNat : Int)) = true := by simp; omega
      have k2 : decide ((c.toNat : Int) ≤ (102 : Int)) = true := by simp; omega
      go_enter Tryz.func138, Tryz.ntmps138
      go_wp2
      go_ret
      exact ⟨ret_int (by omega), rfl⟩
    · rw [digI_no c (by omega) (by omega)]
      have k1 : decide ((97 : Int) ≤ (c.toNat : Int)) = true := by simp; omega
      have k2 : decide ((c.toNat : Int) ≤ (102 : Int)) = false := by simp; omega
      have k3 : decide ((48 : Int) ≤ (c.toNat : Int)) = true := by simp; omega
      have k4 : decide ((c.toNat : Int) ≤ (57 : Int)) = false := by simp; omega
      go_enter Tryz.func138, Tryz.ntmps138
      go_wp2
      go_ret
      exact ⟨rfl, rfl⟩
  · have k1 : decide ((97 : Int) ≤ (c.toNat : Int)) = false := by simp; omega
    by_cases h2 : 48 ≤ c.toNat
    · by_cases h3 : c.toNat ≤ 57
      · rw [digI_lo c h2 h3]
        have k3 : decide ((48 : Int) ≤ (c.toNat : Int)) = true := by simp; omega
        have k4 : decide ((c.toNat : Int) ≤ (57 : Int)) = true := by simp; omega
        go_enter Tryz.func138, Tryz.ntmps138
        go_wp2
        go_ret
        exact ⟨rfl, rfl⟩
      · rw [digI_no c (by omega) (by omega)]
        have k3 : decide ((48 : Int) ≤ (c.toNat : Int)) = true := by simp; omega
        have k4 : decide ((c.toNat : Int) ≤ (57 : Int)) = false := by simp; omega
        go_enter Tryz.func138, Tryz.ntmps138
        go_wp2
        go_ret
        exact ⟨rfl, rfl⟩
    · rw [digI_no c (by omega) (by omega)]
      have k3 : decide ((48 : Int) ≤ (c.toNat : Int)) = false := by simp; omega
      go_enter Tryz.func138, Tryz.ntmps138
      go_wp2
      go_ret
      exact ⟨rfl, rfl⟩

theorem digI_some {c : UInt8} {d : Nat} (h : digv c = some d) : digI c = d ∧ d < 16 := by
  unfold digI; rw [h]
  refine ⟨rfl, ?_⟩
  unfold digv at h
  split at h
  · cases h; omega
  · split at h
    · cases h; omega
    · cases h
theorem digI_none {c : UInt8} (h : digv c = none) : digI c = -1 := by unfold digI; rw [h]

/-- What script.unescape gives, as a tuple. -/
def unTuple (w : By) : Value :=
  match unEsc w with
  | some (c, r) => .tuple #[.int .u8 c.toNat, .string ⟨r.toArray⟩, .bool true]
  | none => .tuple #[.int .u8 0, .string ⟨#[]⟩, .bool false]

theorem extract_from (l : By) (k : Nat) : (⟨l.toArray⟩ : ByteArray).extract k (⟨l.toArray⟩ : ByteArray).size = ⟨(l.drop k).toArray⟩ := by
  apply byteEq
  rw [Lib.extract_data]
  simp [ByteArray.size, List.take_of_length_le]

set_option maxHeartbeats 1000000 in
theorem unescape_short (w : World) (l : By) (h : l.length < 2) :
    Calls Tryz.prog 49 #[.string ⟨l.toArray⟩] w fun e w' => e = .returned (unTuple l) ∧ ∃ n, w' = w.drewN n := by
  have hu : unTuple l = .tuple #[.int .u8 0, .string ⟨#[]⟩, .bool false] := by
    match l, h with
    | [], _ => rfl
    | [_], _ => rfl
  rw [hu]
  have hs : ((⟨l.toArray⟩ : ByteArray).size : Int) < 2 := by simp [ByteArray.size]; omega
  go_enter Tryz.func49, Tryz.ntmps49
  go_wp2
  go_ret3
  exact ⟨rfl, 0, rfl⟩

set_option maxHeartbeats 2000000 in
theorem unescape_simple (w : World) (s : ByteArray) (x y : Nat) (h2 : 2 ≤ s.size) (hmax : s.size ≤ 33554432) (hx : ∀ h : 1 < s.size, ((s[1]'h).toNat : Int) = (x : Int)) (hxy : (x = 110 ∧ y = 10) ∨ (x = 116 ∧ y = 9) ∨ (x = 115 ∧ y = 32) ∨ (x = 104 ∧ y = 35) ∨ (x = 92 ∧ y = 92)) :
    Calls Tryz.prog 49 #[.string s] w fun e w' => e = .returned (.tuple #[.int .u8 (y : Int), .string (s.extract 2 s.size), .bool true]) ∧ ∃ n, w' = w.drewN n := by
  have h2' : (2 : Int) ≤ (s.size : Int) := by omega
  rcases hxy with ⟨rfl, rfl⟩ | ⟨rfl, rfl⟩ | ⟨rfl, rfl⟩ | ⟨rfl, rfl⟩ | ⟨rfl, rfl⟩
  all_goals
    go_enter Tryz.func49, Tryz.ntmps49
    go_wp2
    go_quiet (fail)
    go_wp2
    go_ret3
    exact ⟨rfl, _, rfl⟩

set_option maxHeartbeats 2000000 in
theorem unescape_other (w : World) (s : ByteArray) (h2 : 2 ≤ s.size) (hx : ∀ h : 1 < s.size, (((s[1]'h).toNat : Int) == 110) = false ∧ (((s[1]'h).toNat : Int) == 116) = false ∧ (((s[1]'h).toNat : Int) == 115) = false ∧ (((s[1]'h).toNat : Int) == 104) = false ∧ (((s[1]'h).toNat : Int) == 120) = false ∧ (((s[1]'h).toNat : Int) == 92) = false) :
    Calls Tryz.prog 49 #[.string s] w fun e w' => e = .returned (.tuple #[.int .u8 0, .string ⟨#[]⟩, .bool false]) ∧ ∃ n, w' = w.drewN n := by
  have h2' : (2 : Int) ≤ (s.size : Int) := by omega
  obtain ⟨h3, h4, h5, h6, h7, h8⟩ := hx (by omega)
  clear hx
  go_enter Tryz.func49, Tryz.ntmps49
  go_wp2
  go_ret3
  exact ⟨rfl, 0, rfl⟩

set_option maxHeartbeats 2000000 in
theorem unescape_hexshort (w : World) (s : ByteArray) (h2 : 2 ≤ s.size) (hn : s.size < 4) (hx : ∀ h : 1 < s.size, ((s[1]'h).toNat : Int) = 120) :
    Calls Tryz.prog 49 #[.string s] w fun e w' => e = .returned (.tuple #[.int .u8 0, .string ⟨#[]⟩, .bool false]) ∧ ∃ n, w' = w.drewN n := by
  have h2' : (2 : Int) ≤ (s.size : Int) := by omega
  have h4 : decide ((s.size : Int) < 4) = true := by simp; omega
  go_enter Tryz.func49, Tryz.ntmps49
  go_wp2
  go_ret3
  exact ⟨rfl, 0, rfl⟩

theorem or_fin : ∀ x y : Fin 16, bits BinOp.or IntKind.i64 ((x.val : Int) * 16) (y.val : Int) % 256 = ((x.val * 16 + y.val : Nat) : Int) := by decide +kernel
theorem ret_hex {x y : Nat} (hX : x < 16) (hY : y < 16) {n : Int} {u v : Value} (hn : n = bits BinOp.or IntKind.i64 ((x : Int) * 16) (y : Int) % 256) : Ending.returned (.tuple #[.int .u8 n, u, v]) = .returned (.tuple #[.int .u8 ((x * 16 + y : Nat) : Int), u, v]) := by
  rw [hn, or_fin ⟨x, hX⟩ ⟨y, hY⟩]

theorem digit_same (c : UInt8) (w : World) : Calls Tryz.prog 138 #[.int .u8 c.toNat] w fun e w' => e = .returned (.int .i64 (digI c)) ∧ w' = w := (digit_any c w).mono fun _ _ ⟨h1, h2⟩ => ⟨h1, h2.symm⟩

theorem digit_as (c : UInt8) (v : Int) (hv : v = c.toNat) (w : World) : Calls Tryz.prog 138 #[.int .u8 v] w fun e w' => e = .returned (.int .i64 (digI c)) ∧ w' = w := by
  subst hv; exact (digit_any c w).mono fun _ _ ⟨h1, h2⟩ => ⟨h1, h2.symm⟩

set_option maxHeartbeats 2000000 in
theorem unescape_hexbad (w : World) (s : ByteArray) (h4 : 4 ≤ s.size) (hx : ∀ h : 1 < s.size, ((s[1]'h).toNat : Int) = 120) (hd : (digI (s[2]'(by omega)) < 0) ∨ (0 ≤ digI (s[2]'(by omega)) ∧ digI (s[3]'(by omega)) < 0)) :
    Calls Tryz.prog 49 #[.string s] w fun e w' => e = .returned (.tuple #[.int .u8 0, .string ⟨#[]⟩, .bool false]) ∧ ∃ n, w' = w.drewN n := by
  have h2' : (4 : Int) ≤ (s.size : Int) := by omega
  have h4 : decide ((s.size : Int) < 4) = false := by simp; omega
  rcases hd with h5 | ⟨h5, h6⟩
  · have h5 : decide (digI (s[2]'(by omega)) < 0) = true := by simpa using h5
    go_enter Tryz.func49, Tryz.ntmps49
    go_wp2_with fail
    refine (digit_as (s[2]'(by omega)) _ rfl _).mono ?_
    rintro e w1 ⟨rfl, rfl⟩
    go_wp2_with fail
    go_ret3
    exact ⟨rfl, 0, rfl⟩
  · have h5 : decide (digI (s[2]'(by omega)) < 0) = false := by simpa using h5
    have h6 : decide (digI (s[3]'(by omega)) < 0) = true := by simpa using h6
    go_enter Tryz.func49, Tryz.ntmps49
    go_wp2_with fail
    refine (digit_as (s[2]'(by omega)) _ rfl _).mono ?_
    rintro e w1 ⟨rfl, rfl⟩
    go_wp2_with fail
    refine (digit_as (s[3]'(by omega)) _ rfl _).mono ?_
    rintro e w1 ⟨rfl, rfl⟩
    go_wp2_with fail
    go_ret3
    exact ⟨rfl, 0, rfl⟩

set_option maxHeartbeats 2000000 in
theorem unescape_hex (w : World) (s : ByteArray) (h4 : 4 ≤ s.size) (hmax : s.size ≤ 33554432) (hx : ∀ h : 1 < s.size, ((s[1]'h).toNat : Int) = 120) (x y : Nat) (hX : x < 16) (hY : y < 16) (e2 : digI (s[2]'(by omega)) = x) (e3 : digI (s[3]'(by omega)) = y) :
    Calls Tryz.prog 49 #[.string s] w fun e w' => e = .returned (.tuple #[.int .u8 ((x * 16 + y : Nat) : Int), .string (s.extract 4 s.size), .bool true]) ∧ ∃ n, w' = w.drewN n := by
  have h2' : (4 : Int) ≤ (s.size : Int) := by omega
  have h4' : decide ((s.size : Int) < 4) = false := by simp; omega
  go_enter Tryz.func49, Tryz.ntmps49
  go_wp2_with fail
  refine (digit_same _ _).mono ?_
  rintro e w1 ⟨rfl, rfl⟩
  go_wp2_with fail
  refine (digit_same _ _).mono ?_
  rintro e w1 ⟨rfl, rfl⟩
  go_wp2_with fail
  go_quiet ((go_at_call 138; exact Calls.quiet_of_same (digit_same _ _)))
  go_wp2_with fail
  go_ret3
  exact ⟨ret_hex hX hY rfl, _, rfl⟩

theorem toNat_ne {c d : UInt8} (h : c ≠ d) : ((c.toNat : Int) == (d.toNat : Int)) = false := by
  rw [beq_eq_false_iff_ne]; intro e; exact h (UInt8.toNat_inj.1 (Int.ofNat_inj.1 e))

theorem list_at (s : ByteArray) (i : Nat) (c : UInt8) (hc : s.data.toList[i]? = some c) (h : i < s.size) : s[i]'h = c := by
  rw [getElem_list s i h] at hc; exact Option.some.inj hc

theorem unescape_any (w : World) (s : ByteArray) (hmax : s.size ≤ 33554432) :
    Calls Tryz.prog 49 #[.string s] w fun e w' => e = .returned (unTuple s.data.toList) ∧ ∃ n, w' = w.drewN n := by
  by_cases h2 : s.size < 2
  · have := unescape_short w s.data.toList (by rw [← size_list]; exact h2)
    rwa [mk_data] at this
  · obtain ⟨a, c, r, hl⟩ : ∃ a c r, s.data.toList = a :: c :: r := by
      match h : s.data.toList with
      | [] => exact absurd (show s.size = 0 by rw [size_list, h]; rfl) (by omega)
      | [_] => exact absurd (show s.size = 1 by rw [size_list, h]; rfl) (by omega)
      | a :: c :: r => exact ⟨a, c, r, rfl⟩
    have hsz : s.size = r.length + 2 := by rw [size_list, hl]; simp
    have h1 : ∀ h : 1 < s.size, s[1]'h = c := fun h => list_at s 1 c (by rw [hl]; rfl) h
    have hex2 : s.extract 2 s.size = ⟨r.toArray⟩ := by
      apply byteEq; rw [Lib.extract_data, hl]; simp [hsz]
    rw [hl]
    by_cases hc : c = 110 ∨ c = 116 ∨ c = 115 ∨ c = 104 ∨ c = 92
    · obtain ⟨y, hy1, hy2, hy3⟩ : ∃ y : UInt8, unEsc (a :: c :: r) = some (y, r) ∧ ((c.toNat = 110 ∧ y.toNat = 10) ∨ (c.toNat = 116 ∧ y.toNat = 9) ∨ (c.toNat = 115 ∧ y.toNat = 32) ∨ (c.toNat = 104 ∧ y.toNat = 35) ∨ (c.toNat = 92 ∧ y.toNat = 92)) ∧ True := by
        rcases hc with rfl | rfl | rfl | rfl | rfl
        · exact ⟨10, by simp [unEsc], by decide, trivial⟩
        · exact ⟨9, by simp [unEsc], by decide, trivial⟩
        · exact ⟨32, by simp [unEsc], by decide, trivial⟩
        · exact ⟨35, by simp [unEsc], by decide, trivial⟩
        · exact ⟨92, by simp [unEsc], by decide, trivial⟩
      have := unescape_simple w s c.toNat y.toNat (by omega) hmax (fun h => by rw [h1 h]) hy2
      rw [hex2] at this
      unfold unTuple; rw [hy1]; exact this
    · by_cases hx : c = 120
      · subst hx
        have hx' : ∀ h : 1 < s.size, ((s[1]'h).toNat : Int) = 120 := fun h => by rw [h1 h]; rfl
        match r, hl, hsz with
        | [], hl, hsz =>
          have : unTuple [a, 120] = .tuple #[.int .u8 0, .string ⟨#[]⟩, .bool false] := by simp [unTuple, unEsc]
          rw [this]; exact unescape_hexshort w s (by omega) (by rw [hsz]; simp) hx'
        | [p], hl, hsz =>
          have : unTuple [a, 120, p] = .tuple #[.int .u8 0, .string ⟨#[]⟩, .bool false] := by simp [unTuple, unEsc]
          rw [this]; exact unescape_hexshort w s (by omega) (by rw [hsz]; simp) hx'
        | p :: q :: r', hl, hsz =>
          have h4 : 4 ≤ s.size := by rw [hsz]; simp
          have hp : s[2]'(by omega) = p := list_at s 2 p (by rw [hl]; rfl) _
          have hq : s[3]'(by omega) = q := list_at s 3 q (by rw [hl]; rfl) _
          have hex4 : s.extract 4 s.size = ⟨r'.toArray⟩ := by
            apply byteEq; rw [Lib.extract_data, hl]; simp [hsz]
          cases hdp : digv p with
          | none =>
            have : unTuple (a :: 120 :: p :: q :: r') = .tuple #[.int .u8 0, .string ⟨#[]⟩, .bool false] := by simp [unTuple, unEsc, hdp]
            rw [this]; exact unescape_hexbad w s h4 hx' (Or.inl (by rw [hp, digI_none hdp]; decide))
          | some x =>
            obtain ⟨ex, hxl⟩ := digI_some hdp
            cases hdq : digv q with
            | none =>
              have : unTuple (a :: 120 :: p :: q :: r') = .tuple #[.int .u8 0, .string ⟨#[]⟩, .bool false] := by simp [unTuple, unEsc, hdp, hdq]
              rw [this]; exact unescape_hexbad w s h4 hx' (Or.inr ⟨by rw [hp, ex]; omega, by rw [hq, digI_none hdq]; decide⟩)
            | some y =>
              obtain ⟨ey, hyl⟩ := digI_some hdq
              have hb : (UInt8.ofNat (x * 16 + y)).toNat = x * 16 + y := by
                rw [UInt8.toNat_ofNat']; exact Nat.mod_eq_of_lt (by omega)
              have : unTuple (a :: 120 :: p :: q :: r') = .tuple #[.int .u8 ((x * 16 + y : Nat) : Int), .string ⟨r'.toArray⟩, .bool true] := by
                unfold unTuple
                have hu : unEsc (a :: 120 :: p :: q :: r') = some (UInt8.ofNat (x * 16 + y), r') := by simp [unEsc, hdp, hdq]
                rw [hu]; simp only [hb]
              rw [this]
              have := unescape_hex w s h4 hmax hx' x y hxl hyl (by rw [hp]; exact ex) (by rw [hq]; exact ey)
              rwa [hex4] at this
      · have : unTuple (a :: c :: r) = .tuple #[.int .u8 0, .string ⟨#[]⟩, .bool false] := by
          have hu : unEsc (a :: c :: r) = none := by
            simp only [not_or] at hc
            obtain ⟨c1, c2, c3, c4, c5⟩ := hc
            simp [unEsc, c1, c2, c3, c4, c5, hx]
          unfold unTuple; rw [hu]
        rw [this]
        simp only [not_or] at hc
        obtain ⟨c1, c2, c3, c4, c5⟩ := hc
        exact unescape_other w s (by omega) (fun h => by rw [h1 h]; exact ⟨toNat_ne c1, toNat_ne c2, toNat_ne c3, toNat_ne c4, toNat_ne hx, toNat_ne c5⟩)

theorem unTuple_some {w r : By} {c : UInt8} (h : unEsc w = some (c, r)) : unTuple w = .tuple #[.int .u8 c.toNat, .string ⟨r.toArray⟩, .bool true] := by unfold unTuple; rw [h]
theorem unTuple_none {w : By} (h : unEsc w = none) : unTuple w = .tuple #[.int .u8 0, .string ⟨#[]⟩, .bool false] := by unfold unTuple; rw [h]

end Go.Proofs.YtbpackopicngmaaGreatDoor
