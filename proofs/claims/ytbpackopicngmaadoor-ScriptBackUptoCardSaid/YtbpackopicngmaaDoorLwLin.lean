/- The laws' lines(): the lines of a text, a last one that is empty left out. -/
import Derived.Test.YtbpackopicngmaaDoorSwN
import Derived.Test.YtbpackopicngmaaDoorPrL
namespace Go.Proofs.Sc

def goLines (t : By) : List By := if (linesOf t).getLast? = some [] then (linesOf t).dropLast else linesOf t

theorem goLines_nil : goLines [] = [] := by simp [goLines, linesOf]
theorem linesOf_flat : ∀ (l : By), (∀ c ∈ l, c ≠ 10) → linesOf l = [l]
  | [], _ => rfl
  | c :: l, h => by
    simp only [linesOf]
    rw [if_neg (h c (by simp)), linesOf_flat l (fun x hx => h x (by simp [hx]))]
theorem goLines_flat (l : By) (h : ∀ c ∈ l, c ≠ 10) (hl : l ≠ []) : goLines l = [l] := by
  unfold goLines; rw [linesOf_flat l h]; simp [hl]
theorem goLines_line (l r : By) (h : ∀ c ∈ l, c ≠ 10) : goLines (l ++ 10 :: r) = l :: goLines r := by
  unfold goLines
  rw [linesOf_line l r h]
  have hn := linesOf_ne r
  cases hr : linesOf r with
  | nil => exact absurd hr hn
  | cons x xs =>
    rw [List.getLast?_cons_cons, List.dropLast_cons_cons]
    split <;> rfl
end Go.Proofs.Sc
namespace Go.Proofs.YtbpackopicngmaaDoor
open Go.RowKit Go.Proofs.Sc Go.Proofs.YtbpackopicngmaaDoorW.PrintWords

theorem extract_mk (s : ByteArray) (f i : Nat) : s.extract f i = ⟨((s.data.toList.drop f).take (i - f)).toArray⟩ := by
  apply byteEq
  rw [Lib.extract_data]

theorem lines_l0 (s : ByteArray) (hs : s.size ≤ 33554432) : ∀ (d k i f : Nat) (acc : List ByteArray), i + d = s.size → d < k → f ≤ i → acc.length ≤ i → (∀ c ∈ (s.data.toList.drop f).take (i - f), c ≠ 10) →
    PrL.pithlaw26_lines.l0 k s acc (f : Int) (i : Int) = some (acc ++ (goLines (s.data.toList.drop f)).map fun l => (⟨l.toArray⟩ : ByteArray))
  | d, 0, i, f, acc, _, hk, _, _, _ => absurd hk (by omega)
  | 0, k + 1, i, f, acc, hi, _, hf, ha, hn => by
    have hlen : s.data.toList.length = s.size := (size_list s).symm
    rw [List.take_of_length_le (by rw [List.length_drop]; omega)] at hn
    simp only [PrL.pithlaw26_lines.l0]
    rw [if_neg (by omega)]
    by_cases h : f < s.size
    · have hne : s.data.toList.drop f ≠ [] := by
        intro e; have := congrArg List.length e; rw [List.length_drop] at this; simp at this; omega
      rw [if_pos (by omega), if_pos (by omega), if_pos (by omega), if_pos (by omega), goLines_flat _ hn hne, Int.toNat_natCast, extract_mk, List.take_of_length_le (by rw [List.length_drop]; omega)]
      rfl
    · rw [if_neg (by omega), List.drop_of_length_le (by omega), goLines_nil]; simp
  | d + 1, k + 1, i, f, acc, hi, hk, hf, ha, hn => by
    have hlen : s.data.toList.length = s.size := (size_list s).symm
    have hx : s.data.toList[i]? = some (s[i]'(by omega)) := getElem_list s i (by omega)
    have hb : bt s (i : Int) = ((s[i]'(by omega)).toNat : Int) := by
      have hi2 : (i : Int).toNat < s.size := by omega
      unfold bt
      rw [dif_pos hi2]
      simp
    simp only [PrL.pithlaw26_lines.l0]
    rw [if_pos (by omega), if_pos (by omega), show bt s (i : Int) = ((s[i]'(by omega)).toNat : Int) from hb]
    by_cases h10 : s[i]'(by omega) = 10
    · rw [if_pos (by rw [h10]; rfl), if_pos (by omega), if_pos (by omega), if_pos (by omega), if_pos (by omega), wrap_nat i (by omega), Int.toNat_natCast, Int.toNat_natCast, extract_mk]
      have hd : s.data.toList.drop f = (s.data.toList.drop f).take (i - f) ++ 10 :: s.data.toList.drop (i + 1) := by
        have h1 := (List.take_append_drop (i - f) (s.data.toList.drop f)).symm
        have h2 : s.data.toList.drop i = 10 :: s.data.toList.drop (i + 1) := Lib.drop_at (by rw [hx, h10])
        rw [List.drop_drop, show f + (i - f) = i by omega, h2] at h1
        exact h1
      rw [lines_l0 s hs d k (i + 1) (i + 1) _ (by omega) (by omega) (Nat.le_refl _) (by simp; omega) (by simp)]
      conv => rhs; rw [hd, goLines_line _ _ hn]
      simp
    · rw [if_neg (by intro e; exact h10 (UInt8.toNat_inj.1 (by have : (10 : UInt8).toNat = 10 := rfl; omega))), wrap_nat i (by omega)]
      refine lines_l0 s hs d k (i + 1) f acc (by omega) (by omega) (by omega) (by omega) ?_
      rw [show i + 1 - f = (i - f) + 1 by omega, List.take_add_one, List.getElem?_drop, show f + (i - f) = i by omega, hx]
      intro c hc
      rcases List.mem_append.1 hc with hc | hc
      · exact hn c hc
      · simp at hc; rw [hc]; exact h10

theorem lines_any (s : ByteArray) (hs : s.size ≤ 33554432) (w : World) : Calls Tryd.prog 23 #[.string s] w fun e w' => ∃ v, e = .returned v ∧ Kd.R Kd.string 9 w' w.heap.size (fun _ => True) v ((goLines s.data.toList).map fun l => (⟨l.toArray⟩ : ByteArray)) ∧ Below w.heap.size w w' :=
  PrL.pithlaw26_lines.calls (s.size + 1) s _ w (by
    unfold PrL.pithlaw26_lines.f
    exact lines_l0 s hs s.size (s.size + 1) 0 0 [] (by omega) (by omega) (Nat.le_refl _) (Nat.zero_le _) (by simp))
end Go.Proofs.YtbpackopicngmaaDoor
