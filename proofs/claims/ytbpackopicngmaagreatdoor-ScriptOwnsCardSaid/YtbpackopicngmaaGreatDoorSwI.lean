/- Walks, part I: may a number be written; a field that is not used. -/
import Derived.Test.YtbpackopicngmaaGreatDoorSwH
namespace Go.Proofs.YtbpackopicngmaaGreatDoor
open Go.RowKit Go.Proofs.Sc Go.Proofs.YtbpackopicngmaaGreatDoorW.PrintWords

theorem bounded_any (n : Int) (w : World) : Calls Tryz.prog 32 #[.int .i64 n] w fun e w' => e = .returned (.bool (decide (Sc.bounded n))) ∧ w = w' := by
  by_cases h1 : (-2147483647 : Int) ≤ n
  · have k1 : decide ((-2147483647 : Int) ≤ n) = true := by simpa using h1
    by_cases h2 : n ≤ 2147483647
    · have k2 : decide (n ≤ 2147483647) = true := by simpa using h2
      have hr : decide (Sc.bounded n) = true := by simp [Sc.bounded, h1, h2]
      rw [hr]
      clear h1 h2 hr
      go_enter Tryz.func32, Tryz.ntmps32
      go_wp2
      go_ret
      exact ⟨rfl, rfl⟩
    · have k2 : decide (n ≤ 2147483647) = false := by simp; omega
      have hr : decide (Sc.bounded n) = false := decide_eq_false (fun h => h2 h.2)
      rw [hr]
      clear h1 h2 hr
      go_enter Tryz.func32, Tryz.ntmps32
      go_wp2
      go_ret
      exact ⟨rfl, rfl⟩
  · have k1 : decide ((-2147483647 : Int) ≤ n) = false := by simp; omega
    have hr : decide (Sc.bounded n) = false := decide_eq_false (fun h => h1 h.1)
    rw [hr]
    clear h1 hr
    go_enter Tryz.func32, Tryz.ntmps32
    go_wp2
    go_ret
    exact ⟨rfl, rfl⟩

theorem ret_bool {a b : Bool} (h : a = b) : Ending.returned (.bool a) = .returned (.bool b) := by rw [h]

theorem contains_drop {l : By} {p : Nat} {f c : UInt8} (h : l[p]? = some f) (hn : f ≠ c) : (l.drop p).contains c = (l.drop (p + 1)).contains c := by
  rw [Lib.drop_at h]; simp; intro e; exact absurd e.symm hn

set_option maxHeartbeats 2000000 in
theorem hasRune_any (l : By) (hasc : ∀ c ∈ l, c.toNat < 128) (c : UInt8) (w : World) :
    Calls Tryz.prog 149 #[.string ⟨l.toArray⟩, .int .i32 c.toNat] w fun e w' => e = .returned (.bool (l.contains c)) ∧ Below w.heap.size w w' := by
  have hc := UInt8.toNat_lt c
  go_enter Tryz.func149, Tryz.ntmps149
  go_wp2_with fail
  go_loopw [9] (fun _ wr => ∃ p : Nat, p ≤ l.length ∧ wr.heap[w.heap.size]? = some (.stringIter ⟨l.toArray⟩ p) ∧ Below w.heap.size w wr ∧ Hid ((l.drop p).contains c = l.contains c)) (fun _ wr => l.length - wr.iterPos w.heap.size)
  case atStart => exact ⟨0, Nat.zero_le _, heap_alloc_new w _, (Below.refl _ _).alloc (Nat.le_refl _) _, rfl⟩
  case round =>
    obtain ⟨p, hp, hit, hb, hcon⟩ := hrel
    by_cases hlt : p < l.length
    · obtain ⟨f, hf⟩ : ∃ f, l[p]? = some f := ⟨l[p], List.getElem?_eq_getElem hlt⟩
      have hps : p < (⟨l.toArray⟩ : ByteArray).size := by rw [mk_size]; exact hlt
      have hpf : (⟨l.toArray⟩ : ByteArray)[p]'hps = f := list_at _ p f hf hps
      have hnx := fun ty => Lib.run_next_ascii_at (P := Tryz.prog) wr w.heap.size ⟨l.toArray⟩ p ty hit hps (by rw [hpf]; exact hasc f (List.mem_of_getElem? hf))
      rw [hpf] at hnx
      by_cases he : f = c
      · have k1 : ((f.toNat : Int) == (c.toNat : Int)) = true := by rw [he]; simp
        have hres := Lib.hid (show l.contains c = true by rw [← hcon.out, Lib.drop_at hf, he]; simp)
        have hb2 : Below w.heap.size w (wr.iterAt w.heap.size ⟨l.toArray⟩ (p + 1)) := Lib.below_iterAt hb (Nat.le_refl _) _ _
        clear he hf hpf hcon
        go_wp2_with fail
        go_ret
        exact ⟨ret_bool hres.out.symm, hb2⟩
      · have k1 : ((f.toNat : Int) == (c.toNat : Int)) = false := toNat_ne he
        have hres := Lib.hid (show (l.drop (p + 1)).contains c = l.contains c by rw [← hcon.out]; exact (contains_drop hf he).symm)
        have hb2 : Below w.heap.size w (wr.iterAt w.heap.size ⟨l.toArray⟩ (p + 1)) := Lib.below_iterAt hb (Nat.le_refl _) _ _
        have hi2 := Lib.iterAt_heap wr w.heap.size ⟨l.toArray⟩ p (p + 1) hit
        clear he hf hpf hcon
        go_wp2_with fail
        go_roundw
        case rel => exact ⟨p + 1, hlt, hi2, hb2, hres⟩
        case measure =>
          have h1 := iterPos_of hit
          have h2 := iterPos_of hi2
          show l.length - (wr.iterAt w.heap.size ⟨l.toArray⟩ (p + 1)).iterPos w.heap.size < l.length - wr.iterPos w.heap.size
          omega
    · have hnx := fun ty => Lib.run_next_end_at (P := Tryz.prog) wr w.heap.size ⟨l.toArray⟩ p ty hit (by rw [mk_size]; omega)
      have hres := Lib.hid (show l.contains c = false by rw [← hcon.out, List.drop_of_length_le (by omega)]; rfl)
      clear hcon
      go_wp2_with fail
      go_ret
      exact ⟨ret_bool hres.out.symm, hb⟩

def ntabl : By := [78, 84, 65, 66, 76]

/-- Is one of the marks set whose field is not among fs? -/
def anyOff (us : List Bool) (cs fs : By) : Bool := (us.zip cs).any fun p => p.1 && !fs.contains p.2

set_option maxHeartbeats 4000000 in
theorem spare_walk (k a b : Int) (nm tx : By) (A : Option Addr) (n c : Nat) (fs : By) (hasc : ∀ c ∈ fs, c.toNat < 128) (w : World) :
    Calls Tryz.prog 66 #[.agg #[.int .i64 k, .int .i64 a, .int .i64 b, .string ⟨nm.toArray⟩, .string ⟨tx.toArray⟩, .slice A n c], .string ⟨fs.toArray⟩] w fun e w' =>
      e = .returned (.bool (anyOff [!nm.isEmpty, !tx.isEmpty, a != 0, b != 0, decide (0 < n)] ntabl fs)) ∧ Below w.heap.size w w' := by
  obtain ⟨us, hus⟩ : ∃ us : List Bool, us = [!nm.isEmpty, !tx.isEmpty, a != 0, b != 0, decide (0 < n)] := ⟨_, rfl⟩
  have hul : us.length = 5 := by rw [hus]; rfl
  rw [← hus]
  have HUS := Lib.hid hus
  have HUL := Lib.hid hul
  clear hus hul
  go_enter Tryz.func66, Tryz.ntmps66
  go_wp2_with fail
  go_loopw [26] (fun _ wr => ∃ p : Nat, p ≤ 5 ∧ wr.heap[w.heap.size + 2]? = some (.stringIter ⟨ntabl.toArray⟩ p) ∧ wr.heap[w.heap.size + 1]? = some (.cells (us.map Value.bool).toArray 4 (0, 0)) ∧ Below w.heap.size w wr ∧ Hid (anyOff (us.drop p) (ntabl.drop p) fs = anyOff us ntabl fs)) (fun _ wr => 5 - wr.iterPos (w.heap.size + 2))
  case atStart =>
    refine ⟨0, Nat.zero_le _, ?_, ?_, ((((Below.refl _ _).alloc (Nat.le_refl _) _).alloc (by simp) _).alloc (by simp; omega) _), rfl⟩
    · have := World.iter_heap ((w.alloc (.cells #[.int .i64 k, .int .i64 a, .int .i64 b, .string ⟨nm.toArray⟩, .string ⟨tx.toArray⟩, .slice A n c] 44)).alloc (.cells #[.bool !List.isEmpty nm, .bool !List.isEmpty tx, .bool (a != 0), .bool (b != 0), .bool (decide (0 < n))] 4)) ⟨ntabl.toArray⟩ 0
      rw [show ((w.alloc (.cells #[.int .i64 k, .int .i64 a, .int .i64 b, .string ⟨nm.toArray⟩, .string ⟨tx.toArray⟩, .slice A n c] 44)).alloc (.cells #[.bool !List.isEmpty nm, .bool !List.isEmpty tx, .bool (a != 0), .bool (b != 0), .bool (decide (0 < n))] 4)).heap.size = w.heap.size + 2 by simp] at this
      exact this
    · rw [HUS.out]
      refine (Below.heap_alloc _ _ _ (by simp)).trans ?_
      have := heap_alloc_new (w.alloc (.cells #[.int .i64 k, .int .i64 a, .int .i64 b, .string ⟨nm.toArray⟩, .string ⟨tx.toArray⟩, .slice A n c] 44)) (.cells #[.bool !List.isEmpty nm, .bool !List.isEmpty tx, .bool (a != 0), .bool (b != 0), .bool (decide (0 < n))] 4)
      simpa using this
  case round =>
    obtain ⟨p, hp, hit, hbl, hb, hcon⟩ := hrel
    by_cases hlt : p < 5
    · obtain ⟨u, hu⟩ : ∃ u, us[p]? = some u := ⟨us[p]'(by rw [HUL.out]; exact hlt), List.getElem?_eq_getElem _⟩
      obtain ⟨f, hf⟩ : ∃ f, ntabl[p]? = some f := ⟨ntabl[p]'(by exact hlt), List.getElem?_eq_getElem _⟩
      have hps : p < (⟨ntabl.toArray⟩ : ByteArray).size := hlt
      have hpf : (⟨ntabl.toArray⟩ : ByteArray)[p]'hps = f := list_at _ p f hf hps
      have hfa : f.toNat < 128 := by
        have : ∀ c ∈ ntabl, c.toNat < 128 := by decide
        exact this f (List.mem_of_getElem? hf)
      have hnx := fun ty => Lib.run_next_ascii_at (P := Tryz.prog) wr (w.heap.size + 2) ⟨ntabl.toArray⟩ p ty hit hps (by rw [hpf]; exact hfa)
      rw [hpf] at hnx
      have hb2 : Below w.heap.size w (wr.iterAt (w.heap.size + 2) ⟨ntabl.toArray⟩ (p + 1)) := Lib.below_iterAt hb (by omega) _ _
      have hi2 := Lib.iterAt_heap wr (w.heap.size + 2) ⟨ntabl.toArray⟩ p (p + 1) hit
      have hbl2 := (Lib.iterAt_other wr (w.heap.size + 2) (w.heap.size + 1) ⟨ntabl.toArray⟩ (p + 1) (by omega)).trans hbl
      have hcell : (wr.iterAt (w.heap.size + 2) ⟨ntabl.toArray⟩ (p + 1)).cell? ⟨w.heap.size + 1, p, none⟩ = some (.bool u) := by rw [blk_cell hbl2]; simp [hu]
      have hsplit : anyOff (us.drop p) (ntabl.drop p) fs = ((u && !fs.contains f) || anyOff (us.drop (p + 1)) (ntabl.drop (p + 1)) fs) := by
        rw [Lib.drop_at hu, Lib.drop_at hf]; rfl
      have HSP := Lib.hid hsplit
      have hm1 := hit
      clear hsplit hu hf hpf hfa
      cases u with
      | false =>
        have hres := Lib.hid (show anyOff (us.drop (p + 1)) (ntabl.drop (p + 1)) fs = anyOff us ntabl fs by rw [← hcon.out, HSP.out]; simp)
        go_wp2_with fail
        go_roundw
        case rel => exact ⟨p + 1, hlt, hi2, hbl2, hb2, hres⟩
        case measure =>
          have h1 := iterPos_of hm1
          have h2 := iterPos_of hi2
          show 5 - (wr.iterAt (w.heap.size + 2) ⟨ntabl.toArray⟩ (p + 1)).iterPos (w.heap.size + 2) < 5 - wr.iterPos (w.heap.size + 2)
          omega
      | true =>
        cases hh : fs.contains f with
        | true =>
          have hres := Lib.hid (show anyOff (us.drop (p + 1)) (ntabl.drop (p + 1)) fs = anyOff us ntabl fs by rw [← hcon.out, HSP.out, hh]; simp)
          have HH := Lib.hid hh
          clear hh
          go_wp2_with fail
          refine (hasRune_any fs hasc f _).mono ?_
          rw [HH.out]
          rintro e w1 ⟨rfl, hw1⟩
          have hi3 := (hw1.block _ (blk_lt hi2)).trans hi2
          go_wp2_with fail
          go_roundw
          case rel => exact ⟨p + 1, hlt, hi3, (hw1.block _ (blk_lt hbl2)).trans hbl2, hb2.trans (hw1.mono hb2.size), hres⟩
          case measure =>
            have h1 := iterPos_of hm1
            have h2 := iterPos_of hi3
            show 5 - w1.iterPos (w.heap.size + 2) < 5 - wr.iterPos (w.heap.size + 2)
            omega
        | false =>
          have hres := Lib.hid (show anyOff us ntabl fs = true by rw [← hcon.out, HSP.out, hh]; simp)
          have HH := Lib.hid hh
          clear hh
          go_wp2_with fail
          refine (hasRune_any fs hasc f _).mono ?_
          rw [HH.out]
          rintro e w1 ⟨rfl, hw1⟩
          go_wp2_with fail
          go_ret
          exact ⟨ret_bool hres.out.symm, hb2.trans (hw1.mono hb2.size)⟩
    · obtain rfl : p = 5 := by omega
      have hnx := fun ty => Lib.run_next_end_at (P := Tryz.prog) wr (w.heap.size + 2) ⟨ntabl.toArray⟩ 5 ty hit (by decide)
      have hres := Lib.hid (show anyOff us ntabl fs = false by rw [← hcon.out]; have := List.drop_of_length_le (Nat.le_of_eq HUL.out); rw [this]; rfl)
      clear hcon
      go_wp2_with fail
      go_ret
      exact ⟨ret_bool hres.out.symm, hb⟩
end Go.Proofs.YtbpackopicngmaaGreatDoor
