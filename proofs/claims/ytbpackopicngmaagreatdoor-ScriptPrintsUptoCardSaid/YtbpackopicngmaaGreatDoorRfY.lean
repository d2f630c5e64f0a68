/- Merged out of RfO RfQ RfR RfT LwBkF by gen/merge.py (a claim has at most 60 files). -/
import Derived.Test.YtbpackopicngmaaGreatDoorSwM
import Derived.BigQuiet
import Derived.Test.YtbpackopicngmaaGreatDoorLwBk
import Derived.Test.YtbpackopicngmaaGreatDoorPrB
namespace Go.Proofs.YtbpackopicngmaaGreatDoor
open Go.RowKit Go.Proofs.Sc Go.Proofs.YtbpackopicngmaaGreatDoorW.PrintWords

theorem sameOps_any (a b : List POp) (A0 A1 : Option Addr) (c0 c1 : Nat) (w : World) (h0 : kOp.C w A0 a.length a) (h1 : kOp.C w A1 b.length b) (hc0 : a.length ≤ c0) (hc1 : b.length ≤ c1) :
    Calls Tryz.prog 29 #[.slice A0 a.length c0, .slice A1 b.length c1] w fun e w' => (∃ r : Bool, e = .returned (.bool r) ∧ (r = true ↔ a = b)) ∧ Below w.heap.size w w' := by
  obtain ⟨M, hM, hM2⟩ := exists_bound a (op_lists h0)
  have key : ∃ r, Pr.pithref_SameOps.f (a.length + M + 1) (a.map toS) (b.map toS) = some r ∧ (r = true ↔ a = b) := by
    unfold Pr.pithref_SameOps.f
    simp only [List.length_map]
    by_cases h : a.length = b.length
    · rw [if_pos (by omega)]; exact ops_l0 a b h h0.2.1 M hM hM2 a.length _ 0 (by omega) (by omega) rfl
    · rw [if_neg (by omega)]; exact ⟨false, rfl, by simp; intro e; rw [e] at h; exact h rfl⟩
  obtain ⟨r, h2, h3⟩ := key
  have := Pr.pithref_SameOps.calls (a.length + M + 1) A0 c0 (a.map toS) A1 c1 (b.map toS) r w (by rw [List.length_map]; exact kOp_C54 h0) (by rw [List.length_map]; exact hc0) (by rw [List.length_map]; exact kOp_C54 h1) (by rw [List.length_map]; exact hc1) h2
  rw [List.length_map, List.length_map] at this
  exact this.mono fun e w' ⟨h4, h5⟩ => ⟨⟨r, h4, h3⟩, h5⟩

/-- The lent steps: block g the row; of the first of them the lists in blocks of their own, a mark behind each; a mark behind all. -/
structure Lent (B g cap : Nat) (bs : List (Nat × Nat)) (ops : List POp) (W : World) : Prop where
  blk : ∃ cs, W.heap[g]? = some (.cells cs 44 (0, 0))
  ge : B ≤ g
  room : ops.length < cap ∧ cap ≤ 9223372036854775807
  scal : ∀ i o, ops[i]? = some o → W.cell? ⟨g, i * 6, none⟩ = some (.int .i64 o.kind) ∧ W.cell? ⟨g, i * 6 + 1, none⟩ = some (.int .i64 o.a) ∧ W.cell? ⟨g, i * 6 + 2, none⟩ = some (.int .i64 o.b) ∧ W.cell? ⟨g, i * 6 + 3, none⟩ = some (.string ⟨o.name.toArray⟩) ∧ W.cell? ⟨g, i * 6 + 4, none⟩ = some (.string ⟨o.text.toArray⟩) ∧ ∃ v, W.cell? ⟨g, i * 6 + 5, none⟩ = some v
  list : ∀ i o b, ops[i]? = some o → bs[i]? = some b → W.cell? ⟨g, i * 6 + 5, none⟩ = some (.slice (some ⟨b.1, 0, none⟩) o.list.length b.2) ∧ o.list.length < b.2 ∧ b.2 ≤ 9223372036854775807 ∧ (∃ cs, W.heap[b.1]? = some (.cells cs 3 (0, 0))) ∧ B ≤ b.1 ∧ (∀ j x, o.list[j]? = some x → W.cell? ⟨b.1, j, none⟩ = some (.int .i64 x)) ∧ W.cell? ⟨b.1, o.list.length, none⟩ = some (.int .i64 202)
  apart : ∀ (i j : Nat) (b b' : Nat × Nat), i ≠ j → bs[i]? = some b → bs[j]? = some b' → b.1 ≠ b'.1
  mark : W.cell? ⟨g, ops.length * 6, none⟩ = some (.int .i64 201)

theorem Lent.later {B g cap : Nat} {bs : List (Nat × Nat)} {ops : List POp} {W W1 : World} (h : Lent B g cap bs ops W) (hb : Below W.heap.size W W1) : Lent B g cap bs ops W1 := by
  have k : ∀ (a : Addr) v, W.cell? a = some v → W1.cell? a = some v := fun a v e => by rw [hb.cell (World.block_lt_of_cell? W a e)]; exact e
  refine ⟨?_, h.ge, h.room, fun i o ho => ?_, fun i o b ho hbi => ?_, h.apart, k _ _ h.mark⟩
  · obtain ⟨cs, hcs⟩ := h.blk
    exact ⟨cs, (hb.block _ (blk_lt hcs)).trans hcs⟩
  · obtain ⟨h0, h1, h2, h3, h4, v, h5⟩ := h.scal i o ho
    exact ⟨k _ _ h0, k _ _ h1, k _ _ h2, k _ _ h3, k _ _ h4, v, k _ _ h5⟩
  · obtain ⟨h0, h1, h2, ⟨cs, h3⟩, h4, h5, h6⟩ := h.list i o b ho hbi
    exact ⟨k _ _ h0, h1, h2, ⟨cs, (hb.block _ (blk_lt h3)).trans h3⟩, h4, fun j x hx => k _ _ (h5 j x hx), k _ _ h6⟩

/-- They are read as those steps. -/
theorem Lent.reads {B g cap : Nat} {bs : List (Nat × Nat)} {ops : List POp} {W : World} (h : Lent B g cap bs ops W) (hl : bs.length = ops.length) : kOp.C W (some ⟨g, 0, none⟩) ops.length ops := by
  refine ⟨rfl, by have := h.room; omega, fun _ => ⟨_, rfl, fun i o ho => ?_⟩⟩
  obtain ⟨b, hbi⟩ : ∃ b, bs[i]? = some b := ⟨bs[i]'(by rw [hl]; exact (List.getElem?_eq_some_iff.1 ho).1), List.getElem?_eq_getElem _⟩
  obtain ⟨h0, h1, h2, h3, h4, _⟩ := h.scal i o ho
  obtain ⟨g0, g1, g2, _, _, g5, _⟩ := h.list i o b ho hbi
  refine ⟨_, rfl, kOp_mk W o (A5 := some ⟨b.1, 0, none⟩) (c5 := b.2) (by omega) (Kd.C_of_reads (d := (0 : Int)) ⟨rfl, by omega, fun _ => ⟨_, rfl, fun j hj => ?_⟩⟩), fun k u hu => ?_⟩
  · obtain ⟨x, hx⟩ : ∃ x, o.list[j]? = some x := ⟨o.list[j]'hj, List.getElem?_eq_getElem _⟩
    rw [add_plain, g5 j x hx]
    simp [List.getD_eq_getElem?_getD, hx]
  · have hk : k < 6 := (List.getElem?_eq_some_iff.1 hu).1
    rw [show kOp.sz = 6 from rfl, add_plain]
    match k, hk, hu with
    | 0, _, hu => cases hu; exact h0
    | 1, _, hu => cases hu; exact h1
    | 2, _, hu => cases hu; exact h2
    | 3, _, hu => cases hu; exact h3
    | 4, _, hu => cases hu; exact h4
    | 5, _, hu => cases hu; exact g0

set_option maxHeartbeats 8000000 in
set_option maxRecDepth 100000 in
theorem stays_any (B g cap : Nat) (bs : List (Nat × Nat)) (ops : List POp) (A1 : Option Addr) (c1 : Nat) (w : World) (h : Lent B g cap bs ops w) (hl : bs.length = ops.length) (hC : kOp.C w A1 ops.length ops) (hc : ops.length ≤ c1) (hn3 : ops.length ≤ 3000) :
    Calls Tryz.prog 16 #[.slice (some ⟨g, 0, none⟩) ops.length cap, .slice A1 ops.length c1] w fun e w' => e = .returned (.bool true) ∧ Below w.heap.size w w' := by
  have HL := Lib.hid h
  have HLN := Lib.hid hl
  have HC := Lib.hid hC
  have HR := Lib.hid (h.reads hl)
  have hr1 := h.room.1
  have hr2 := h.room.2
  clear h hl hC
  go_enter Tryz.func16, Tryz.ntmps16
  go_wp2_with fail
  refine (sameOps_any ops ops (some ⟨g, 0, none⟩) A1 cap c1 _ HR.out HC.out (by omega) hc).mono ?_
  rintro e w1 ⟨⟨r, rfl, hr⟩, hB1⟩
  obtain rfl := hr.2 rfl
  have HL1 := Lib.hid (HL.out.later hB1)
  have HC1 := Lib.hid (Kd.C_below HC.out hB1)
  have HB1 := Lib.hid hB1
  obtain ⟨n, hn⟩ : ∃ n, n = ops.length := ⟨_, rfl⟩
  obtain ⟨n1, hn1⟩ : ∃ n1, n1 = n + 1 := ⟨_, rfl⟩
  have hmk := HL1.out.mark
  rw [← hn] at hr1 hn3 hmk hc ⊢
  have e1 : (n : Int) + 1 = (n1 : Int) := by omega
  have e2 : n < n1 := by omega
  have e3 : n1 ≤ cap := by omega
  have HN := Lib.hid hn
  clear hr hB1 hn hn1
  go_wp2_with fail
  clear hmk hn3
  go_loopw [5, 6] (fun v5 v6 wr => ∃ i : Nat, v5 = .bool true ∧ v6 = .int .i64 (i : Int) ∧ i ≤ n ∧ Hid (Lent B g cap bs ops wr) ∧ Hid (kOp.C wr A1 n ops) ∧ Hid (Below w.heap.size w wr)) (fun _ v _ => n - (intOf v).toNat)
  case atStart => exact ⟨0, rfl, rfl, Nat.zero_le _, HL1, Lib.hid (by rw [HN.out]; exact HC1.out), HB1⟩
  case round =>
  clear HL1 HC1 HB1
  obtain ⟨i, rfl, rfl, hi, hL, hCC, hBB⟩ := hrel
  by_cases hlt : i < n
  · obtain ⟨o, ho⟩ : ∃ o, ops[i]? = some o := ⟨ops[i]'(by have := HN.out; omega), List.getElem?_eq_getElem _⟩
    obtain ⟨b, hbi⟩ : ∃ b, bs[i]? = some b := ⟨bs[i]'(by have := HN.out; have := HLN.out; omega), List.getElem?_eq_getElem _⟩
    obtain ⟨g0, ga, gb, _, _, _, g6⟩ := hL.out.list i o b ho hbi
    obtain ⟨ad, A5, c5, hAd, _, _, _, _, _, p5, hc5, _⟩ := at_op hCC.out i o ho
    obtain ⟨m, hm⟩ : ∃ m, m = o.list.length := ⟨_, rfl⟩
    rw [← hm] at g0 ga g6 p5 hc5
    obtain ⟨m1, hm1⟩ : ∃ m1, m1 = m + 1 := ⟨_, rfl⟩
    have f1 : (m : Int) + 1 = (m1 : Int) := by omega
    have f2 : m < m1 := by omega
    have f3 : m1 ≤ b.2 := by omega
    have j0 : (0 : Int) ≤ (i : Int) := by omega
    have j1 : (i : Int) < (n : Int) := by omega
    have HL2 := fun k => Lib.hid (hL.out.later (pw_below_drewN (Below.refl wr.heap.size wr) k))
    have HC2 := fun k => Lib.hid (Kd.C_below hCC.out (pw_below_drewN (Below.refl wr.heap.size wr) k))
    have HB2 := fun k => Lib.hid (hBB.out.trans ((pw_below_drewN (Below.refl wr.heap.size wr) k).mono hBB.out.size))
    subst hAd
    clear ho hbi hm hm1 hL hCC
    go_wp2_with fail
    go_quiet (fail)
    go_wp2_with fail
    go_roundw
    case rel => exact ⟨i + 1, rfl, by go_num, hlt, HL2 _, HC2 _, HB2 _⟩
    case measure => simp [intOf]; omega
  · obtain rfl : i = n := by omega
    clear hlt hL hCC
    go_wp2_with fail
    go_ret
    exact ⟨rfl, hBB.out⟩
end Go.Proofs.YtbpackopicngmaaGreatDoor
namespace Go.Proofs.YtbpackopicngmaaGreatDoor
open Go.RowKit Go.Proofs.Sc Go.Proofs.YtbpackopicngmaaGreatDoorW.PrintWords

/-- A list of numbers with the mark behind it, in a block of its own. -/
structure Marked (base g c : Nat) (l : List Int) (W : World) : Prop where
  ge : base ≤ g
  blk : ∃ cs, W.heap[g]? = some (.cells cs 3 (0, 0))
  room : l.length < c ∧ c ≤ 9223372036854775807
  cell : ∀ (j : Nat) (x : Int), l[j]? = some x → W.cell? ⟨g, j, none⟩ = some (.int .i64 x)
  mark : W.cell? ⟨g, l.length, none⟩ = some (.int .i64 202)

theorem R_max {α : Type} {d : Kd α} {e base : Nat} {ok : Nat → Prop} {w : World} {A : Option Addr} {n c : Nat} {xs : List α} (h : d.R e w base ok (.slice A n c) xs) : c ≤ 9223372036854775807 := by
  obtain ⟨inner, ho⟩ := Kd.R_own h
  have hml : maxLen ≤ 9223372036854775807 := by decide
  rcases ho.2 with ⟨e, _⟩ | ⟨g', cap, cur, e, _, _, _, hm, _⟩
  · cases e; omega
  · cases e; omega

theorem marked_of {base : Nat} {W : World} {v : Value} {l : List Int} (h : (Kd.int .i64).R 3 W base (fun _ => True) v (l ++ [202])) : ∃ g c, v = .slice (some ⟨g, 0, none⟩) (l.length + 1) c ∧ Marked base g c l W := by
  obtain ⟨g, c, rfl, hg, _, hb⟩ := Kd.R_form h (by simp)
  have hmx := R_max h
  obtain ⟨A, c', hv, hlc, hC⟩ := Kd.R_reads h
  obtain ⟨rfl, rfl⟩ : A = some ⟨g, 0, none⟩ ∧ c' = c := by cases hv; exact ⟨rfl, rfl⟩
  rw [List.length_append, List.length_singleton] at hlc ⊢
  have hcell : ∀ (j : Nat) (x : Int), (l ++ [202])[j]? = some x → W.cell? ⟨g, j, none⟩ = some (.int .i64 x) := by
    intro j x hx
    have hj := (List.getElem?_eq_some_iff.1 hx).1
    obtain ⟨ad, hAd, hc⟩ := Kd.at_int hC (j : Int) (by omega) (by omega)
    obtain rfl := Option.some.inj hAd
    rw [Int.toNat_natCast, add_plain] at hc
    rw [hc]
    simp [rd, hx]
  refine ⟨g, c', rfl, hg, hb, ⟨by omega, hmx⟩, fun j x hx => hcell j x ?_, hcell _ _ (by simp)⟩
  rw [List.getElem?_append_left (List.getElem?_eq_some_iff.1 hx).1]; exact hx

/-- One list more is laid. -/
theorem Lent.store {B g cap : Nat} {bs : List (Nat × Nat)} {ops : List POp} {wr W : World} {o : POp} {gi ci : Nat} (h : Lent B g cap bs ops wr) (hb : Below wr.heap.size wr W) (hB : B ≤ wr.heap.size) (ho : ops[bs.length]? = some o) (hm : Marked wr.heap.size gi ci o.list W) :
    Lent B g cap (bs ++ [(gi, ci)]) ops (W.setCell ⟨g, bs.length * 6 + 5, none⟩ (.slice (some ⟨gi, 0, none⟩) o.list.length ci)) := by
  have h' := h.later hb
  have hglt : g < wr.heap.size := by obtain ⟨cs, hcs⟩ := h.blk; exact blk_lt hcs
  have hold : ∀ (i : Nat) (b : Nat × Nat), bs[i]? = some b → b.1 < wr.heap.size := by
    intro i b hbi
    have hi := (List.getElem?_eq_some_iff.1 hbi).1
    have hbl := (List.getElem?_eq_some_iff.1 ho).1
    obtain ⟨o', ho'⟩ : ∃ o', ops[i]? = some o' := ⟨ops[i]'(by omega), List.getElem?_eq_getElem _⟩
    obtain ⟨_, _, _, ⟨cs, hcs⟩, _⟩ := h.list i o' b ho' hbi
    exact blk_lt hcs
  have oth : ∀ (k : Nat) v, k ≠ bs.length * 6 + 5 → W.cell? ⟨g, k, none⟩ = some v → (W.setCell ⟨g, bs.length * 6 + 5, none⟩ (.slice (some ⟨gi, 0, none⟩) o.list.length ci)).cell? ⟨g, k, none⟩ = some v := by
    intro k v hk hv
    rw [World.cell?_setCell_other _ _ _ _ (by intro e; injection e with _ e _; exact hk e.symm)]; exact hv
  have far : ∀ (b k : Nat) v, b ≠ g → W.cell? ⟨b, k, none⟩ = some v → (W.setCell ⟨g, bs.length * 6 + 5, none⟩ (.slice (some ⟨gi, 0, none⟩) o.list.length ci)).cell? ⟨b, k, none⟩ = some v := by
    intro b k v hk hv
    rw [World.cell?_setCell_other _ _ _ _ (by intro e; injection e with e _ _; exact hk e.symm)]; exact hv
  have hgi : gi ≠ g := by have := hm.ge; omega
  refine ⟨?_, h'.ge, h'.room, fun i o' ho' => ?_, fun i o' b ho' hbi => ?_, fun i j b b' hij hbi hbj => ?_, ?_⟩
  · obtain ⟨cs, hcs⟩ := h'.blk
    exact ⟨_, blk_set hcs _ _⟩
  · obtain ⟨h0, h1, h2, h3, h4, v, h5⟩ := h'.scal i o' ho'
    refine ⟨oth _ _ (by omega) h0, oth _ _ (by omega) h1, oth _ _ (by omega) h2, oth _ _ (by omega) h3, oth _ _ (by omega) h4, ?_⟩
    by_cases hi : i = bs.length
    · subst hi; exact ⟨_, World.cell?_setCell_same _ _ _ h5⟩
    · exact ⟨v, oth _ _ (by omega) h5⟩
  · by_cases hi : i = bs.length
    · subst hi
      rw [ho] at ho'; cases ho'
      rw [List.getElem?_append_right (Nat.le_refl _), Nat.sub_self] at hbi
      cases hbi
      obtain ⟨_, _, _, _, _, v, h5⟩ := h'.scal _ _ ho
      obtain ⟨cs, hcs⟩ := hm.blk
      exact ⟨World.cell?_setCell_same _ _ _ h5, hm.room.1, hm.room.2, ⟨cs, blk_far hcs (by simpa using hgi) _⟩, Nat.le_trans hB hm.ge, fun j x hx => far _ _ _ hgi (hm.cell j x hx), far _ _ _ hgi hm.mark⟩
    · have hlt : i < bs.length := by
        have := (List.getElem?_eq_some_iff.1 hbi).1
        simp at this; omega
      rw [List.getElem?_append_left hlt] at hbi
      obtain ⟨h0, h1, h2, ⟨cs, h3⟩, h4, h5, h6⟩ := h'.list i o' b ho' hbi
      have hbg : b.1 ≠ g := by
        intro e
        obtain ⟨cs', hcs'⟩ := h'.blk
        rw [← e, h3] at hcs'
        cases hcs'
      exact ⟨oth _ _ (by omega) h0, h1, h2, ⟨cs, blk_far h3 (by simpa using hbg) _⟩, h4, fun j x hx => far _ _ _ hbg (h5 j x hx), far _ _ _ hbg h6⟩
  · have key : ∀ (i : Nat) (b : Nat × Nat), (bs ++ [(gi, ci)])[i]? = some b → (bs[i]? = some b) ∨ (i = bs.length ∧ b.1 = gi) := by
      intro i b hbi
      by_cases hi : i < bs.length
      · rw [List.getElem?_append_left hi] at hbi; exact Or.inl hbi
      · have := (List.getElem?_eq_some_iff.1 hbi).1
        simp at this
        obtain rfl : i = bs.length := by omega
        rw [List.getElem?_append_right (Nat.le_refl _), Nat.sub_self] at hbi
        cases hbi; exact Or.inr ⟨rfl, rfl⟩
    rcases key i b hbi with h1 | ⟨rfl, h1⟩
    · rcases key j b' hbj with h2 | ⟨rfl, h2⟩
      · exact h.apart i j b b' hij h1 h2
      · have := hold i b h1; have := hm.ge; omega
    · rcases key j b' hbj with h2 | ⟨rfl, h2⟩
      · have := hold j b' h2; have := hm.ge; omega
      · exact absurd rfl hij
  · have hbl := (List.getElem?_eq_some_iff.1 ho).1
    exact oth _ _ (by omega) h'.mark
end Go.Proofs.YtbpackopicngmaaGreatDoor
namespace Go.Proofs.YtbpackopicngmaaGreatDoor
open Go.RowKit Go.Proofs.Sc Go.Proofs.YtbpackopicngmaaGreatDoorW.PrintWords

theorem cell_more {W : World} {a : Addr} {v : Value} (h : W.cell? a = some v) (ob : Obj) : (W.alloc ob).cell? a = some v := by
  rw [World.cell?_alloc_some W a ob (by rw [h]; rfl)]; exact h

def markOp : POp := ⟨201, 0, 0, [], [], []⟩

theorem lent_start {B g cap n : Nat} {ops : List POp} {W : World} (h : kOp.R 44 W B (fun _ => True) (.slice (some ⟨g, 0, none⟩) n cap) (ops ++ [markOp])) : Lent B g cap [] ops W := by
  obtain ⟨g', cap', hv, hg, _, hb⟩ := Kd.R_form h (by simp)
  cases hv
  have hmx := R_max h
  obtain ⟨_, hlc, hC⟩ := Kd.R_reads' h
  rw [List.length_append, List.length_singleton] at hlc
  have at6 : ∀ i o, (ops ++ [markOp])[i]? = some o → W.cell? ⟨g, i * 6, none⟩ = some (.int .i64 o.kind) ∧ W.cell? ⟨g, i * 6 + 1, none⟩ = some (.int .i64 o.a) ∧ W.cell? ⟨g, i * 6 + 2, none⟩ = some (.int .i64 o.b) ∧ W.cell? ⟨g, i * 6 + 3, none⟩ = some (.string ⟨o.name.toArray⟩) ∧ W.cell? ⟨g, i * 6 + 4, none⟩ = some (.string ⟨o.text.toArray⟩) ∧ ∃ v, W.cell? ⟨g, i * 6 + 5, none⟩ = some v := by
    intro i o ho
    obtain ⟨ad, A5, c5, hAd, p0, p1, p2, p3, p4, p5, _⟩ := at_op hC i o ho
    obtain rfl := Option.some.inj hAd
    rw [add_plain] at p0 p1 p2 p3 p4 p5
    exact ⟨p0, p1, p2, p3, p4, _, p5⟩
  refine ⟨hb, hg, ⟨by omega, hmx⟩, fun i o ho => at6 i o ?_, fun i o b _ hbi => by simp at hbi, fun i j b b' _ hbi => by simp at hbi, (at6 _ markOp (by simp)).1⟩
  rw [List.getElem?_append_left (List.getElem?_eq_some_iff.1 ho).1]; exact ho

theorem reads_int {W : World} {b : Nat} {X : Int} (hlit : W.heap[b]? = some (.cells #[.int .i64 X] 3 (0, 0))) : ReadsRow (fun (x : Int) (cs : List Value) => cs = [.int .i64 x]) 1 W (some ⟨b, 0, none⟩) 1 [X] := by
  refine ⟨rfl, by decide, fun _ => ⟨_, rfl, fun j p hp => ?_⟩⟩
  match j, hp with
  | 0, hp =>
    obtain rfl := Option.some.inj hp
    refine ⟨_, rfl, rfl, fun i u hu => ?_⟩
    match i, hu with
    | 0, hu =>
      obtain rfl := Option.some.inj hu
      exact blk_cell hlit 0

section
variable {ops : Array Oper} {o : Oper} {a : Act} {Q : Exit → Act → World → Prop} {Kc : Act → World → Prop} {w0 W : World} {l : List Int} {A : Option Addr} {n c : Nat}
theorem int_alloc (h : (Kd.int .i64).R 3 W w0.heap.size (fun _ => True) (.slice A n c) l) (hB : Below w0.heap.size w0 W) (hw : Region.wanted o (yielded ops a.tmps) = true) (s x : Operand) (ho : o.op = .call { callee := .builtin .append, args := #[s, x], argTypes := #[42, 42] })
    (hs : a.eval s = .slice A n c) (hx : a.eval x = .slice (some ⟨W.heap.size, 0, none⟩) 1 1) (hl : l.length ≤ 33554432) (k : ∀ v1 w1, (Kd.int .i64).R 3 w1 w0.heap.size (fun _ => True) v1 (l ++ [202]) → Below w0.heap.size w0 w1 → Kc (a.put o.dst v1) w1) :
    if Region.wanted o (yielded ops a.tmps) = true then Oper.wp Tryz.prog o a (W.alloc (.cells #[.int .i64 202] 3)) Kc Q else Kc (a.put o.dst undef) (W.alloc (.cells #[.int .i64 202] 3)) :=
  Kd.R_append_step (Kd.int .i64) (w0 := w0) (W := W) w0.heap.size hw s x 42 3 (.int .i64 0) 8 ho Tryz.underlying42 info_int rfl (by decide) (by decide) (.slice A n c) l 202 [.int .i64 202] (fun _ => True) (fun _ => False) hs hx rfl (fun _ h => h.elim) (fun _ _ => trivial) h hB hB.size (by omega) (fun v1 w1 hR hB1 _ _ => k v1 w1 hR hB1)
theorem int_rows (h : (Kd.int .i64).R 3 W w0.heap.size (fun _ => True) (.slice A n c) l) (hB : Below w0.heap.size w0 W) {b : Nat} (hlit : W.heap[b]? = some (.cells #[.int .i64 202] 3 (0, 0))) (hw : Region.wanted o (yielded ops a.tmps) = true) (s x : Operand) (ho : o.op = .call { callee := .builtin .append, args := #[s, x], argTypes := #[42, 42] })
    (hs : a.eval s = .slice A n c) (hx : a.eval x = .slice (some ⟨b, 0, none⟩) 1 1) (hl : l.length ≤ 33554432) (k : ∀ v1 w1, (Kd.int .i64).R 3 w1 w0.heap.size (fun _ => True) v1 (l ++ [202]) → Below w0.heap.size w0 w1 → Kc (a.put o.dst v1) w1) :
    if Region.wanted o (yielded ops a.tmps) = true then Oper.wp Tryz.prog o a W Kc Q else Kc (a.put o.dst undef) W :=
  Kd.R_append_rows_step (Kd.int .i64) (Rr := fun (x : Int) (cs : List Value) => cs = [.int .i64 x]) (w0 := w0) (W := W) w0.heap.size hw s x 42 3 (.int .i64 0) 8 ho Tryz.underlying42 info_int rfl (by decide) (by decide) (.slice A n c) l [202] (some ⟨b, 0, none⟩) 1 1 (fun _ => True) (fun _ => False) hs hx h (reads_int hlit) (fun _ _ h => h) (fun _ h => h.elim) (fun _ _ => trivial) hB hB.size (by omega) (fun v1 w1 hR hB1 _ _ => k v1 w1 hR hB1)
end

set_option maxHeartbeats 16000000 in
set_option maxRecDepth 100000 in
theorem lent_any (ops : List POp) (A : Option Addr) (c : Nat) (w : World) (hC : kOp.C w A ops.length ops) (hl : ops.length ≤ 3000) (hL : ∀ o ∈ ops, o.list.length ≤ 33554432) :
    Calls Tryz.prog 12 #[.slice A ops.length c] w fun e w' => ∃ (g cap : Nat) (bs : List (Nat × Nat)), e = .returned (.slice (some ⟨g, 0, none⟩) ops.length cap) ∧ Lent w.heap.size g cap bs ops w' ∧ bs.length = ops.length ∧ Below w.heap.size w w' := by
  obtain ⟨n, hn⟩ : ∃ n, n = ops.length := ⟨_, rfl⟩
  rw [← hn] at hC hl ⊢
  have HN := Lib.hid hn
  have HC := Lib.hid hC
  have HLL := Lib.hid hL
  clear hn hC hL
  go_enter Tryz.func12, Tryz.ntmps12
  go_wp2_with fail
  refine (refOps_any ops A n c w HC.out (by omega) HLL.out).mono ?_
  rintro e w1 ⟨⟨v6, rfl, hR6⟩, hB1⟩
  obtain ⟨A6, c6, rfl⟩ := Kd.R_slice hR6
  rw [← HN.out] at hR6 ⊢
  have HR6 := Lib.hid hR6
  have HB1 := Lib.hid hB1
  clear hR6 hB1
  go_wp2_with (at_builtin; go_must (refine Kd.R_append kOp (w0 := w) w.heap.size rfl (.tmp 6) (.tmp 8) 23 44 (.agg zeroOp) 80 rfl Tryz.underlying23 info_op rfl (by decide) (by omega) (.slice A6 n c6) ops markOp [.int .i64 201, .int .i64 0, .int .i64 0, .string ⟨#[]⟩, .string ⟨#[]⟩, .slice none 0 0] (fun _ => True) (fun _ => False) rfl rfl ?hp ?hokp (fun _ _ => trivial) ?HO ?HB ?hbase ?hl ?_))
  case hp => exact kOp_mkM w1 w.heap.size (fun _ => False) markOp (v := .slice none 0 0) (Kd.R_nil _ _ _ _ _)
  case hokp => exact fun _ h => h.elim
  case HO => exact HR6.out
  case HB => exact HB1.out
  case hbase => exact HB1.out.size
  case hl => rw [← HN.out]; omega
  intro v1 w2 hR2 hB2 _ _
  obtain ⟨g, cap, hv1, _⟩ := Kd.R_form hR2 (by simp)
  subst hv1
  have HL2 := Lib.hid (lent_start hR2)
  have HB2 := Lib.hid hB2
  rw [List.length_append, List.length_singleton, ← HN.out]
  obtain ⟨n1, hn1⟩ : ∃ n1, n1 = n + 1 := ⟨_, rfl⟩
  rw [← hn1]
  have hn1i : n < n1 := by omega
  have hcap : n1 ≤ cap := by have := HL2.out.room.1; have := HN.out; omega
  have hcap2 : cap ≤ 9223372036854775807 := HL2.out.room.2
  have HN1 := Lib.hid hn1
  clear hR2 hB2 HR6 HB1 hn1
  go_wp2_with fail
  go_loopw [4] (fun v wr => ∃ (i : Nat) (bs : List (Nat × Nat)), v = .int .i64 (i : Int) ∧ i ≤ n ∧ Hid (i = bs.length) ∧ Hid (Lent w.heap.size g cap bs ops wr) ∧ Hid (Below w.heap.size w wr)) (fun v _ => n - (intOf v).toNat)
  case atStart => exact ⟨0, [], rfl, Nat.zero_le _, Lib.hid rfl, HL2, HB2⟩
  case round =>
  clear HL2 HB2
  obtain ⟨i, bs, rfl, hi, hbs, hL, hB⟩ := hrel
  by_cases hlt : i < n
  · obtain ⟨o, ho⟩ : ∃ o, ops[i]? = some o := ⟨ops[i]'(by have := HN.out; omega), List.getElem?_eq_getElem _⟩
    obtain ⟨ad, A5, c5, hAd, _, _, _, _, _, p5, hc5, hC5⟩ := at_op (Kd.C_below HC.out hB.out) i o ho
    obtain ⟨m, hm⟩ : ∃ m, m = o.list.length := ⟨_, rfl⟩
    rw [← hm] at p5 hc5 hC5
    have hml : m ≤ 33554432 := by rw [hm]; exact HLL.out o (List.mem_of_getElem? ho)
    have HO := Lib.hid ho
    have HM := Lib.hid hm
    have HC5 := Lib.hid hC5
    have HBD := Lib.hid (show Below wr.heap.size wr wr.drew from (Below.refl _ _).drew)
    have HBD2 := Lib.hid (show Below wr.heap.size wr (wr.alloc (.cells #[.int .i64 202] 3)).drew from ((Below.refl _ _).alloc (Nat.le_refl _) _).drew)
    have HSD := Lib.hid (show wr.drew.cell? ⟨(ad.add (i * 6)).block, (ad.add (i * 6)).off + 5, none⟩ = some (.slice A5 m c5) from p5)
    have HSD2 := Lib.hid (show (wr.alloc (.cells #[.int .i64 202] 3)).drew.cell? ⟨(ad.add (i * 6)).block, (ad.add (i * 6)).off + 5, none⟩ = some (.slice A5 m c5) from cell_more p5 _)
    have HLIT := Lib.hid (show (wr.alloc (.cells #[.int .i64 202] 3)).drew.heap[wr.heap.size]? = some (.cells #[.int .i64 202] 3 (0, 0)) from new_at _ _ _ rfl)
    have HADB := Lib.hid (show (ad.add (i * 6)).block < w.heap.size from by
      obtain ⟨ad', _, _, hAd', _, _, _, _, _, q5, _⟩ := at_op HC.out i o ho
      obtain rfl := Option.some.inj (hAd.symm.trans hAd')
      exact World.block_lt_of_cell? w ⟨(ad.add (i * 6)).block, (ad.add (i * 6)).off + 5, none⟩ q5)
    have wi : IntKind.i64.wrap (i : Int) = (i : Int) := by rw [IntKind.wrap_i64]; omega
    have j0 : (0 : Int) ≤ (i : Int) := by omega
    have j1 : (i : Int) < (n : Int) := by omega
    have j2 : (i : Int) < (n1 : Int) := by omega
    have m0 : (0 : Int) ≤ (m : Int) := by omega
    subst hAd
    clear ho hm hC5
    go_wp2_with fail
    go_region_held3 (fun W => W.cell? ⟨(ad.add (i * 6)).block, (ad.add (i * 6)).off + 5, none⟩ = some (.slice A5 m c5)) (first | with_reducible exact HSD.out | with_reducible exact HSD2.out | with_reducible exact hS5A _ | with_reducible exact hS6S _ | with_reducible assumption) (first | (go_at_call 30; refine (refInts_any o.list A5 m c5 _ (Kd.C_below HC5.out (by first | exact HBD.out | exact HBD2.out)) hml).mono ?_; rintro e w5 ⟨⟨v5, rfl, hR5⟩, hB5⟩; have hB5L : Below wr.heap.size wr w5 := (by first | exact HBD.out.trans hB5 | exact HBD2.out.trans (hB5.mono (by simp))); have hR5L := Kd.R_lower (base' := wr.heap.size) hR5 (by simp); have hS5 : w5.cell? ⟨(ad.add (i * 6)).block, (ad.add (i * 6)).off + 5, none⟩ = some (.slice A5 m c5) := (hB5L.cell (World.block_lt_of_cell? wr _ p5)).trans p5; have hS5A := fun ob => cell_more hS5 ob; obtain ⟨A8, c8, rfl⟩ := Kd.R_slice hR5L; rw [← HM.out] at hR5L ⊢) | (change if Region.wanted ⟨some 25, _, _, _, _, _⟩ _ = true then _ else _; (first | (change if Region.wanted _ _ = true then Oper.wp _ _ _ (World.alloc _ _) _ _ else _; refine int_alloc (w0 := wr) (W := w5) hR5L hB5L (by rfl) (.tmp 23) (.tmp 24) (by rfl) (by rfl) (by rfl) (by rw [← HM.out]; omega) ?_) | (refine int_rows (w0 := wr) (W := w5) hR5L hB5L ((hB5.block _ (blk_lt HLIT.out)).trans HLIT.out) (by rfl) (.tmp 23) (.tmp 24) (by rfl) (by rfl) (by rfl) (by rw [← HM.out]; omega) ?_)); intro v9 w6 hR9 hB9; obtain ⟨gi, ci, rfl, hMK⟩ := marked_of hR9; rw [← HM.out]; have hS6 : w6.cell? ⟨(ad.add (i * 6)).block, (ad.add (i * 6)).off + 5, none⟩ = some (.slice A5 m c5) := (hB9.cell (World.block_lt_of_cell? wr _ p5)).trans p5; have hL6 := hL.out.later hB9; have hS6S : ∀ u, (w6.setCell ⟨g, i * 6 + 5, none⟩ u).cell? ⟨(ad.add (i * 6)).block, (ad.add (i * 6)).off + 5, none⟩ = some (.slice A5 m c5) := (fun u => (World.cell?_setCell_other _ _ _ _ (by intro e; injection e with e _ _; have := hL.out.ge; have := HADB.out; omega)).trans hS6); obtain ⟨_, _, _, _, _, v5c, h5c⟩ := hL6.scal i o HO.out; obtain ⟨csg, hcsg⟩ := hL6.blk; have hfg := blk_frozen hcsg (i * 6 + 5); have hmc : m ≤ ci := (by have := hMK.room.1; have := HM.out; omega); have hmc2 : (m : Int) ≤ (ci : Int) := (by omega)))
    all_goals
      have HL7 := Lib.hid (show Lent w.heap.size g cap (bs ++ [(gi, ci)]) ops (w6.setCell ⟨g, i * 6 + 5, none⟩ (.slice (some ⟨gi, 0, none⟩) m ci)) by
        have := hL.out.store hB9 hB.out.size (by rw [← hbs.out]; exact HO.out) hMK
        rw [← hbs.out, ← HM.out] at this
        exact this)
      have HB7 := Lib.hid (show Below w.heap.size w (w6.setCell ⟨g, i * 6 + 5, none⟩ (.slice (some ⟨gi, 0, none⟩) m ci)) from (hB.out.trans (hB9.mono hB.out.size)).setCell hL.out.ge _)
      have HBS := Lib.hid (show i + 1 = (bs ++ [(gi, ci)]).length by rw [List.length_append, List.length_singleton, hbs.out])
      clear hL hB hR9 hB9 hMK hS6 hL6 hS6S h5c hcsg hfg HSD HSD2 HBD HBD2 HLIT HADB hS5 hS5A hR5 hB5 hR5L hB5L p5 hbs
      go_wp2_with fail
      go_roundw
      case rel => exact ⟨i + 1, _, by go_num, hlt, HBS, HL7, HB7⟩
      case measure => simp [intOf]; omega
  · obtain rfl : i = n := by omega
    clear hlt
    have HBL := Lib.hid (show bs.length = i from hbs.out.symm)
    clear hbs
    go_wp2_with fail
    go_ret
    exact ⟨g, cap, bs, rfl, hL.out, HBL.out, hB.out⟩
end Go.Proofs.YtbpackopicngmaaGreatDoor
namespace Go.Proofs.YtbpackopicngmaaGreatDoor
open Go.RowKit Go.Proofs.Sc Go.Proofs.YtbpackopicngmaaGreatDoorW.PrintWords

theorem set_at {ops : List POp} {i : Nat} {o : POp} (ho : ops[i]? = some o) (p : POp) (j : Nat) (q : POp) (h : (ops.set i p)[j]? = some q) : (j = i ∧ q = p) ∨ (j ≠ i ∧ ops[j]? = some q) := by
  rw [List.getElem?_set] at h
  by_cases hj : i = j
  · subst hj
    rw [if_pos rfl, if_pos (List.getElem?_eq_some_iff.1 ho).1] at h
    exact Or.inl ⟨rfl, (Option.some.inj h).symm⟩
  · rw [if_neg hj] at h
    exact Or.inr ⟨fun e => hj e.symm, h⟩

theorem Lent.turnA {B g cap : Nat} {bs : List (Nat × Nat)} {ops : List POp} {W : World} {i : Nat} {o : POp} (h : Lent B g cap bs ops W) (ho : ops[i]? = some o) (x : Int) : Lent B g cap bs (ops.set i { o with a := x }) (W.setCell ⟨g, i * 6 + 1, none⟩ (.int .i64 x)) := by
  have hi := (List.getElem?_eq_some_iff.1 ho).1
  have oth : ∀ (k : Nat) v, k ≠ i * 6 + 1 → W.cell? ⟨g, k, none⟩ = some v → (W.setCell ⟨g, i * 6 + 1, none⟩ (.int .i64 x)).cell? ⟨g, k, none⟩ = some v := by
    intro k v hk hv
    rw [World.cell?_setCell_other _ _ _ _ (by intro e; injection e with _ e _; exact hk e.symm)]; exact hv
  have far : ∀ (b k : Nat) v, b ≠ g → W.cell? ⟨b, k, none⟩ = some v → (W.setCell ⟨g, i * 6 + 1, none⟩ (.int .i64 x)).cell? ⟨b, k, none⟩ = some v := by
    intro b k v hk hv
    rw [World.cell?_setCell_other _ _ _ _ (by intro e; injection e with e _ _; exact hk e.symm)]; exact hv
  have scal : ∀ (j : Nat) (q : POp), ops[j]? = some q → j ≠ i → _ := fun j q hq hj => h.scal j q hq
  refine ⟨?_, h.ge, by rw [List.length_set]; exact h.room, fun j q hq => ?_, fun j q b hq hb => ?_, h.apart, by rw [List.length_set]; exact oth _ _ (by omega) h.mark⟩
  · obtain ⟨cs, hcs⟩ := h.blk; exact ⟨_, blk_set hcs _ _⟩
  · rcases set_at ho _ j q hq with ⟨rfl, rfl⟩ | ⟨hj, hq'⟩
    · obtain ⟨h0, h1, h2, h3, h4, v, h5⟩ := h.scal j o ho
      exact ⟨oth _ _ (by omega) h0, World.cell?_setCell_same _ _ _ h1, oth _ _ (by omega) h2, oth _ _ (by omega) h3, oth _ _ (by omega) h4, v, oth _ _ (by omega) h5⟩
    · obtain ⟨h0, h1, h2, h3, h4, v, h5⟩ := h.scal j q hq'
      exact ⟨oth _ _ (by omega) h0, oth _ _ (by omega) h1, oth _ _ (by omega) h2, oth _ _ (by omega) h3, oth _ _ (by omega) h4, v, oth _ _ (by omega) h5⟩
  · have hbg : ∀ cs, W.heap[b.1]? = some (.cells cs 3 (0, 0)) → b.1 ≠ g := by
      intro cs hcs e
      obtain ⟨cs', hcs'⟩ := h.blk
      rw [← e, hcs] at hcs'
      cases hcs'
    rcases set_at ho _ j q hq with ⟨rfl, rfl⟩ | ⟨hj, hq'⟩
    · obtain ⟨h0, h1, h2, ⟨cs, h3⟩, h4, h5, h6⟩ := h.list j o b ho hb
      have := hbg cs h3
      exact ⟨oth _ _ (by omega) h0, h1, h2, ⟨cs, blk_far h3 (by simpa using this) _⟩, h4, fun k y hy => far _ _ _ this (h5 k y hy), far _ _ _ this h6⟩
    · obtain ⟨h0, h1, h2, ⟨cs, h3⟩, h4, h5, h6⟩ := h.list j q b hq' hb
      have := hbg cs h3
      exact ⟨oth _ _ (by omega) h0, h1, h2, ⟨cs, blk_far h3 (by simpa using this) _⟩, h4, fun k y hy => far _ _ _ this (h5 k y hy), far _ _ _ this h6⟩

theorem Lent.turnL {B g cap : Nat} {bs : List (Nat × Nat)} {ops : List POp} {W : World} {i : Nat} {o : POp} {b : Nat × Nat} (h : Lent B g cap bs ops W) (ho : ops[i]? = some o) (hbi : bs[i]? = some b) (hne : 0 < o.list.length) (x : Int) : Lent B g cap bs (ops.set i { o with list := o.list.set 0 x }) (W.setCell ⟨b.1, 0, none⟩ (.int .i64 x)) := by
  have hi := (List.getElem?_eq_some_iff.1 ho).1
  obtain ⟨_, _, _, ⟨csb, hcsb⟩, _, hb5, hb6⟩ := h.list i o b ho hbi
  have hbg : b.1 ≠ g := by
    intro e
    obtain ⟨cs', hcs'⟩ := h.blk
    rw [← e, hcsb] at hcs'
    cases hcs'
  have far : ∀ (b' k : Nat) v, b' ≠ b.1 → W.cell? ⟨b', k, none⟩ = some v → (W.setCell ⟨b.1, 0, none⟩ (.int .i64 x)).cell? ⟨b', k, none⟩ = some v := by
    intro b' k v hk hv
    rw [World.cell?_setCell_other _ _ _ _ (by intro e; injection e with e _ _; exact hk e.symm)]; exact hv
  have oth : ∀ (k : Nat) v, k ≠ 0 → W.cell? ⟨b.1, k, none⟩ = some v → (W.setCell ⟨b.1, 0, none⟩ (.int .i64 x)).cell? ⟨b.1, k, none⟩ = some v := by
    intro k v hk hv
    rw [World.cell?_setCell_other _ _ _ _ (by intro e; injection e with _ e _; exact hk e.symm)]; exact hv
  have hgb : g ≠ b.1 := fun e => hbg e.symm
  refine ⟨?_, h.ge, by rw [List.length_set]; exact h.room, fun j q hq => ?_, fun j q b' hq hb => ?_, h.apart, by rw [List.length_set]; exact far _ _ _ hgb h.mark⟩
  · obtain ⟨cs, hcs⟩ := h.blk; exact ⟨cs, blk_far hcs (by simpa using hgb) _⟩
  · rcases set_at ho _ j q hq with ⟨rfl, rfl⟩ | ⟨hj, hq'⟩
    · obtain ⟨h0, h1, h2, h3, h4, v, h5⟩ := h.scal j o ho
      exact ⟨far _ _ _ hgb h0, far _ _ _ hgb h1, far _ _ _ hgb h2, far _ _ _ hgb h3, far _ _ _ hgb h4, v, far _ _ _ hgb h5⟩
    · obtain ⟨h0, h1, h2, h3, h4, v, h5⟩ := h.scal j q hq'
      exact ⟨far _ _ _ hgb h0, far _ _ _ hgb h1, far _ _ _ hgb h2, far _ _ _ hgb h3, far _ _ _ hgb h4, v, far _ _ _ hgb h5⟩
  · rcases set_at ho _ j q hq with ⟨rfl, rfl⟩ | ⟨hj, hq'⟩
    · rw [hbi] at hb
      obtain rfl := Option.some.inj hb
      obtain ⟨h0, h1, h2, ⟨cs, h3⟩, h4, h5, h6⟩ := h.list j o b ho hbi
      have hl : (o.list.set 0 x).length = o.list.length := List.length_set
      refine ⟨?_, ?_, h2, ⟨_, blk_set h3 _ _⟩, h4, fun k y hy => ?_, ?_⟩
      · show _ = some (Value.slice _ (o.list.set 0 x).length _)
        rw [hl]; exact far _ _ _ hgb h0
      · show (o.list.set 0 x).length < _
        rw [hl]; exact h1
      · have hy : (o.list.set 0 x)[k]? = some y := hy
        rw [List.getElem?_set] at hy
        by_cases hk : 0 = k
        · subst hk
          rw [if_pos rfl, if_pos hne] at hy
          obtain rfl := Option.some.inj hy
          obtain ⟨y0, hy0⟩ : ∃ y0, o.list[0]? = some y0 := ⟨o.list[0]'hne, List.getElem?_eq_getElem _⟩
          exact World.cell?_setCell_same _ _ _ (h5 0 y0 hy0)
        · rw [if_neg hk] at hy
          exact oth _ _ (fun e => hk e.symm) (h5 k y hy)
      · show World.cell? _ ⟨b.1, (o.list.set 0 x).length, none⟩ = _
        rw [hl]; exact oth _ _ (by omega) h6
    · obtain ⟨h0, h1, h2, ⟨cs, h3⟩, h4, h5, h6⟩ := h.list j q b' hq' hb
      have hbb : b'.1 ≠ b.1 := h.apart j i b' b hj hb hbi
      exact ⟨far _ _ _ hgb h0, h1, h2, ⟨cs, blk_far h3 (by simpa using hbb) _⟩, h4, fun k y hy => far _ _ _ hbb (h5 k y hy), far _ _ _ hbb h6⟩
end Go.Proofs.YtbpackopicngmaaGreatDoor
namespace Go.Proofs.YtbpackopicngmaaGreatDoor
open Go.RowKit Go.Proofs.Sc Go.Proofs.YtbpackopicngmaaGreatDoorW.PrintWords

def toB (o : POp) : PrB.S44 := ⟨o.kind, o.a, o.b, ⟨o.name.toArray⟩, ⟨o.text.toArray⟩, o.list⟩

theorem rdB (l : List POp) (i : Nat) (x : POp) (h : l[i]? = some x) : PrB.rd_T44 (l.map toB) (i : Int) = toB x := by
  simp [PrB.rd_T44, List.getElem?_map, h]

def Small (o : POp) : Prop := o.name.length ≤ 2097152 ∧ o.text.length ≤ 2097152 ∧ o.list.length ≤ 2097152

theorem fits_l0 (l : List POp) (cap : Int) (hs : l.length ≤ 9223372036854775807) : ∀ (d k i : Nat) (n : Int), i + d = l.length → d < k → ∃ r, PrB.pithlaw26_fits.l0 k n (i : Int) cap (l.map toB) = some r ∧ (r = true → ∀ o ∈ l.drop i, Small o)
  | d, 0, i, n, _, hk => absurd hk (by omega)
  | 0, k + 1, i, n, hi, _ => by
    refine ⟨decide (n ≤ 8388608), ?_, fun _ o ho => ?_⟩
    · simp only [PrB.pithlaw26_fits.l0, List.length_map]; rw [if_neg (by omega)]
    · rw [List.drop_of_length_le (by omega)] at ho; cases ho
  | d + 1, k + 1, i, n, hi, hk => by
    obtain ⟨x, hx⟩ : ∃ x, l[i]? = some x := ⟨l[i]'(by omega), List.getElem?_eq_getElem _⟩
    simp only [PrB.pithlaw26_fits.l0, List.length_map]
    rw [if_pos (by omega), if_pos (by omega), rdB l i x hx]
    by_cases h1 : x.name.length ≤ 2097152
    · by_cases h2 : x.text.length ≤ 2097152
      · by_cases h3 : x.list.length ≤ 2097152
        · rw [if_neg (by simp only [toB, mk_size]; omega), if_neg (by simp only [toB, mk_size]; omega), if_neg (by simp only [toB]; omega), wrap_nat i (by omega)]
          obtain ⟨r, e, hr⟩ := fits_l0 l cap hs d k (i + 1) _ (by omega) (by omega)
          refine ⟨r, e, fun ht o ho => ?_⟩
          rw [Lib.drop_at hx] at ho
          rcases List.mem_cons.1 ho with rfl | ho
          · exact ⟨h1, h2, h3⟩
          · exact hr ht o ho
        · exact ⟨false, by rw [if_neg (by simp only [toB, mk_size]; omega), if_neg (by simp only [toB, mk_size]; omega), if_pos (by simp only [toB]; omega)], by simp⟩
      · exact ⟨false, by rw [if_neg (by simp only [toB, mk_size]; omega), if_pos (by simp only [toB, mk_size]; omega)], by simp⟩
    · exact ⟨false, by rw [if_pos (by simp only [toB, mk_size]; omega)], by simp⟩

theorem kOp_CB {w : World} {A : Option Addr} {n : Nat} {xs : List POp} (h : kOp.C w A n xs) : PrB.k44.C w A n (xs.map toB) := by
  obtain ⟨h1, h2, h3⟩ := h
  refine ⟨by simp [h1], h2, fun hn => ?_⟩
  obtain ⟨ad, e, hc⟩ := h3 hn
  refine ⟨ad, e, fun j p hp => ?_⟩
  rw [List.getElem?_map] at hp
  obtain ⟨x, hx, rfl⟩ := Option.map_eq_some_iff.1 hp
  exact hc j x hx

theorem fits_any (cap : Int) (ops : List POp) (A : Option Addr) (c : Nat) (w : World) (hC : kOp.C w A ops.length ops) (hc : ops.length ≤ c) :
    Calls Tryz.prog 11 #[.agg #[.int .i64 cap, .slice A ops.length c]] w fun e w' => (∃ r : Bool, e = .returned (.bool r) ∧ (r = true → ops.length ≤ 3000 ∧ ∀ o ∈ ops, Small o)) ∧ Below w.heap.size w w' := by
  obtain ⟨r, h1, h2⟩ : ∃ r, PrB.pithlaw26_fits.f (ops.length + 1) cap (ops.map toB) = some r ∧ (r = true → ops.length ≤ 3000 ∧ ∀ o ∈ ops, Small o) := by
    unfold PrB.pithlaw26_fits.f
    by_cases h : ops.length ≤ 3000
    · obtain ⟨r, e, hr⟩ := fits_l0 ops cap hC.2.1 ops.length (ops.length + 1) 0 0 (by omega) (by omega)
      exact ⟨r, by rw [if_neg (by rw [List.length_map]; omega)]; exact e, fun ht => ⟨h, hr ht⟩⟩
    · exact ⟨false, by rw [if_pos (by rw [List.length_map]; omega)], by simp⟩
  have := PrB.pithlaw26_fits.calls (ops.length + 1) cap A c (ops.map toB) r w (by rw [List.length_map]; exact kOp_CB hC) (by rw [List.length_map]; exact hc) h1
  rw [List.length_map] at this
  exact this.mono fun e w' ⟨h4, h5⟩ => ⟨⟨r, h4, h2⟩, h5⟩
end Go.Proofs.YtbpackopicngmaaGreatDoor
