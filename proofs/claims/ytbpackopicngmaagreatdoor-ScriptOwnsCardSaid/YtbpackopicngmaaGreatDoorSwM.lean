/- Walks, part M: the laws' first(): the chapter's examples. -/
import Derived.Test.YtbpackopicngmaaGreatDoorSwL
namespace Go.Proofs.YtbpackopicngmaaGreatDoor
open Go.RowKit Go.Proofs.Sc Go.Proofs.YtbpackopicngmaaGreatDoorW.PrintWords

theorem parse_at {t : By} {s : PScript} {l c : Int} {w : World} {e : Ending} {w' : World} (h : ParsePost t w e w') (hp : parse t = (s, l, c)) :
    ∃ A c', e = .returned (.tuple #[.agg #[.int .i64 s.cap, .slice A s.ops.length c'], .int .i64 l, .int .i64 c]) ∧ s.ops.length ≤ c' ∧ kOp.C w' A s.ops.length s.ops ∧ Below w.heap.size w w' := by
  obtain ⟨v, rfl, hR, hb⟩ := h
  rw [hp] at hR ⊢
  obtain ⟨A, c', rfl, hl, hC⟩ := Kd.R_reads hR
  exact ⟨A, c', rfl, hl, hC, hb⟩

theorem print_at {s : PScript} {w w' : World} {e : Ending} {t : By} {c : Int} (h : PrintPost s w e w') (hp : Sc.print s = (t, c)) : e = .returned (.tuple #[.string ⟨t.toArray⟩, .int .i64 c]) ∧ Below w.heap.size w w' := by
  unfold PrintPost at h; rw [hp] at h; exact h

/-! ### the constants -/
def exT : By := [112, 105, 116, 104, 32, 57, 48, 48, 48, 10, 10, 112, 117, 116, 32, 101, 32, 118, 101, 114, 116, 105, 99, 101, 115, 92, 115, 50, 92, 110, 48, 92, 115, 49, 92, 110, 10, 32, 98, 117, 105, 108, 100, 32, 101, 32, 49, 48, 48, 32, 50, 32, 50, 32, 35, 32, 97, 108, 108, 10, 99, 114, 97, 115, 104, 32, 45, 49, 32, 48, 32, 53, 10]
def exF : By := [112, 105, 116, 104, 32, 57, 10, 97, 117, 100, 105, 116, 115, 32, 49, 32, 50, 10]
def exP : By := [112, 105, 116, 104, 32, 57, 48, 48, 48, 10, 112, 117, 116, 32, 101, 32, 118, 101, 114, 116, 105, 99, 101, 115, 92, 115, 50, 92, 110, 48, 92, 115, 49, 92, 110, 10, 98, 117, 105, 108, 100, 32, 101, 32, 49, 48, 48, 32, 50, 32, 50, 10, 99, 114, 97, 115, 104, 32, 45, 49, 32, 48, 32, 53, 10]
def exOps : List POp := [⟨1, 0, 0, [101], [118, 101, 114, 116, 105, 99, 101, 115, 32, 50, 10, 48, 32, 49, 10], []⟩, ⟨2, 100, 2, [101], [], [2]⟩, ⟨17, -1, 0, [], [], [0, 5]⟩]
abbrev exS : PScript := ⟨9000, exOps⟩
theorem ex_parse : parse exT = (exS, 0, 0) := by kernel_rfl
theorem ex_fault : parse exF = (PScript.zero, 2, 261) := by kernel_rfl
theorem ex_print : Sc.print exS = (exP, 0) := by kernel_rfl
theorem ex_spare : Sc.print ⟨9, [⟨8, 1, 0, [], [], []⟩]⟩ = ([], 271) := by kernel_rfl
theorem ex_un0 : unRes [92, 120, 50, 100] = .tuple #[.string ⟨#[45]⟩, .int .i64 0] := unRes_some (t := [45]) (by kernel_rfl)
theorem ex_un1 : unRes [92, 120, 52, 49] = .tuple #[.string ⟨#[]⟩, .int .i64 265] := unRes_none (by kernel_rfl)
theorem ex_fits : ∀ o ∈ exOps, OpFits o := by
  intro o ho
  simp only [exOps, List.mem_cons, List.not_mem_nil, or_false] at ho
  rcases ho with rfl | rfl | rfl <;> exact ⟨by decide, by decide, by decide, by decide, by decide⟩
theorem ex_fits1 : ∀ o ∈ [(⟨8, 1, 0, [], [], []⟩ : POp)], OpFits o := by
  intro o ho
  simp only [List.mem_cons, List.not_mem_nil, or_false] at ho
  rcases ho with rfl
  exact ⟨by decide, by decide, by decide, by decide, by decide⟩

theorem kOp_mk (w : World) (x : POp) {A5 : Option Addr} {c5 : Nat} (l5 : x.list.length ≤ c5) (g5 : (Kd.int .i64).C w A5 x.list.length x.list) : kOp.K w x [.int .i64 x.kind, .int .i64 x.a, .int .i64 x.b, .string ⟨x.name.toArray⟩, .string ⟨x.text.toArray⟩, .slice A5 x.list.length c5] := ⟨[.int .i64 x.kind], [.int .i64 x.a, .int .i64 x.b, .string ⟨x.name.toArray⟩, .string ⟨x.text.toArray⟩, .slice A5 x.list.length c5], rfl, rfl, ⟨[.int .i64 x.a], [.int .i64 x.b, .string ⟨x.name.toArray⟩, .string ⟨x.text.toArray⟩, .slice A5 x.list.length c5], rfl, rfl, ⟨[.int .i64 x.b], [.string ⟨x.name.toArray⟩, .string ⟨x.text.toArray⟩, .slice A5 x.list.length c5], rfl, rfl, ⟨[.string ⟨x.name.toArray⟩], [.string ⟨x.text.toArray⟩, .slice A5 x.list.length c5], rfl, rfl, ⟨[.string ⟨x.text.toArray⟩], [.slice A5 x.list.length c5], rfl, rfl, ⟨A5, c5, rfl, l5, g5⟩⟩⟩⟩⟩⟩

theorem int_C {W : World} {g : Nat} {l : List Int} {cs : Array Value} {t : TypeId} (h : W.heap[g]? = some (.cells cs t (0, 0))) (hc : cs = (nums .i64 l).toArray) (hl : l.length ≤ 9223372036854775807) : (Kd.int .i64).C W (some ⟨g, 0, none⟩) l.length l := by
  refine Kd.C_of_reads (d := (0 : Int)) ⟨rfl, hl, fun _ => ⟨_, rfl, fun j hj => ?_⟩⟩
  rw [add_plain, blk_cell h, hc]
  simp [nums, hj, List.getD_eq_getElem?_getD]

theorem int_C0 (W : World) : (Kd.int .i64).C W none 0 [] := ⟨rfl, by omega, fun h => absurd h (by omega)⟩

def exCells (g1 g2 : Nat) : Array Value := #[.int .i64 1, .int .i64 0, .int .i64 0, .string ⟨#[101]⟩, .string ⟨#[118, 101, 114, 116, 105, 99, 101, 115, 32, 50, 10, 48, 32, 49, 10]⟩, .slice none 0 0,
  .int .i64 2, .int .i64 100, .int .i64 2, .string ⟨#[101]⟩, .string ⟨#[]⟩, .slice (some ⟨g1, 0, none⟩) 1 1, .int .i64 17, .int .i64 (-1), .int .i64 0, .string ⟨#[]⟩, .string ⟨#[]⟩, .slice (some ⟨g2, 0, none⟩) 2 2]

theorem ex_C {W : World} {g1 g2 g3 : Nat} (h1 : W.heap[g1]? = some (.cells #[.int .i64 2] 3 (0, 0))) (h2 : W.heap[g2]? = some (.cells #[.int .i64 0, .int .i64 5] 3 (0, 0)))
    (h3 : W.heap[g3]? = some (.cells (exCells g1 g2) 44 (0, 0))) : kOp.C W (some ⟨g3, 0, none⟩) 3 exOps := by
  refine ⟨rfl, by omega, fun _ => ⟨_, rfl, fun j p hj => ?_⟩⟩
  have hcell : ∀ i, W.cell? ((⟨g3, 0, none⟩ : Addr).add i) = (exCells g1 g2)[i]? := fun i => by rw [add_plain, blk_cell h3]
  match j, hj with
  | 0, hj =>
    obtain rfl := Option.some.inj hj
    refine ⟨_, ?_, kOp_mk W _ (A5 := none) (c5 := 0) (by simp) (int_C0 W), fun i u hu => ?_⟩
    · rfl
    rw [hcell]
    have hi : i < 6 := (List.getElem?_eq_some_iff.1 hu).1
    match i, hi with | 0, _ => exact hu | 1, _ => exact hu | 2, _ => exact hu | 3, _ => exact hu | 4, _ => exact hu | 5, _ => exact hu
  | 1, hj =>
    obtain rfl := Option.some.inj hj
    refine ⟨_, ?_, kOp_mk W _ (A5 := some ⟨g1, 0, none⟩) (c5 := 1) (by simp) (int_C h1 rfl (by decide)), fun i u hu => ?_⟩
    · rfl
    rw [hcell]
    have hi : i < 6 := (List.getElem?_eq_some_iff.1 hu).1
    match i, hi with | 0, _ => exact hu | 1, _ => exact hu | 2, _ => exact hu | 3, _ => exact hu | 4, _ => exact hu | 5, _ => exact hu
  | 2, hj =>
    obtain rfl := Option.some.inj hj
    refine ⟨_, ?_, kOp_mk W _ (A5 := some ⟨g2, 0, none⟩) (c5 := 2) (by simp) (int_C h2 rfl (by decide)), fun i u hu => ?_⟩
    · rfl
    rw [hcell]
    have hi : i < 6 := (List.getElem?_eq_some_iff.1 hu).1
    match i, hi with | 0, _ => exact hu | 1, _ => exact hu | 2, _ => exact hu | 3, _ => exact hu | 4, _ => exact hu | 5, _ => exact hu

theorem one_C {W : World} {g : Nat} (h : W.heap[g]? = some (.cells #[.int .i64 8, .int .i64 1, .int .i64 0, .string ⟨#[]⟩, .string ⟨#[]⟩, .slice none 0 0] 44 (0, 0))) : kOp.C W (some ⟨g, 0, none⟩) 1 [⟨8, 1, 0, [], [], []⟩] := by
  refine ⟨rfl, by omega, fun _ => ⟨_, rfl, fun j p hj => ?_⟩⟩
  match j, hj with
  | 0, hj =>
    obtain rfl := Option.some.inj hj
    refine ⟨_, ?_, kOp_mk W _ (A5 := none) (c5 := 0) (by simp) (int_C0 W), fun i u hu => ?_⟩
    · rfl
    rw [add_plain, blk_cell h]
    have hi : i < 6 := (List.getElem?_eq_some_iff.1 hu).1
    match i, hi with | 0, _ => exact hu | 1, _ => exact hu | 2, _ => exact hu | 3, _ => exact hu | 4, _ => exact hu | 5, _ => exact hu

/-- The memory when the example's script has been built. -/
def exWorld (w1 : World) (A1 : Option Addr) (c1 : Nat) : World :=
  ((((w1.alloc (.cells #[.int .i64 9000, .slice A1 3 c1] 25)).alloc (.cells #[.int .i64 2] 3)).alloc (.cells #[.int .i64 0, .int .i64 5] 3)).alloc (.cells (exCells (w1.heap.size + 1) (w1.heap.size + 1 + 1)) 44)).alloc
    (.cells #[.int .i64 9000, .slice (some ⟨w1.heap.size + 1 + 1 + 1, 0, none⟩) 3 3] 25)

theorem exWorld_below (w1 : World) (A1 : Option Addr) (c1 : Nat) : Below w1.heap.size w1 (exWorld w1 A1 c1) :=
  (((((Below.refl _ _).alloc (Nat.le_refl _) _).alloc (by simp) _).alloc (by simp; omega) _).alloc (by simp; omega) _).alloc (by simp; omega) _

theorem exWorld_size (w1 : World) (A1 : Option Addr) (c1 : Nat) : (exWorld w1 A1 c1).heap.size = w1.heap.size + 5 := by simp [exWorld]

theorem new_at (w : World) (o : Obj) (k : Nat) (hk : k = w.heap.size) : (w.alloc o).heap[k]? = some o := by subst hk; exact heap_alloc_new w o

theorem exWorld_heap (w1 : World) (A1 : Option Addr) (c1 : Nat) :
    (exWorld w1 A1 c1).heap[w1.heap.size + 1]? = some (.cells #[.int .i64 2] 3 (0, 0)) ∧ (exWorld w1 A1 c1).heap[w1.heap.size + 1 + 1]? = some (.cells #[.int .i64 0, .int .i64 5] 3 (0, 0)) ∧
    (exWorld w1 A1 c1).heap[w1.heap.size + 1 + 1 + 1]? = some (.cells (exCells (w1.heap.size + 1) (w1.heap.size + 1 + 1)) 44 (0, 0)) ∧
    (exWorld w1 A1 c1).heap[w1.heap.size + 1 + 1 + 1 + 1]? = some (.cells #[.int .i64 9000, .slice (some ⟨w1.heap.size + 1 + 1 + 1, 0, none⟩) 3 3] 25 (0, 0)) := by
  unfold exWorld
  refine ⟨?_, ?_, ?_, ?_⟩
  · rw [Below.heap_alloc _ _ _ (by simp), Below.heap_alloc _ _ _ (by simp), Below.heap_alloc _ _ _ (by simp)]; exact new_at _ _ _ (by simp)
  · rw [Below.heap_alloc _ _ _ (by simp), Below.heap_alloc _ _ _ (by simp)]; exact new_at _ _ _ (by simp)
  · rw [Below.heap_alloc _ _ _ (by simp)]; exact new_at _ _ _ (by simp)
  · exact new_at _ _ _ (by simp)

theorem r_true {r : Bool} {a b : PScript} (h : r = true ↔ a = b) (e : a = b) : r = true := h.2 e

set_option maxHeartbeats 8000000 in
set_option maxRecDepth 100000 in
theorem lawFirst_any (w : World) {B : Nat} (hE : Env B w) : Calls Tryz.prog 6 #[] w fun e w' => e = .returned (.bool true) ∧ Below w.heap.size w w' := by
  have hEW : Env w.heap.size w := hE.up hE.le (Nat.le_refl _)
  clear hE
  go_enter Tryz.func6, Tryz.ntmps6
  go_wp2_with fail
  refine (Parse_any ⟨exT.toArray⟩ (by decide) _ hEW).mono ?_
  rintro e w1 hP
  obtain ⟨A1, c1, rfl, hl1, hC1, hB1⟩ := parse_at hP ex_parse
  clear hP
  have HC1 := Lib.hid hC1
  have hwB := hB1.trans ((exWorld_below w1 A1 c1).mono hB1.size)
  have HWB := Lib.hid hwB
  have HEX := Lib.hid (exWorld_heap w1 A1 c1)
  have HSZ := Lib.hid (exWorld_size w1 A1 c1)
  clear hC1 hB1 hwB
  go_wp2_with fail
  refine (same_any exS exS A1 (some ⟨w1.heap.size + 1 + 1 + 1, 0, none⟩) c1 3 (exWorld w1 A1 c1) (Kd.C_below HC1.out (exWorld_below w1 A1 c1)) (ex_C HEX.out.1 HEX.out.2.1 HEX.out.2.2.1) hl1 (by decide)).mono ?_
  rintro e w2 ⟨⟨r, rfl, hr⟩, hB2⟩
  obtain rfl := hr.2 rfl
  clear hr
  have h24 := (hB2.block _ (by rw [HSZ.out]; omega)).trans HEX.out.2.2.2
  have HB2 := Lib.hid hB2
  have hz2 : w1.heap.size + 1 + 1 + 1 + 1 < w2.heap.size := blk_lt h24
  have HW2 := Lib.hid (HWB.out.trans (hB2.mono HWB.out.size))
  have H24 := Lib.hid h24
  clear hB2 h24
  go_wp2_with fail
  refine (Parse_any ⟨exF.toArray⟩ (by decide) _ (hEW.belowB HW2.out)).mono ?_
  rintro e w3 hP
  obtain ⟨A3, c3, rfl, hl3, _, hB3⟩ := parse_at hP ex_fault
  clear hP
  have h34 := (hB3.block _ (blk_lt H24.out)).trans H24.out
  have HB3 := Lib.hid (HB2.out.trans (hB3.mono HB2.out.size))
  have HW3 := Lib.hid (HW2.out.trans (hB3.mono HW2.out.size))
  have hz3 : w1.heap.size + 1 + 1 + 1 + 1 < w3.heap.size := blk_lt h34
  have hc0 : w3.cell? ⟨w1.heap.size + 1 + 1 + 1 + 1, 0, none⟩ = some (.int .i64 9000) := by rw [blk_cell h34]; rfl
  have hc1 : w3.cell? ⟨w1.heap.size + 1 + 1 + 1 + 1, 1, none⟩ = some (.slice (some ⟨w1.heap.size + 1 + 1 + 1, 0, none⟩) 3 3) := by rw [blk_cell h34]; rfl
  have HPC := Lib.hid (Kd.C_below (ex_C HEX.out.1 HEX.out.2.1 HEX.out.2.2.1) HB3.out)
  clear hB3 h34
  have HA3 := Lib.hid (show Below w3.heap.size w3 (w3.alloc (.cells #[.int .i64 0, .slice A3 0 c3] 25)) from (Below.refl _ _).alloc (Nat.le_refl _) _)
  go_wp2_with fail
  refine (Print_any 9000 exOps (some ⟨w1.heap.size + 1 + 1 + 1, 0, none⟩) 3 (w3.alloc (.cells #[.int .i64 0, .slice A3 0 c3] 25)) (hEW.belowB (HW3.out.trans (HA3.out.mono HW3.out.size))) ex_fits (Kd.C_below HPC.out HA3.out)).mono ?_
  rintro e w4 hP
  obtain ⟨rfl, hB4⟩ := print_at hP ex_print
  have HW4 := Lib.hid (HW3.out.trans ((HA3.out.trans (hB4.mono HA3.out.size)).mono HW3.out.size))
  have HA4 := Lib.hid (show Below w4.heap.size w4 (w4.alloc (.cells #[.int .i64 8, .int .i64 1, .int .i64 0, .string ⟨#[]⟩, .string ⟨#[]⟩, .slice none 0 0] 44)) from (Below.refl _ _).alloc (Nat.le_refl _) _)
  clear hP hB4 hc0 hc1 hz3 hz2 hl3
  go_wp2_with fail
  refine (Print_any 9 [⟨8, 1, 0, [], [], []⟩] (some ⟨w4.heap.size, 0, none⟩) 1 (w4.alloc (.cells #[.int .i64 8, .int .i64 1, .int .i64 0, .string ⟨#[]⟩, .string ⟨#[]⟩, .slice none 0 0] 44)) (hEW.belowB (HW4.out.trans (HA4.out.mono HW4.out.size))) ex_fits1 (one_C (new_at _ _ _ rfl))).mono ?_
  rintro e w5 hP
  obtain ⟨rfl, hB5⟩ := print_at hP ex_spare
  have HW5 := Lib.hid (HW4.out.trans ((HA4.out.trans (hB5.mono HA4.out.size)).mono HW4.out.size))
  clear hP hB5
  go_wp2_with fail
  refine (Unescape_any ⟨#[92, 120, 50, 100]⟩ _ (by decide)).mono ?_
  rintro e w6 ⟨he, hB6⟩
  obtain rfl := he.trans (congrArg Ending.returned ex_un0)
  have HW6 := Lib.hid (HW5.out.trans (hB6.mono HW5.out.size))
  clear he hB6
  go_wp2_with fail
  refine (Unescape_any ⟨#[92, 120, 52, 49]⟩ _ (by decide)).mono ?_
  rintro e w7 ⟨he, hB7⟩
  obtain rfl := he.trans (congrArg Ending.returned ex_un1)
  have HW7 := Lib.hid (HW6.out.trans (hB7.mono HW6.out.size))
  clear he hB7
  go_wp2_with fail
  refine (num_any _ _).mono ?_
  rintro e w8 ⟨rfl, rfl⟩
  go_wp2_with fail
  refine (num_any _ _).mono ?_
  rintro e w8 ⟨rfl, rfl⟩
  go_wp2_with fail
  refine (num_any _ _).mono ?_
  rintro e w8 ⟨rfl, rfl⟩
  go_wp2_with fail
  refine (num_any _ _).mono ?_
  rintro e w8 ⟨rfl, rfl⟩
  go_wp2_with fail
  refine (num_any _ _).mono ?_
  rintro e w8 ⟨rfl, rfl⟩
  go_wp2_with fail
  refine (num_any _ _).mono ?_
  rintro e w8 ⟨rfl, rfl⟩
  go_wp2_with fail
  refine (escape_any ⟨#[]⟩ _ (by decide)).mono ?_
  rintro e w8 ⟨he, hB8⟩
  obtain rfl := he.trans (congrArg (fun l : By => Ending.returned (.string ⟨l.toArray⟩)) (show escape [] = [45] from rfl))
  have HW8 := Lib.hid (HW7.out.trans (hB8.mono HW7.out.size))
  clear he hB8
  go_wp2_with fail
  refine (escape_any ⟨#[97, 32, 98]⟩ _ (by decide)).mono ?_
  rintro e w9 ⟨he, hB9⟩
  obtain rfl := he.trans (congrArg (fun l : By => Ending.returned (.string ⟨l.toArray⟩)) (show escape [97, 32, 98] = [97, 92, 115, 98] by kernel_rfl))
  have HW9 := Lib.hid (HW8.out.trans (hB9.mono HW8.out.size))
  clear he hB9
  go_wp2_with fail
  refine (Word_any 19 _ (hEW.belowB HW9.out) (by decide) (by decide)).mono ?_
  rintro e w10 ⟨he, rfl⟩
  obtain rfl := he.trans (congrArg (fun l : By => Ending.returned (.string ⟨l.toArray⟩)) (show wordOf 19 = [114, 101, 109, 111, 118, 101] by kernel_rfl))
  clear he
  go_wp2_with fail
  go_ret
  exact ⟨rfl, HW9.out⟩
end Go.Proofs.YtbpackopicngmaaGreatDoor
