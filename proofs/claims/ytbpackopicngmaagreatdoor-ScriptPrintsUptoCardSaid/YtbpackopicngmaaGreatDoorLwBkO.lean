/- An argument that is a script, out of its reading. -/
import Derived.Test.YtbpackopicngmaaGreatDoorSwM
import Derived.Deep.SlicePairs
import Derived.OpenShut
namespace Go.Proofs.YtbpackopicngmaaGreatDoor
open Go.RowKit Go.Proofs.Sc Go.Proofs.YtbpackopicngmaaGreatDoorW.PrintWords Go.ChangeShapes Go.WideShapes Go.Deep

instance : Inhabited POp := ⟨POp.zero⟩

theorem wf64 {n : Int} (h : (Lit.int .i64 n).wf = true) : -9223372036854775808 ≤ n ∧ n ≤ 9223372036854775807 := by simpa [Lit.wf, IntKind.min, IntKind.max, IntKind.signed, IntKind.bits] using h

section
variable {H : Type} {enc : TypeId × Value → H} {w : World}

theorem open_list {fuel : Nat} {v : Value} {x : DataW H × List MemPlace} (h : DataW.trod enc Tryz.prog w 0 (fun _ => true) true fuel 42 [v] = some x) :
    ∃ (l : List Int) (A : Option Addr) (c : Nat), v = .slice A l.length c ∧ l.length ≤ c ∧ (Kd.int .i64).C w A l.length l := by
  rcases open_ints Tryz.underlying42 Tryz.underlying3 (by kernel_rfl) h with ⟨hcs, _⟩ | ⟨a, len, cap, zs, hcs, _, hl, hm, hz, _, hcell, _⟩
  · exact ⟨[], none, 0, (List.cons.inj hcs).1, Nat.le_refl _, Kd.C_nil _ _⟩
  · rw [if_pos rfl] at hz
    have hl2 : (zs.take len).length = len := by rw [List.length_take]; omega
    have hml : maxLen ≤ 9223372036854775807 := by decide
    refine ⟨zs.take len, some a, cap, by rw [hl2]; exact (List.cons.inj hcs).1, by omega, ?_⟩
    refine Kd.C_of_reads (d := (0 : Int)) ⟨rfl, by omega, fun _ => ⟨a, rfl, fun j hj => ?_⟩⟩
    rw [hcell j (by omega)]
    congr 2
    rw [List.getD_eq_getElem?_getD, List.getD_eq_getElem?_getD, List.getElem?_take, if_pos (by omega)]

set_option maxRecDepth 100000 in
theorem open_op {fuel : Nat} {cs : List Value} {x : DataW H × List MemPlace} (h : DataW.trod enc Tryz.prog w 0 (fun _ => true) true fuel 44 cs = some x) :
    ∃ (o : POp) (A : Option Addr) (c : Nat), cs = [.int .i64 o.kind, .int .i64 o.a, .int .i64 o.b, .string ⟨o.name.toArray⟩, .string ⟨o.text.toArray⟩, .slice A o.list.length c] ∧ o.list.length ≤ c ∧ (Kd.int .i64).C w A o.list.length o.list ∧ -9223372036854775808 ≤ o.kind ∧ o.kind ≤ 9223372036854775807 := by
  obtain ⟨xs, n, rfl, _, hl, hxl, hf⟩ := DataW.trod_struct Tryz.underlying44 h
  rw [show Tryz.prog.cellsOf 44 = 6 by kernel_rfl] at hl
  match cs, hl, xs, hxl with
  | [c0, c1, c2, c3, c4, c5], _, [y0, y1, y2, y3, y4, y5], _ =>
    have ci : Tryz.prog.cellsOf 3 = 1 := by kernel_rfl
    have cs_ : Tryz.prog.cellsOf 9 = 1 := by kernel_rfl
    have cl : Tryz.prog.cellsOf 42 = 1 := by kernel_rfl
    have g0 := hf 0 _ rfl
    have g1 := hf 1 _ rfl
    have g2 := hf 2 _ rfl
    have g3 := hf 3 _ rfl
    have g4 := hf 4 _ rfl
    have g5 := hf 5 _ rfl
    simp [ci, cs_, cl] at g0 g1 g2 g3 g4 g5
    obtain ⟨x0, e0, _, wf0⟩ := DataW.trod_int Tryz.underlying3 g0
    obtain ⟨x1, e1, _⟩ := DataW.trod_int Tryz.underlying3 g1
    obtain ⟨x2, e2, _⟩ := DataW.trod_int Tryz.underlying3 g2
    obtain ⟨x3, e3, _⟩ := DataW.trod_string Tryz.underlying9 g3
    obtain ⟨x4, e4, _⟩ := DataW.trod_string Tryz.underlying9 g4
    obtain ⟨l, A, c, e5, hlc, hC⟩ := open_list g5
    obtain rfl := (List.cons.inj e0).1
    obtain rfl := (List.cons.inj e1).1
    obtain rfl := (List.cons.inj e2).1
    obtain rfl := (List.cons.inj e3).1
    obtain rfl := (List.cons.inj e4).1
    subst e5
    exact ⟨⟨x0, x1, x2, x3.data.toList, x4.data.toList, l⟩, A, c, rfl, hlc, hC, wf64 wf0⟩

set_option maxRecDepth 100000 in
theorem open_ops {fuel : Nat} {v : Value} {x : DataW H × List MemPlace} (h : DataW.trod enc Tryz.prog w 0 (fun _ => true) true fuel 23 [v] = some x) :
    ∃ (ops : List POp) (A : Option Addr) (c : Nat), v = .slice A ops.length c ∧ ops.length ≤ c ∧ kOp.C w A ops.length ops ∧ ∀ o ∈ ops, -9223372036854775808 ≤ o.kind ∧ o.kind ≤ 9223372036854775807 := by
  rcases open_slice Tryz.underlying23 h with ⟨hcs, _⟩ | ⟨a, len, cap, m, n, D, Pl, hcs, _, hl, hm, hmm, _, hx⟩
  · exact ⟨[], none, 0, (List.cons.inj hcs).1, Nat.le_refl _, Kd.C_nil _ _, by simp⟩
  · rw [if_pos rfl] at hmm
    rw [show Tryz.prog.cellsOf 44 = 6 by kernel_rfl] at hx
    have each : ∀ i, i < len → ∃ o : POp, (∃ A c, (∀ k u, ([.int .i64 o.kind, .int .i64 o.a, .int .i64 o.b, .string ⟨o.name.toArray⟩, .string ⟨o.text.toArray⟩, .slice A o.list.length c] : List Value)[k]? = some u → w.cell? (a.add (i * 6 + k)) = some u) ∧ o.list.length ≤ c ∧ (Kd.int .i64).C w A o.list.length o.list) ∧ -9223372036854775808 ≤ o.kind ∧ o.kind ≤ 9223372036854775807 := by
      intro i hi
      obtain ⟨cs, h1, h2⟩ := hx i (by omega)
      obtain ⟨_, hlen, hcell⟩ := World.cells?_some h1
      obtain ⟨o, A, c, rfl, hlc, hC, hk⟩ := open_op h2
      refine ⟨o, ⟨A, c, fun k u hu => ?_, hlc, hC⟩, hk⟩
      have hk6 : k < 6 := (List.getElem?_eq_some_iff.1 hu).1
      have := hcell k hk6
      rw [Go.Deep.add_add] at this
      rw [this]; exact hu
    obtain ⟨q, hq⟩ := choose_lt each
    have hml : maxLen ≤ 9223372036854775807 := by decide
    have hn63 : len ≤ 9223372036854775807 := by omega
    have hlen : ((List.range len).map q).length = len := by simp
    refine ⟨(List.range len).map q, some a, cap, by rw [hlen]; exact (List.cons.inj hcs).1, by rw [hlen]; exact hl, ⟨rfl, by rw [hlen]; exact hn63, fun _ => ⟨a, rfl, fun j p hp => ?_⟩⟩, fun o ho => ?_⟩
    · rw [List.getElem?_map] at hp
      obtain ⟨i, hi, rfl⟩ := Option.map_eq_some_iff.1 hp
      have hin : j < len ∧ i = j := by
        have hj := (List.getElem?_eq_some_iff.1 hi).1
        rw [List.length_range] at hj
        rw [List.getElem?_range hj] at hi
        exact ⟨hj, (Option.some.inj hi).symm⟩
      obtain ⟨hjn, rfl⟩ := hin
      obtain ⟨⟨A, c, hc, hlc, hC⟩, _⟩ := hq i hjn
      exact ⟨_, rfl, kOp_mk w (q i) hlc hC, hc⟩
    · obtain ⟨i, hi, rfl⟩ := List.mem_map.1 ho
      exact (hq i (List.mem_range.1 hi)).2

set_option maxRecDepth 100000 in
theorem open_script {r : Reach} {b0 : Nat} {v : Value} {d : DataW H} {ps : List MemPlace} (hval : Value.okWide Tryz.prog w r b0 25 v) (h : DataW.Trod enc Tryz.prog w 0 (fun _ => true) true 25 v d ps) :
    ∃ (cap : Int) (ops : List POp) (A : Option Addr) (c : Nat), v = .agg #[.int .i64 cap, .slice A ops.length c] ∧ ops.length ≤ c ∧ kOp.C w A ops.length ops ∧ ∀ o ∈ ops, -9223372036854775808 ≤ o.kind ∧ o.kind ≤ 9223372036854775807 := by
  obtain ⟨cs, rfl, hs⟩ := okWide_struct Tryz.underlying25 hval
  obtain ⟨fuel, hf⟩ := h
  obtain ⟨xs, n, rfl, _, hl, hxl, hfs⟩ := DataW.trod_struct Tryz.underlying25 hf
  rw [show Tryz.prog.cellsOf 25 = 2 by kernel_rfl] at hl hs
  obtain ⟨cl⟩ := cs
  match cl, hs, xs, hxl with
  | [c0, c1], _, [y0, y1], _ =>
    have ci : Tryz.prog.cellsOf 3 = 1 := by kernel_rfl
    have cl : Tryz.prog.cellsOf 23 = 1 := by kernel_rfl
    have g0 := hfs 0 _ rfl
    have g1 := hfs 1 _ rfl
    simp [ci, cl, Value.cells] at g0 g1
    obtain ⟨x0, e0, _⟩ := DataW.trod_int Tryz.underlying3 g0
    obtain ⟨ops, A, c, e1, h1, h2, h3⟩ := open_ops g1
    obtain rfl := (List.cons.inj e0).1
    subst e1
    exact ⟨x0, ops, A, c, rfl, h1, h2, h3⟩
end
end Go.Proofs.YtbpackopicngmaaGreatDoor
