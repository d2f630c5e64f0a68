/- From the row's condition to what the walks ask of the world: the listed variables' cells. -/
import Derived.Test.YtbpackopicngmaaGreatDoorSwM
import Derived.Test.YtbpackopicngmaaGreatDoorRows
import Derived.ProofKit
import Derived.OpenShut
import Derived.ChangeSame
import Derived.LaidLaws
import Derived.Lib.LaidTab
import Derived.Lib.LaidU8
import Derived.Shelf.Vars
namespace Go.Proofs.YtbpackopicngmaaGreatDoor
open Go.RowKit Go.Proofs.Sc Go.ChangeShapes Go.Proofs.YtbpackopicngmaaGreatDoorW.PrintWords

theorem flat_pairs : ∀ (ps : List (By × By)) (cs : List Value), cs.length = ps.length * 2 → (∀ (i : Nat) x, ps[i]? = some x → (cs.drop (i * 2)).take 2 = [.string ⟨x.1.toArray⟩, .string ⟨x.2.toArray⟩]) → cs = ps.flatMap fun x => [.string ⟨x.1.toArray⟩, .string ⟨x.2.toArray⟩]
  | [], cs, hl, _ => by simpa using hl
  | x :: ps, cs, hl, h => by
    have h0 := h 0 x rfl
    simp only [Nat.zero_mul, List.drop_zero] at h0
    have h1 := flat_pairs ps (cs.drop 2) (by simp at hl ⊢; omega) (fun i y hy => by
      have := h (i + 1) y (by simpa using hy)
      rw [List.drop_drop, show 2 + i * 2 = (i + 1) * 2 by omega]; exact this)
    rw [List.flatMap_cons, ← h0, ← h1, List.take_append_drop]

/-- An array of pairs of strings that reads as these holds these, cell for cell. -/
theorem cells_of_pairs {H : Type} {enc : TypeId × Value → H} {P : Program} {w : World} {base : Nat} {sp : Nat → Bool} {held : Bool} {fuel : Nat} {t e s : TypeId} {n : Nat} {f0 f1 : Field} {cs : List Value} {ps : List (By × By)} {p : List MemPlace}
    (ht : P.underlying t = some (.array n e)) (he : P.underlying e = some (.struct #[f0, f1])) (hs0 : f0.type = s) (hs1 : f1.type = s) (ho0 : f0.offset = 0) (ho1 : f1.offset = 1) (hs : P.underlying s = some .string) (hcs : P.cellsOf s = 1) (hce : P.cellsOf e = 2) (hct : P.cellsOf t = n * 2)
    (h : DataW.trod enc P w base sp held fuel t cs = some (.agg (ps.map fun x => .agg [.lit (.string x.1), .lit (.string x.2)]), p)) : cs = ps.flatMap fun x => [.string ⟨x.1.toArray⟩, .string ⟨x.2.toArray⟩] := by
  cases fuel with
  | zero => simp [DataW.trod] at h
  | succ fuel =>
    simp only [DataW.trod, ht, hce, hct] at h
    split at h
    · rename_i hl
      obtain ⟨xs, hm, hx⟩ := Option.map_eq_some_iff.1 h
      have hxs : xs.map (·.1) = ps.map fun x => (DataW.agg [.lit (.string x.1), .lit (.string x.2)] : DataW H) := by
        have := congrArg Prod.fst hx
        simpa using this
      have hxl : xs.length = n := by simpa using Lib.mapM_length hm
      have hpl : ps.length = n := by
        have := congrArg List.length hxs
        simp at this
        omega
      refine flat_pairs ps cs (by rw [hl, hpl]) (fun i x hi => ?_)
      have hin : i < n := by rw [← hpl]; exact (List.getElem?_eq_some_iff.1 hi).1
      obtain ⟨b, hb, hf⟩ := Lib.mapM_at hm i i (by simp [hin])
      have h2 : (xs.map (·.1))[i]? = some b.1 := by simp [hb]
      rw [hxs, List.getElem?_map, hi] at h2
      obtain ⟨y0, y1, m, hb2, hl2, h3, h4⟩ := trod_struct2 he hf
      rw [hb2] at h2
      simp only [Option.map_some, Option.some.injEq, DataW.agg.injEq, List.cons.injEq, and_true] at h2
      rw [hs0, ho0, hcs] at h3
      rw [hs1, ho1, hcs] at h4
      obtain ⟨s0, e0, d0, _⟩ := DataW.trod_string hs h3
      obtain ⟨s1, e1, d1, _⟩ := DataW.trod_string hs h4
      rw [d0, d1] at h2
      simp only [DataW.lit.injEq, Lit.string.injEq] at h2
      obtain ⟨g0, g1⟩ := h2
      rw [hce] at hl2
      match hcc : (cs.drop (i * 2)).take 2, hl2 with
      | [c0, c1], _ =>
        rw [hcc] at e0 e1
        simp only [List.drop_zero, List.take_succ_cons, List.take_zero, List.cons.injEq, and_true, List.drop_succ_cons] at e0 e1
        rw [e0, e1, ← byteEq g0.symm, ← byteEq g1.symm]
    · cases h

theorem VarAt.of {W : World} {n : String} {cs : Array Value} {g : Nat} (hg : Tryz.prog.globalNamed n = some g) (h : W.var? Tryz.prog n = some cs) : VarAt W.heap.size W n cs := by
  refine ⟨h, fun g' hg' => ?_⟩
  rw [hg] at hg'
  cases hg'
  unfold World.var? at h
  rw [hg] at h
  simp only [Option.bind_some] at h
  split at h
  · rename_i e; exact blk_lt e
  · cases h

set_option maxRecDepth 100000 in
theorem var_int {W : World} (hsh : W.ShapedOpen Tryz.prog) : ∃ m : Int, VarAt W.heap.size W "internal/bytealg.MaxLen" #[.int .i64 m] := by
  obtain ⟨m, hm⟩ := cell_of_shapedOpen_int (P := Tryz.prog) (g := 1) (t := 3) (zero := #[.int .i64 0]) hsh (of_decide_eq_true (by kernel_rfl)) (by kernel_rfl) rfl (by kernel_rfl) (by kernel_rfl) Tryz.underlying3
  refine ⟨m, VarAt.of named_maxLen ?_⟩
  obtain ⟨cs, hh, hs, _⟩ := hsh.1 1 #[.int .i64 0] 3 (of_decide_eq_true (by kernel_rfl)) (by kernel_rfl)
  unfold World.var?
  rw [named_maxLen]
  simp only [Option.bind_some, hh, Option.some.injEq]
  have h1 : cs.size = 1 := hs
  have h2 : cs[0]? = some (.int .i64 m) := by rw [← hm]; exact (blk_cell hh 0).symm
  apply Array.ext_getElem?
  intro i
  match i with
  | 0 => exact h2
  | i + 1 => rw [Array.getElem?_eq_none (by omega), Array.getElem?_eq_none (by simp)]

theorem var_iface {W : World} {n : String} {nm : String} {d : DataW Unit} {g : Nat} {ms : Array (String × TypeId)} (hg : Tryz.prog.globalNamed n = some g) (ht : (Tryz.prog.globals[g]?).map (·.type) = some 89) (hu : Tryz.prog.underlying 89 = some (.interface ms))
    (h : Lib.VarReads Tryz.prog W n (.iface nm d)) : ∃ tp p, VarAt W.heap.size W n #[.iface tp p] := by
  obtain ⟨g', t, cs, fuel, p, h1, h2, h3, h4⟩ := h
  cases Option.some.inj (hg.symm.trans h1)
  cases Option.some.inj (ht.symm.trans h2)
  obtain ⟨_, u, v, hcs, _, _⟩ := iface_of_trod hu h4
  refine ⟨u, v, VarAt.of hg ?_⟩
  exact h3.trans (congrArg some (Array.toList_inj.1 hcs))

theorem pow_at {W : World} {laid : List (String × DataW Unit)} (hl : laidMet Tryz.prog laid W) (m1 : ("internal/strconv.uint64pow10", Rows.laid_internal_strconv_uint64pow10) ∈ laid) : VarAt W.heap.size W "internal/strconv.uint64pow10" (Lib.pow10Tab.map fun z => Value.int .u64 z).toArray := by
  obtain ⟨g', t, cs, fuel, p, h1, h2, h3, h4⟩ := Lib.laidMet.reads hl m1
  have e1 : 2 = g' := Option.some.inj ((show Tryz.prog.globalNamed "internal/strconv.uint64pow10" = some 2 by kernel_rfl).symm.trans h1)
  subst e1
  have e2 : 244 = t := Option.some.inj ((show (Tryz.prog.globals[2]?).map (·.type) = some 244 by kernel_rfl).symm.trans h2)
  subst e2
  refine VarAt.of h1 ?_
  rw [h3]
  refine congrArg some ?_
  have hd : (Rows.laid_internal_strconv_uint64pow10 : DataW Unit) = Lib.tabData .u64 Lib.pow10Tab := by kernel_rfl
  rw [hd] at h4
  have := Lib.cells_of_tab Tryz.underlying244 Tryz.underlying226 (by kernel_rfl) (by kernel_rfl) h4
  exact Array.toList_inj.1 this

theorem steps_at {W : World} {laid : List (String × DataW Unit)} (hl : laidMet Tryz.prog laid W) (m4 : ("pith/script.steps", Rows.laid_pith_script_steps) ∈ laid) : VarAt W.heap.size W "pith/script.steps" stepCells.toArray := by
  obtain ⟨g', t, cs, fuel, p, h1, h2, h3, h4⟩ := Lib.laidMet.reads hl m4
  have e1 : 0 = g' := Option.some.inj (named_steps.symm.trans h1)
  subst e1
  have e2 : 107 = t := Option.some.inj ((show (Tryz.prog.globals[0]?).map (·.type) = some 107 by kernel_rfl).symm.trans h2)
  subst e2
  refine VarAt.of h1 ?_
  rw [h3]
  refine congrArg some ?_
  have hd : (Rows.laid_pith_script_steps : DataW Unit) = .agg ((kindWords.zip kindFields).map fun x => .agg [.lit (.string x.1), .lit (.string x.2)]) := by kernel_rfl
  rw [hd] at h4
  exact Array.toList_inj.1 (cells_of_pairs Tryz.underlying107 Tryz.underlying106 rfl rfl rfl rfl Tryz.underlying9 (by kernel_rfl) (by kernel_rfl) (by kernel_rfl) h4)

theorem env_of {W : World} {laid : List (String × DataW Unit)} (hl : laidMet Tryz.prog laid W) (hsh : W.ShapedOpen Tryz.prog)
    (m1 : ("internal/strconv.uint64pow10", Rows.laid_internal_strconv_uint64pow10) ∈ laid) (m2 : ("strconv.ErrRange", Rows.laid_strconv_ErrRange) ∈ laid) (m3 : ("strconv.ErrSyntax", Rows.laid_strconv_ErrSyntax) ∈ laid) (m4 : ("pith/script.steps", Rows.laid_pith_script_steps) ∈ laid) :
    Env W.heap.size W :=
  ⟨Nat.le_refl _, var_int hsh, pow_at hl m1, steps_at hl m4, var_iface (g := 5) (by kernel_rfl) (by kernel_rfl) Tryz.underlying89 (Lib.laidMet.reads hl m3), var_iface (g := 6) (by kernel_rfl) (by kernel_rfl) Tryz.underlying89 (Lib.laidMet.reads hl m2)⟩
end Go.Proofs.YtbpackopicngmaaGreatDoor
