/-
  pithlaw26.ScriptNoise answers true for every input and leaves its input as it was: blanks, remarks and lines without words, laid into a text, change nothing that script.Parse tells of it but the lines' numbers (a text of at most 60 KB, at most 60 of them).
  Conditions: the listed package variables hold what the program's text lays (the card ties them); no other condition.
-/
import Derived.Test.YtbpackopicngmaaDoorCards
import Derived.Test.YtbpackopicngmaaDoorTie
import Derived.Test.YtbpackopicngmaaDoorLwNoB
import Derived.WalkKit
import Derived.ProofKit
import Derived.OpenShut
import Derived.Deep.DeepHandedRow
import Derived.Lay
import Derived.SevenTiedAt
import Derived.Carry
namespace Go.Proofs.YtbpackopicngmaaDoor.Noise
open Go.ChangeShapes Go.ChangeMaps Go.WideShapes Go.ChangeAt Go.RowKit Go.Proofs.YtbpackopicngmaaDoorW.PrintWords

theorem own : ownKnob Tryd.prog.godebug = none := by kernel_rfl
theorem laidOut : laidOutB Tryd.prog = true := by kernel_rfl

set_option maxRecDepth 100000 in
theorem contract (H : Type) (enc : TypeId × Value → H) (W : World) (base : Nat) (args : Array Value) (ds gs : List (DataW H)) (before : List MemPlace)
    (hval : ∀ (j : Nat) t v, Tryd.f8.params[j]? = some t → args[j]? = some v → Value.okWide Tryd.prog W .any base t v)
    (hW : DataW.Whole enc Tryd.prog Tryd.f8.params.toList Rows.scriptNoiseSpec.vars false W args.toList ds gs before) (hL : laidMetH Tryd.prog Rows.scriptNoiseRow.laid W) (hsh : W.ShapedOpen Tryd.prog) :
    Calls Tryd.prog 8 args W fun e W' => ∃ v, e = .returned v ∧ Rows.scriptNoiseSpec.post enc Tryd.prog Tryd.f8 false true false false W args v W' := by
  have hW' := hW
  obtain ⟨p, q, hA0, hV, rfl, hfz, hnd⟩ := hW
  have hA : DataW.TrodAll enc Tryd.prog W 0 (fun _ => true) true Tryd.f8.params.toList args.toList ds p := hA0
  rw [Tryd.params8] at hA hval
  obtain ⟨v0, v1, d0, d1, p0, p1, rfl, rfl, rfl, h0, h1⟩ := trodAll_two hA
  obtain ⟨rfl, rfl⟩ := trodVars_none hV
  obtain ⟨a, rfl, rfl, rfl, wa⟩ := open_string Tryd.underlying9 (hval 0 9 v0 rfl rfl) h0
  obtain ⟨A0, n, c0, rfl⟩ := okWide_slice Tryd.underlying44 (hval 1 44 v1 rfl rfl)
  have kh1 := h1
  have lt1 : ∀ x ∈ p1, x.block < W.heap.size := by obtain ⟨f, hf⟩ := kh1; exact DataW.trod_lt f _ _ _ hf
  obtain ⟨ns, hC⟩ := open_noises h1
  clear hA0
  simp only [List.append_nil] at hW'
  have hE : Env W.heap.size W := env_of (laid := Rows.scriptNoiseRow.laid) hL hsh (by simp [Rows.scriptNoiseRow]) (by simp [Rows.scriptNoiseRow]) (by simp [Rows.scriptNoiseRow]) (by simp [Rows.scriptNoiseRow])
  refine (ScriptNoise_any a A0 n c0 ns W hC wa hE).mono fun e W' ⟨he, hb⟩ => ?_
  subst he
  exact ⟨_, rfl, _, _, _, [], _, [], hW', trodAll_mk1 (shut_bool Tryd.underlying4 _), trodAll_mk2 (shut_string Tryd.underlying9 wa) (Below.trod laidOut (by kernel_rfl) (of_decide_eq_true (by kernel_rfl)) kh1 hb lt1), rfl, hb.frame _, fun h => by cases h⟩

set_option maxRecDepth 100000 in
theorem laid_met (os : Os) (args : Array Value) : laidMet Tryd.prog Rows.scriptNoiseRow.laid (((World.laidAll Tryd.prog os Rows.scriptNoiseRow.laid)).forCall (fun _ _ => 0) ⟨#[], args, []⟩).memory :=
  laidMet_laidAll args (by kernel_rfl) (by kernel_rfl)

set_option maxRecDepth 100000 in
theorem lifted (os : Os) (started : os.Started) (H : Type) (enc : TypeId × Value → H) (F : Stop.Interp) :
    ReturnsInHanded {} Tryd.checked os 8 .any ((OpenSpec.ofChange Rows.scriptNoiseSpec).preRow enc Tryd.prog Tryd.f8 Rows.scriptNoiseRow.domain false Rows.scriptNoiseRow.laid) (((OpenSpec.ofChange Rows.scriptNoiseSpec).at F).post enc Tryd.prog Tryd.f8 false true false false) := by
  have hx : DataW.whole enc Tryd.prog ((World.laidAll Tryd.prog os Rows.scriptNoiseRow.laid).forCall (fun _ _ => 0) ⟨#[], #[Value.string ⟨#[]⟩, Value.slice none 0 0], []⟩).memory Tryd.f8.params.toList Rows.scriptNoiseSpec.vars false #[Value.string ⟨#[]⟩, Value.slice none 0 0].toList 8 = some ([.lit (.string []), .nil], [], []) := by kernel_rfl
  refine returnsInHanded_of_row (C := Tryd.checked) (s := OpenSpec.ofChange Rows.scriptNoiseSpec) own started (by kernel_rfl) Tryd.func8
    ⟨World.laidAll Tryd.prog os Rows.scriptNoiseRow.laid, fun _ _ => 0, ⟨#[], #[Value.string ⟨#[]⟩, Value.slice none 0 0], []⟩, World.laidAll_os _ _ _, World.shaped_of_ZipB (by kernel_rfl) (by kernel_rfl), (Input.okWide_of_okWideB (base := 0) (show Input.okWideB Tryd.prog ((World.laidAll Tryd.prog os Rows.scriptNoiseRow.laid).forCall (fun _ _ => 0) ⟨#[], #[Value.string ⟨#[]⟩, Value.slice none 0 0], []⟩) 8 ⟨#[], #[Value.string ⟨#[]⟩, Value.slice none 0 0], []⟩ = true by kernel_rfl)).1, (Input.okWide_of_okWideB (by kernel_rfl)).2,
      OpenSpec.preRow_of_cond 8 hx (by kernel_rfl) (fun k hk => by cases hk) (by kernel_rfl) (by rw [MakeChecks.laidMetH_plain _ _ _ (by kernel_rfl)]; exact laid_met os #[Value.string ⟨#[]⟩, Value.slice none 0 0]), by
        simp only [Assume.holds]
        exact ⟨by simp, by simp, fun _ => Modest.zero, by simp, by simp⟩⟩ ?_
  intro W base args ds gs before hval hW _ _ _ hL hsh _
  exact contract H enc W base args ds gs before hval hW hL hsh

theorem said : Rows.ScriptNoiseSaid :=
  OpenClaim.holds_of_cond 8 Tryd.f8 rfl rfl rfl rfl rfl rfl rfl ⟨rfl, rfl, rfl, rfl, rfl⟩ rfl rfl rfl rfl rfl (by kernel_rfl) Tryd.func8 (by kernel_rfl)
    (of_decide_eq_true (by kernel_rfl)) (by unfold Func.isWrapper; first | (rw [if_pos (by decide +kernel)]; kernel_rfl) | (rw [if_neg (by decide +kernel)]; exact ⟨rfl, rfl⟩))
    (fun os started H enc _ F => by rw [OpenClaim.pre_eq_preRow]; exact lifted os started H enc F)

theorem plain (f : FuncId) (fn : Func) (hf : Tryd.pinned.checked.prog.funcNamed "pith/pithlaw26.ScriptNoise" = some f) (hfn : Tryd.pinned.checked.prog.funcs[f]? = some fn) :
    true = Tryd.pinned.checked.prog.looks [] ∧ ∀ (j : Nat) t, fn.params[j]? = some t → Tryd.pinned.checked.prog.wantsStandIn t = false := by
  obtain rfl : f = 8 := Option.some.inj ((show Tryd.prog.funcNamed "pith/pithlaw26.ScriptNoise" = some 8 by kernel_rfl).symm.trans hf) |>.symm
  obtain rfl : fn = Tryd.f8 := (Option.some.inj (Tryd.func8.symm.trans hfn)).symm
  refine ⟨by kernel_rfl, fun j t ht => ?_⟩
  rw [Tryd.params8] at ht
  have hm : t ∈ [9, 44] := by simpa using Array.mem_of_getElem? ht
  have hall : ([9, 44].all fun u => !Tryd.prog.wantsStandIn u) = true := by kernel_rfl
  exact (show Tryd.prog.wantsStandIn t = false by simpa using List.all_eq_true.1 hall t hm)

theorem card : Rows.ScriptNoiseCardSaid :=
  Claim7.holds_tied_plain_at .later [] _ _ _ _ said (fun _ h => by cases h) (by kernel_rfl) (fun _ h => by cases h) scriptNoise_row_tie rfl ⟨rfl, rfl⟩ (by kernel_rfl) rfl plain (by kernel_rfl)
end Go.Proofs.YtbpackopicngmaaDoor.Noise
