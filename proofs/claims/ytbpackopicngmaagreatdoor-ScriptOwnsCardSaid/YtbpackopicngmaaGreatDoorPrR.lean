-- Picked out of what print.sh prints (gen/pick.py), with fewer imports (gen/slim.py): turned by this session.
import Derived.Test.YtbpackopicngmaaGreatDoorWGate
import Derived.Test.YtbpackopicngmaaGreatDoorProg
import Derived.Below
import Derived.Deep.Draws
import Derived.Deep.AppendLies
import Derived.Maps.AppendAt
import Derived.OwnWalk
import Derived.Laws.BytesArg
import Derived.Laws.MakeOwn
import Derived.Laws.OwnMore
import Derived.Deep.OwnRows
import Derived.Tactics
import Derived.Lib.ConvBytes
import Derived.Laws.Slices
import Derived.WalkKit
import Derived.KernelRfl
import Derived.RowKit3
import Derived.Deep.LoopGhost
import Derived.Deep.QuietTactic
import Derived.BigQuiet
import Derived.WideLaws
import Derived.Deep.DeepCutAuto
import Derived.Deep.CutBlock
import Derived.Deep.RegionHeld3
import Derived.Laws.Rows
import Derived.Lib.AppendStr
import Derived.ArgAppend
import Derived.Laws.IdiomCopy
import Derived.OrdersHeld
import Derived.Laws.BitsLemmas
import Derived.RowKit
import Derived.Test.YtbpackopicngmaaGreatDoorWWords
import Derived.Test.YtbpackopicngmaaGreatDoorWLast
import Derived.Test.YtbpackopicngmaaGreatDoorWTab
import Derived.Test.YtbpackopicngmaaGreatDoorWApart
import Derived.Test.YtbpackopicngmaaGreatDoorWRepsOne
namespace Go.Proofs.YtbpackopicngmaaGreatDoor.PrR
open Go.RowKit Go.Proofs.YtbpackopicngmaaGreatDoorW.PrintWords Go.Proofs.YtbpackopicngmaaGreatDoorW.PrintLast Go.Proofs.YtbpackopicngmaaGreatDoorW.PrintMore
set_option linter.unusedVariables false
set_option linter.unusedSimpArgs false



def errW : Option Int → Value
  | none => .nilIface
  | some c => .iface 237 (.int .i64 c)
theorem errW_none : errW none = .nilIface := rfl
theorem errW_some (c : Int) : errW (some c) = .iface 237 (.int .i64 c) := rfl

theorem info5 : (Tryz.prog.info? 5).map (fun i => (i.zero, i.size, i.bytes)) = some (some (.int .u8 0), 1, 1) := by kernel_rfl
theorem info9 : (Tryz.prog.info? 9).map (fun i => (i.zero, i.size, i.bytes)) = some (some (.string ⟨#[]⟩), 1, 16) := by kernel_rfl
-- the values' own types
def rd_L3 (xs : List (List Int)) (i : Int) : (List Int) := xs.getD i.toNat ([] : List Int)
theorem at_L3 {w : World} {A : Option Addr} {n : Nat} {xs : List (List Int)} (h : Kd.C (Kd.slice 3 (Kd.int .i64)) w A n xs) (i : Int) (h0 : 0 ≤ i) (h1 : i < n) : ∃ ad A0 c0, A = some ad ∧ w.cell? (ad.add i.toNat) = some (.slice A0 (rd_L3 xs i).length c0) ∧ (rd_L3 xs i).length ≤ c0 ∧ (Kd.int .i64).C w A0 (rd_L3 xs i).length (rd_L3 xs i) := by
  obtain ⟨ad, c, e, _, hK, hc0⟩ := Kd.C_get h ([] : List Int) i h0 h1
  have hc : ∀ j u, c[j]? = some u → w.cell? (ad.add (i.toNat * 1 + j)) = some u := hc0
  obtain ⟨A0, c0, rfl, l0, g0⟩ := hK
  exact ⟨ad, A0, c0, e, by have hq := hc 0 _ rfl; rwa [Nat.mul_one, Nat.add_zero] at hq, l0, g0⟩

/-! #### struct type 44 -/
structure S44 where
  f0 : Int
  f1 : Int
  f2 : Int
  f3 : ByteArray
  f4 : ByteArray
  f5 : (List Int)
def z44 : S44 := ⟨(0 : Int), (0 : Int), (0 : Int), (⟨#[]⟩ : ByteArray), (⟨#[]⟩ : ByteArray), ([] : List Int)⟩
def k44 : Kd S44 := Kd.iso (Kd.pair (Kd.int .i64) (Kd.pair (Kd.int .i64) (Kd.pair (Kd.int .i64) (Kd.pair Kd.string (Kd.pair Kd.string (Kd.slice 3 (Kd.int .i64))))))) (fun x : S44 => (x.f0, x.f1, x.f2, x.f3, x.f4, x.f5))
theorem k44_open {w : World} {x : S44} {cs : List Value} (h : k44.K w x cs) : ∃ A5 c5, cs = [.int .i64 x.f0, .int .i64 x.f1, .int .i64 x.f2, .string x.f3, .string x.f4, .slice A5 x.f5.length c5] ∧ x.f5.length ≤ c5 ∧ (Kd.int .i64).C w A5 x.f5.length x.f5 := by
  obtain ⟨_, _, rfl, rfl, ⟨_, _, rfl, rfl, ⟨_, _, rfl, rfl, ⟨_, _, rfl, rfl, ⟨_, _, rfl, rfl, ⟨A5, c5, rfl, l5, g5⟩⟩⟩⟩⟩⟩ := h
  exact ⟨A5, c5, rfl, l5, g5⟩
theorem k44_openM {w : World} {base : Nat} {ok : Nat → Prop} {x : S44} {cs : List Value} (h : k44.M w base ok x cs) : ∃ v5, cs = [.int .i64 x.f0, .int .i64 x.f1, .int .i64 x.f2, .string x.f3, .string x.f4, v5] ∧ (Kd.int .i64).R 3 w base ok v5 x.f5 := by
  obtain ⟨_, _, rfl, rfl, ⟨_, _, rfl, rfl, ⟨_, _, rfl, rfl, ⟨_, _, rfl, rfl, ⟨_, _, rfl, rfl, ⟨v5, rfl, g5⟩⟩⟩⟩⟩⟩ := h
  exact ⟨v5, rfl, g5⟩
theorem k44_mk (w : World) (x : S44) {A5 : Option Addr} {c5 : Nat} (l5 : x.f5.length ≤ c5) (g5 : (Kd.int .i64).C w A5 x.f5.length x.f5) : k44.K w x [.int .i64 x.f0, .int .i64 x.f1, .int .i64 x.f2, .string x.f3, .string x.f4, .slice A5 x.f5.length c5] := ⟨[.int .i64 x.f0], [.int .i64 x.f1, .int .i64 x.f2, .string x.f3, .string x.f4, .slice A5 x.f5.length c5], rfl, rfl, ⟨[.int .i64 x.f1], [.int .i64 x.f2, .string x.f3, .string x.f4, .slice A5 x.f5.length c5], rfl, rfl, ⟨[.int .i64 x.f2], [.string x.f3, .string x.f4, .slice A5 x.f5.length c5], rfl, rfl, ⟨[.string x.f3], [.string x.f4, .slice A5 x.f5.length c5], rfl, rfl, ⟨[.string x.f4], [.slice A5 x.f5.length c5], rfl, rfl, ⟨A5, c5, rfl, l5, g5⟩⟩⟩⟩⟩⟩
theorem k44_mkM (w : World) (base : Nat) (ok : Nat → Prop) (x : S44) {v5 : Value} (g5 : (Kd.int .i64).R 3 w base ok v5 x.f5) : k44.M w base ok x [.int .i64 x.f0, .int .i64 x.f1, .int .i64 x.f2, .string x.f3, .string x.f4, v5] := ⟨[.int .i64 x.f0], [.int .i64 x.f1, .int .i64 x.f2, .string x.f3, .string x.f4, v5], rfl, rfl, ⟨[.int .i64 x.f1], [.int .i64 x.f2, .string x.f3, .string x.f4, v5], rfl, rfl, ⟨[.int .i64 x.f2], [.string x.f3, .string x.f4, v5], rfl, rfl, ⟨[.string x.f3], [.string x.f4, v5], rfl, rfl, ⟨[.string x.f4], [v5], rfl, rfl, ⟨v5, rfl, g5⟩⟩⟩⟩⟩⟩
def rd_T44 (xs : List S44) (i : Int) : S44 := xs.getD i.toNat z44
theorem at_T44 {w : World} {A : Option Addr} {n : Nat} {xs : List S44} (h : Kd.C k44 w A n xs) (i : Int) (h0 : 0 ≤ i) (h1 : i < n) : ∃ ad A5 c5, A = some ad ∧ w.cell? (ad.add (i.toNat * 6)) = some (.int .i64 (rd_T44 xs i).f0) ∧ w.cell? ⟨(ad.add (i.toNat * 6)).block, (ad.add (i.toNat * 6)).off + 1, none⟩ = some (.int .i64 (rd_T44 xs i).f1) ∧ w.cell? ⟨(ad.add (i.toNat * 6)).block, (ad.add (i.toNat * 6)).off + 2, none⟩ = some (.int .i64 (rd_T44 xs i).f2) ∧ w.cell? ⟨(ad.add (i.toNat * 6)).block, (ad.add (i.toNat * 6)).off + 3, none⟩ = some (.string (rd_T44 xs i).f3) ∧ w.cell? ⟨(ad.add (i.toNat * 6)).block, (ad.add (i.toNat * 6)).off + 4, none⟩ = some (.string (rd_T44 xs i).f4) ∧ w.cell? ⟨(ad.add (i.toNat * 6)).block, (ad.add (i.toNat * 6)).off + 5, none⟩ = some (.slice A5 (rd_T44 xs i).f5.length c5) ∧ (rd_T44 xs i).f5.length ≤ c5 ∧ (Kd.int .i64).C w A5 (rd_T44 xs i).f5.length (rd_T44 xs i).f5 := by
  obtain ⟨ad, c, e, _, hK, hc0⟩ := Kd.C_get h z44 i h0 h1
  have hc : ∀ j u, c[j]? = some u → w.cell? (ad.add (i.toNat * 6 + j)) = some u := hc0
  obtain ⟨A5, c5, rfl, l5, g5⟩ := k44_open hK
  exact ⟨ad, A5, c5, e, hc 0 _ rfl, by rw [← add_field _ _ 1 (by omega)]; exact hc 1 _ rfl, by rw [← add_field _ _ 2 (by omega)]; exact hc 2 _ rfl, by rw [← add_field _ _ 3 (by omega)]; exact hc 3 _ rfl, by rw [← add_field _ _ 4 (by omega)]; exact hc 4 _ rfl, by rw [← add_field _ _ 5 (by omega)]; exact hc 5 _ rfl, l5, g5⟩

end Go.Proofs.YtbpackopicngmaaGreatDoor.PrR
namespace Go.Proofs.YtbpackopicngmaaGreatDoor.PrR
open Go.RowKit Go.Proofs.YtbpackopicngmaaGreatDoorW.PrintWords Go.Proofs.YtbpackopicngmaaGreatDoorW.PrintLast Go.Proofs.YtbpackopicngmaaGreatDoorW.PrintMore
set_option linter.unusedVariables false
set_option linter.unusedSimpArgs false

/-! ### pithref26_words: function 26 -/
mutual
def pithref26_words.l0 : Nat → ByteArray → List ByteArray → Int → Int → Option (List ByteArray)
  | 0, _, _, _, _ => none
  | k + 1, x0, x3, x4, x5 => if x5 ≤ (x0.size : Int) then (if x5 = (x0.size : Int) then (pithref26_words.j1 k x0 x3 x4 x5 true) else (if 0 ≤ x5 then (if x5 < (x0.size : Int) then (pithref26_words.j1 k x0 x3 x4 x5 ((bt x0 x5) == 35)) else (none)) else (none))) else (some x3)
def pithref26_words.j1 : Nat → ByteArray → List ByteArray → Int → Int → Bool → Option (List ByteArray)
  | 0, _, _, _, _, _ => none
  | k + 1, x0, x3, x4, x5, x6 => if x6 = true then (pithref26_words.j2 k x0 x3 x4 x5 x6 true) else (if 0 ≤ x5 then (if x5 < (x0.size : Int) then (if (bt x0 x5) = 32 then (pithref26_words.j2 k x0 x3 x4 x5 x6 true) else (pithref26_words.j2 k x0 x3 x4 x5 x6 ((bt x0 x5) == 9))) else (none)) else (none))
def pithref26_words.j2 : Nat → ByteArray → List ByteArray → Int → Int → Bool → Bool → Option (List ByteArray)
  | 0, _, _, _, _, _, _ => none
  | k + 1, x0, x3, x4, x5, x6, x7 => if x7 = true then (pithref26_words.j3 k x0 x3 x4 x5 x6 x7 (decide (x4 ≥ 0))) else (pithref26_words.j3 k x0 x3 x4 x5 x6 x7 false)
def pithref26_words.j3 : Nat → ByteArray → List ByteArray → Int → Int → Bool → Bool → Bool → Option (List ByteArray)
  | 0, _, _, _, _, _, _, _ => none
  | k + 1, x0, x3, x4, x5, x6, x7, x41 => if x41 = true then (if 0 ≤ x4 then (if x4 ≤ x5 then (if x5 ≤ (x0.size : Int) then (if x3.length < 8796093022208 then (pithref26_words.j4 k x0 (x3 ++ [x0.extract (x4 : Int).toNat (x5 : Int).toNat]) (-1) x5 x6 x7) else (none)) else (none)) else (none)) else (none)) else (pithref26_words.j4 k x0 x3 x4 x5 x6 x7)
def pithref26_words.j4 : Nat → ByteArray → List ByteArray → Int → Int → Bool → Bool → Option (List ByteArray)
  | 0, _, _, _, _, _, _ => none
  | k + 1, x0, x3, x4, x5, x6, x7 => if x7 = true then (pithref26_words.j5 k x0 x3 x4 x5 x6 false) else (pithref26_words.j5 k x0 x3 x4 x5 x6 (decide (x4 < 0)))
def pithref26_words.j5 : Nat → ByteArray → List ByteArray → Int → Int → Bool → Bool → Option (List ByteArray)
  | 0, _, _, _, _, _, _ => none
  | k + 1, x0, x3, x4, x5, x6, x54 => if x54 = true then (if x6 = true then (some x3) else (pithref26_words.l0 k x0 x3 x5 (wrap64 (x5 + 1)))) else (if x6 = true then (some x3) else (pithref26_words.l0 k x0 x3 x4 (wrap64 (x5 + 1))))
end
def pithref26_words.f (k : Nat) (a0 : ByteArray) : Option (List ByteArray) := pithref26_words.l0 k a0 ([] : List ByteArray) (-1) 0
theorem pithref26_words.mono_l : ∀ k, (∀ y0 y1 y2 y3, LeO (pithref26_words.l0 k y0 y1 y2 y3) (pithref26_words.l0 (k + 1) y0 y1 y2 y3)) ∧ (∀ y0 y1 y2 y3 y4, LeO (pithref26_words.j1 k y0 y1 y2 y3 y4) (pithref26_words.j1 (k + 1) y0 y1 y2 y3 y4)) ∧ (∀ y0 y1 y2 y3 y4 y5, LeO (pithref26_words.j2 k y0 y1 y2 y3 y4 y5) (pithref26_words.j2 (k + 1) y0 y1 y2 y3 y4 y5)) ∧ (∀ y0 y1 y2 y3 y4 y5 y6, LeO (pithref26_words.j3 k y0 y1 y2 y3 y4 y5 y6) (pithref26_words.j3 (k + 1) y0 y1 y2 y3 y4 y5 y6)) ∧ (∀ y0 y1 y2 y3 y4 y5, LeO (pithref26_words.j4 k y0 y1 y2 y3 y4 y5) (pithref26_words.j4 (k + 1) y0 y1 y2 y3 y4 y5)) ∧ (∀ y0 y1 y2 y3 y4 y5, LeO (pithref26_words.j5 k y0 y1 y2 y3 y4 y5) (pithref26_words.j5 (k + 1) y0 y1 y2 y3 y4 y5))
  | 0 => ⟨fun _ _ _ _ r h => by simp [pithref26_words.l0] at h, fun _ _ _ _ _ r h => by simp [pithref26_words.j1] at h, fun _ _ _ _ _ _ r h => by simp [pithref26_words.j2] at h, fun _ _ _ _ _ _ _ r h => by simp [pithref26_words.j3] at h, fun _ _ _ _ _ _ r h => by simp [pithref26_words.j4] at h, fun _ _ _ _ _ _ r h => by simp [pithref26_words.j5] at h⟩
  | k + 1 => by
    obtain ⟨ih0, ih1, ih2, ih3, ih4, ih5⟩ := pithref26_words.mono_l k
    refine ⟨?_, ?_, ?_, ?_, ?_, ?_⟩
    · intro y0 y1 y2 y3
      unfold pithref26_words.l0
      repeat' first
      | (with_reducible exact ih0 _ _ _ _)
      | (with_reducible exact ih1 _ _ _ _ _)
      | (with_reducible exact ih2 _ _ _ _ _ _)
      | (with_reducible exact ih3 _ _ _ _ _ _ _)
      | (with_reducible exact ih4 _ _ _ _ _ _)
      | (with_reducible exact ih5 _ _ _ _ _ _)
      | (with_reducible exact LeO.refl _)
      | (with_reducible exact LeO.none _)
      | (with_reducible refine LeO.ite ?_ ?_)
      | (with_reducible refine LeO.bind ?_ (fun _ => ?_))
      | exact ih0 _ _ _ _
      | exact ih1 _ _ _ _ _
      | exact ih2 _ _ _ _ _ _
      | exact ih3 _ _ _ _ _ _ _
      | exact ih4 _ _ _ _ _ _
      | exact ih5 _ _ _ _ _ _
      | exact LeO.none _
      | refine LeO.ite ?_ ?_
      | refine LeO.bind ?_ (fun _ => ?_)
    · intro y0 y1 y2 y3 y4
      unfold pithref26_words.j1
      repeat' first
      | (with_reducible exact ih0 _ _ _ _)
      | (with_reducible exact ih1 _ _ _ _ _)
      | (with_reducible exact ih2 _ _ _ _ _ _)
      | (with_reducible exact ih3 _ _ _ _ _ _ _)
      | (with_reducible exact ih4 _ _ _ _ _ _)
      | (with_reducible exact ih5 _ _ _ _ _ _)
      | (with_reducible exact LeO.refl _)
      | (with_reducible exact LeO.none _)
      | (with_reducible refine LeO.ite ?_ ?_)
      | (with_reducible refine LeO.bind ?_ (fun _ => ?_))
      | exact ih0 _ _ _ _
      | exact ih1 _ _ _ _ _
      | exact ih2 _ _ _ _ _ _
      | exact ih3 _ _ _ _ _ _ _
      | exact ih4 _ _ _ _ _ _
      | exact ih5 _ _ _ _ _ _
      | exact LeO.none _
      | refine LeO.ite ?_ ?_
      | refine LeO.bind ?_ (fun _ => ?_)
    · intro y0 y1 y2 y3 y4 y5
      unfold pithref26_words.j2
      repeat' first
      | (with_reducible exact ih0 _ _ _ _)
      | (with_reducible exact ih1 _ _ _ _ _)
      | (with_reducible exact ih2 _ _ _ _ _ _)
      | (with_reducible exact ih3 _ _ _ _ _ _ _)
      | (with_reducible exact ih4 _ _ _ _ _ _)
      | (with_reducible exact ih5 _ _ _ _ _ _)
      | (with_reducible exact LeO.refl _)
      | (with_reducible exact LeO.none _)
      | (with_reducible refine LeO.ite ?_ ?_)
      | (with_reducible refine LeO.bind ?_ (fun _ => ?_))
      | exact ih0 _ _ _ _
      | exact ih1 _ _ _ _ _
      | exact ih2 _ _ _ _ _ _
      | exact ih3 _ _ _ _ _ _ _
      | exact ih4 _ _ _ _ _ _
      | exact ih5 _ _ _ _ _ _
      | exact LeO.none _
      | refine LeO.ite ?_ ?_
      | refine LeO.bind ?_ (fun _ => ?_)
    · intro y0 y1 y2 y3 y4 y5 y6
      unfold pithref26_words.j3
      repeat' first
      | (with_reducible exact ih0 _ _ _ _)
      | (with_reducible exact ih1 _ _ _ _ _)
      | (with_reducible exact ih2 _ _ _ _ _ _)
      | (with_reducible exact ih3 _ _ _ _ _ _ _)
      | (with_reducible exact ih4 _ _ _ _ _ _)
      | (with_reducible exact ih5 _ _ _ _ _ _)
      | (with_reducible exact LeO.refl _)
      | (with_reducible exact LeO.none _)
      | (with_reducible refine LeO.ite ?_ ?_)
      | (with_reducible refine LeO.bind ?_ (fun _ => ?_))
      | exact ih0 _ _ _ _
      | exact ih1 _ _ _ _ _
      | exact ih2 _ _ _ _ _ _
      | exact ih3 _ _ _ _ _ _ _
      | exact ih4 _ _ _ _ _ _
      | exact ih5 _ _ _ _ _ _
      | exact LeO.none _
      | refine LeO.ite ?_ ?_
      | refine LeO.bind ?_ (fun _ => ?_)
    · intro y0 y1 y2 y3 y4 y5
      unfold pithref26_words.j4
      repeat' first
      | (with_reducible exact ih0 _ _ _ _)
      | (with_reducible exact ih1 _ _ _ _ _)
      | (with_reducible exact ih2 _ _ _ _ _ _)
      | (with_reducible exact ih3 _ _ _ _ _ _ _)
      | (with_reducible exact ih4 _ _ _ _ _ _)
      | (with_reducible exact ih5 _ _ _ _ _ _)
      | (with_reducible exact LeO.refl _)
      | (with_reducible exact LeO.none _)
      | (with_reducible refine LeO.ite ?_ ?_)
      | (with_reducible refine LeO.bind ?_ (fun _ => ?_))
      | exact ih0 _ _ _ _
      | exact ih1 _ _ _ _ _
      | exact ih2 _ _ _ _ _ _
      | exact ih3 _ _ _ _ _ _ _
      | exact ih4 _ _ _ _ _ _
      | exact ih5 _ _ _ _ _ _
      | exact LeO.none _
      | refine LeO.ite ?_ ?_
      | refine LeO.bind ?_ (fun _ => ?_)
    · intro y0 y1 y2 y3 y4 y5
      unfold pithref26_words.j5
      repeat' first
      | (with_reducible exact ih0 _ _ _ _)
      | (with_reducible exact ih1 _ _ _ _ _)
      | (with_reducible exact ih2 _ _ _ _ _ _)
      | (with_reducible exact ih3 _ _ _ _ _ _ _)
      | (with_reducible exact ih4 _ _ _ _ _ _)
      | (with_reducible exact ih5 _ _ _ _ _ _)
      | (with_reducible exact LeO.refl _)
      | (with_reducible exact LeO.none _)
      | (with_reducible refine LeO.ite ?_ ?_)
      | (with_reducible refine LeO.bind ?_ (fun _ => ?_))
      | exact ih0 _ _ _ _
      | exact ih1 _ _ _ _ _
      | exact ih2 _ _ _ _ _ _
      | exact ih3 _ _ _ _ _ _ _
      | exact ih4 _ _ _ _ _ _
      | exact ih5 _ _ _ _ _ _
      | exact LeO.none _
      | refine LeO.ite ?_ ?_
      | refine LeO.bind ?_ (fun _ => ?_)
theorem pithref26_words.mono : ∀ a0 k, LeO (pithref26_words.f k a0) (pithref26_words.f (k + 1) a0) := by
  intro a0 k
  obtain ⟨ih0, ih1, ih2, ih3, ih4, ih5⟩ := pithref26_words.mono_l k
  unfold pithref26_words.f
  repeat' first
      | (with_reducible exact ih0 _ _ _ _)
      | (with_reducible exact ih1 _ _ _ _ _)
      | (with_reducible exact ih2 _ _ _ _ _ _)
      | (with_reducible exact ih3 _ _ _ _ _ _ _)
      | (with_reducible exact ih4 _ _ _ _ _ _)
      | (with_reducible exact ih5 _ _ _ _ _ _)
      | (with_reducible exact LeO.refl _)
      | (with_reducible exact LeO.none _)
      | (with_reducible refine LeO.ite ?_ ?_)
      | (with_reducible refine LeO.bind ?_ (fun _ => ?_))
      | exact ih0 _ _ _ _
      | exact ih1 _ _ _ _ _
      | exact ih2 _ _ _ _ _ _
      | exact ih3 _ _ _ _ _ _ _
      | exact ih4 _ _ _ _ _ _
      | exact ih5 _ _ _ _ _ _
      | exact LeO.none _
      | refine LeO.ite ?_ ?_
      | refine LeO.bind ?_ (fun _ => ?_)
set_option maxHeartbeats 8000000 in
set_option maxRecDepth 100000 in
theorem pithref26_words.calls (k : Nat) (a0 : ByteArray) (r : List ByteArray) (w : World) (h : pithref26_words.f k a0 = some r) :
    Calls Tryz.prog 26 #[.string a0] w fun e w' => ∃ v0_ : Value, e = .returned (v0_) ∧ Kd.R Kd.string 9 w' w.heap.size (fun _ => True) v0_ r ∧ Below w.heap.size w w' := by
  have HB := Aside0.mk (Below.refl w.heap.size w)
  have H : (pithref26_words.l0 k a0 ([] : List ByteArray) (-1) 0) = some r := h
  clear h
  have H' := Aside0.mk H
  clear H
  go_enter Tryz.func26, Tryz.ntmps26
  go_wp2
  go_loopg [3, 4, 5] k (fun kq v3 v4 v5 w' => ∃ (x3_1 : List ByteArray) (x4_1 : Int) (x5_1 : Int), v4 = .int .i64 x4_1 ∧ v5 = .int .i64 x5_1 ∧ Aside0 (pithref26_words.l0 kq a0 x3_1 x4_1 x5_1 = some r) ∧ Aside0 (kq ≤ k) ∧ Aside0 (Kd.R Kd.string 9 w' w.heap.size (fun _ => True) v3 x3_1) ∧ Aside0 (Below w.heap.size w w'))
  case atStart => exact ⟨(([] : List ByteArray)), ((-1)), (0), (by first | rfl | (simp; done) | (simp [*]; done)), (by first | rfl | (simp; done) | (simp [*]; done)), H', ⟨Nat.le_refl _⟩, ⟨by first | exact Kd.R_nil _ _ _ _ _ | exact Kd.N_nil _ _ _ _ _ | exact Kd.V_nil _ _ _ _ _ | exact Kd.Q_nil _ _ _ _ _ | exact Kd.S_nil _ _ _ _ _⟩, ⟨by repeat (first | (with_reducible first | exact HB.out | apply below_alloc | apply pw_below_drewN | apply below_drew1) | exact HB.out)⟩⟩
  case round =>
    clear H'
    obtain ⟨x3_1, x4_1, x5_1, rfl, rfl, HA, HK1, HO_3, HB⟩ := hrel
    cases gk with
    | zero => exact absurd HA.out (by simp [pithref26_words.l0])
    | succ k1 =>
      have H := HA.out
      clear HA
      simp only [pithref26_words.l0] at H
      by_cases c2 : x5_1 ≤ (a0.size : Int)
      · rw [if_pos c2] at H
        have c2b0 : decide (x5_1 ≤ (a0.size : Int)) = true := decide_eq_true c2
        clear c2
        have HC3 := Aside0.mk H
        clear H
        go_upto_region 6 with (fail)
        go_cut [6] (fun v6 wc => ∃ (kq : Nat) (x6_2 : Bool), v6 = .bool x6_2 ∧ Aside0 (pithref26_words.j1 kq a0 x3_1 x4_1 x5_1 x6_2 = some r) ∧ Aside0 (kq ≤ k1) ∧ Aside0 (Kd.R Kd.string 9 wc w.heap.size (fun _ => True) u3 x3_1) ∧ Aside0 (Below w.heap.size w wc))
        case first =>
          have H := HC3.out
          clear HC3
          by_cases c4 : x5_1 = (a0.size : Int)
          · rw [if_pos c4] at H
            have c4b0 : (x5_1 == (a0.size : Int)) = true := beq_iff_eq.mpr c4
            have c4b1 : (x5_1 != (a0.size : Int)) = false := bne_eq_false_iff_eq.mpr c4
            clear c4
            (first | rw [c4b0] | (simp only [i64_w, i32_w]; rw [c4b0]) | skip)
            have H' := Aside0.mk H
            clear H
            go_wp2
            go_meet
            case rel => exact ⟨_, (true), (by first | rfl | (simp; done) | (simp [*]; done)), H', ⟨by have := HK1.out; first | omega | exact Nat.le_refl _⟩, ⟨by (with_reducible repeat (first | apply Kd.R_alloc | apply Kd.R_drewN | apply Kd.R_drew)); exact HO_3.out⟩, ⟨by repeat (first | (with_reducible first | exact HB.out | apply below_alloc | apply pw_below_drewN | apply below_drew1) | exact HB.out)⟩⟩
          · rw [if_neg c4] at H
            have c4b0 : (x5_1 == (a0.size : Int)) = false := beq_eq_false_iff_ne.mpr c4
            have c4b1 : (x5_1 != (a0.size : Int)) = true := bne_iff_ne.mpr c4
            (first | rw [c4b0] | (simp only [i64_w, i32_w]; rw [c4b0]) | skip)
            by_cases c5 : 0 ≤ x5_1
            · rw [if_pos c5] at H
              have c5b0 : decide (0 ≤ x5_1) = true := decide_eq_true c5
              clear c5
              by_cases c6 : x5_1 < (a0.size : Int)
              · rw [if_pos c6] at H
                have c6b0 : decide (x5_1 < (a0.size : Int)) = true := decide_eq_true c6
                clear c6
                have H' := Aside0.mk H
                clear H
                have p7 : 0 ≤ (x5_1 : Int) := of_decide_eq_true (by first | (with_reducible assumption) | assumption)
                have q7 : x5_1 < (a0.size : Int) := of_decide_eq_true (by first | (with_reducible assumption) | assumption)
                have hx7 := bt_at a0 x5_1
                replace p7 := eq_true p7
                replace q7 := eq_true q7
                go_wp2
                go_meet
                case rel => exact ⟨_, (((bt a0 x5_1) == 35)), (by first | rfl | (simp; done) | (simp [*]; done)), H', ⟨by have := HK1.out; first | omega | exact Nat.le_refl _⟩, ⟨by (with_reducible repeat (first | apply Kd.R_alloc | apply Kd.R_drewN | apply Kd.R_drew)); exact HO_3.out⟩, ⟨by repeat (first | (with_reducible first | exact HB.out | apply below_alloc | apply pw_below_drewN | apply below_drew1) | exact HB.out)⟩⟩
              · rw [if_neg c6] at H
                exact absurd H (by simp)
            · rw [if_neg c5] at H
              exact absurd H (by simp)
        case rest =>
          clear HC3
          try clear c2
          try clear c2b0
          try clear p2
          try clear c4
          try clear c4b0
          try clear c4b1
          try clear c5
          try clear c5b0
          try clear c6
          try clear c6b0
          try clear p7
          try clear q7
          try clear hx7
          try clear p7
          try clear q7
          obtain ⟨kq, x6_2, rfl, HA, HJ2, HO_3, HB⟩ := hcut
          cases kq with
          | zero => exact absurd HA.out (by simp [pithref26_words.j1])
          | succ kj2 =>
            have H := HA.out
            clear HA
            simp only [pithref26_words.j1] at H
            have HC8 := Aside0.mk H
            clear H
            go_upto_region 7 with (fail)
            go_cut [7] (fun v7 wc => ∃ (kq : Nat) (x7_7 : Bool), v7 = .bool x7_7 ∧ Aside0 (pithref26_words.j2 kq a0 x3_1 x4_1 x5_1 x6_2 x7_7 = some r) ∧ Aside0 (kq ≤ kj2) ∧ Aside0 (Kd.R Kd.string 9 wc w.heap.size (fun _ => True) u3 x3_1) ∧ Aside0 (Below w.heap.size w wc))
            case first =>
              have H := HC8.out
              clear HC8
              by_cases c9 : x6_2 = true
              · subst c9
                have H1 : (pithref26_words.j2 kj2 a0 x3_1 x4_1 x5_1 true true) = some r := by rw [if_pos rfl] at H; exact H
                clear H
                have H := H1
                clear H1
                have H' := Aside0.mk H
                clear H
                go_wp2
                go_meet
                case rel => exact ⟨_, (true), (by first | rfl | (simp; done) | (simp [*]; done)), H', ⟨by have := HK1.out; have := HJ2.out; first | omega | exact Nat.le_refl _⟩, ⟨by (with_reducible repeat (first | apply Kd.R_alloc | apply Kd.R_drewN | apply Kd.R_drew)); exact HO_3.out⟩, ⟨by repeat (first | (with_reducible first | exact HB.out | apply below_alloc | apply pw_below_drewN | apply below_drew1) | exact HB.out)⟩⟩
              · replace c9 := Bool.eq_false_iff.mpr c9
                subst c9
                have H1 : (if 0 ≤ x5_1 then (if x5_1 < (a0.size : Int) then (if (bt a0 x5_1) = 32 then (pithref26_words.j2 kj2 a0 x3_1 x4_1 x5_1 false true) else (pithref26_words.j2 kj2 a0 x3_1 x4_1 x5_1 false ((bt a0 x5_1) == 9))) else (none)) else (none)) = some r := by rw [if_neg (show ¬ (false = true) by decide)] at H; exact H
                clear H
                have H := H1
                clear H1
                by_cases c10 : 0 ≤ x5_1
                · rw [if_pos c10] at H
                  have c10b0 : decide (0 ≤ x5_1) = true := decide_eq_true c10
                  clear c10
                  (first | rw [c10b0] | (simp only [i64_w, i32_w]; rw [c10b0]) | skip)
                  by_cases c11 : x5_1 < (a0.size : Int)
                  · rw [if_pos c11] at H
                    have c11b0 : decide (x5_1 < (a0.size : Int)) = true := decide_eq_true c11
                    clear c11
                    by_cases c13 : (bt a0 x5_1) = 32
                    · rw [if_pos c13] at H
                      have c13b0 : ((bt a0 x5_1) == 32) = true := beq_iff_eq.mpr c13
                      have c13b1 : ((bt a0 x5_1) != 32) = false := bne_eq_false_iff_eq.mpr c13
                      clear c13
                      have H' := Aside0.mk H
                      clear H
                      have p12 : 0 ≤ (x5_1 : Int) := of_decide_eq_true (by first | (with_reducible assumption) | assumption)
                      have q12 : x5_1 < (a0.size : Int) := of_decide_eq_true (by first | (with_reducible assumption) | assumption)
                      have hx12 := bt_at a0 x5_1
                      replace p12 := eq_true p12
                      replace q12 := eq_true q12
                      go_wp2
                      go_meet
                      case rel => exact ⟨_, (true), (by first | rfl | (simp; done) | (simp [*]; done)), H', ⟨by have := HK1.out; have := HJ2.out; first | omega | exact Nat.le_refl _⟩, ⟨by (with_reducible repeat (first | apply Kd.R_alloc | apply Kd.R_drewN | apply Kd.R_drew)); exact HO_3.out⟩, ⟨by repeat (first | (with_reducible first | exact HB.out | apply below_alloc | apply pw_below_drewN | apply below_drew1) | exact HB.out)⟩⟩
                    · rw [if_neg c13] at H
                      have c13b0 : ((bt a0 x5_1) == 32) = false := beq_eq_false_iff_ne.mpr c13
                      have c13b1 : ((bt a0 x5_1) != 32) = true := bne_iff_ne.mpr c13
                      have H' := Aside0.mk H
                      clear H
                      have p12 : 0 ≤ (x5_1 : Int) := of_decide_eq_true (by first | (with_reducible assumption) | assumption)
                      have q12 : x5_1 < (a0.size : Int) := of_decide_eq_true (by first | (with_reducible assumption) | assumption)
                      have hx12 := bt_at a0 x5_1
                      replace p12 := eq_true p12
                      replace q12 := eq_true q12
                      have p14 : 0 ≤ (x5_1 : Int) := of_decide_eq_true (by first | (with_reducible assumption) | assumption)
                      have q14 : x5_1 < (a0.size : Int) := of_decide_eq_true (by first | (with_reducible assumption) | assumption)
                      have hx14 := bt_at a0 x5_1
                      replace p14 := eq_true p14
                      replace q14 := eq_true q14
                      go_wp2
                      go_meet
                      case rel => exact ⟨_, (((bt a0 x5_1) == 9)), (by first | rfl | (simp; done) | (simp [*]; done)), H', ⟨by have := HK1.out; have := HJ2.out; first | omega | exact Nat.le_refl _⟩, ⟨by (with_reducible repeat (first | apply Kd.R_alloc | apply Kd.R_drewN | apply Kd.R_drew)); exact HO_3.out⟩, ⟨by repeat (first | (with_reducible first | exact HB.out | apply below_alloc | apply pw_below_drewN | apply below_drew1) | exact HB.out)⟩⟩
                  · rw [if_neg c11] at H
                    exact absurd H (by simp)
                · rw [if_neg c10] at H
                  exact absurd H (by simp)
            case rest =>
              clear HC8
              try clear c1
              try clear p1
              try clear q1
              try clear hx1
              try clear c2
              try clear c2b0
              try clear p2
              try clear c4
              try clear c4b0
              try clear c4b1
              try clear c5
              try clear c5b0
              try clear c6
              try clear c6b0
              try clear p7
              try clear q7
              try clear hx7
              try clear c9
              try clear c10
              try clear c10b0
              try clear c11
              try clear c11b0
              try clear p12
              try clear q12
              try clear hx12
              try clear c13
              try clear c13b0
              try clear c13b1
              try clear p14
              try clear q14
              try clear hx14
              try clear p12
              try clear p14
              try clear p2
              try clear p7
              try clear q12
              try clear q14
              try clear q7
              obtain ⟨kq, x7_7, rfl, HA, HJ7, HO_3, HB⟩ := hcut
              cases kq with
              | zero => exact absurd HA.out (by simp [pithref26_words.j2])
              | succ kj7 =>
                have H := HA.out
                clear HA
                simp only [pithref26_words.j2] at H
                have HC15 := Aside0.mk H
                clear H
                go_upto_region 8 with (fail)
                go_cut [41] (fun v41 wc => ∃ (kq : Nat) (x41_14 : Bool), v41 = .bool x41_14 ∧ Aside0 (pithref26_words.j3 kq a0 x3_1 x4_1 x5_1 x6_2 x7_7 x41_14 = some r) ∧ Aside0 (kq ≤ kj7) ∧ Aside0 (Kd.R Kd.string 9 wc w.heap.size (fun _ => True) u3 x3_1) ∧ Aside0 (Below w.heap.size w wc))
                case first =>
                  have H := HC15.out
                  clear HC15
                  by_cases c16 : x7_7 = true
                  · subst c16
                    have H1 : (pithref26_words.j3 kj7 a0 x3_1 x4_1 x5_1 x6_2 true (decide (x4_1 ≥ 0))) = some r := by rw [if_pos rfl] at H; exact H
                    clear H
                    have H := H1
                    clear H1
                    have H' := Aside0.mk H
                    clear H
                    go_wp2
                    go_meet
                    case rel => exact ⟨_, (decide (x4_1 ≥ 0)), (by first | rfl | (simp; done) | (simp [*]; done)), H', ⟨by have := HK1.out; have := HJ2.out; have := HJ7.out; first | omega | exact Nat.le_refl _⟩, ⟨by (with_reducible repeat (first | apply Kd.R_alloc | apply Kd.R_drewN | apply Kd.R_drew)); exact HO_3.out⟩, ⟨by repeat (first | (with_reducible first | exact HB.out | apply below_alloc | apply pw_below_drewN | apply below_drew1) | exact HB.out)⟩⟩
                  · replace c16 := Bool.eq_false_iff.mpr c16
                    subst c16
                    have H1 : (pithref26_words.j3 kj7 a0 x3_1 x4_1 x5_1 x6_2 false false) = some r := by rw [if_neg (show ¬ (false = true) by decide)] at H; exact H
                    clear H
                    have H := H1
                    clear H1
                    have H' := Aside0.mk H
                    clear H
                    go_wp2
                    go_meet
                    case rel => exact ⟨_, (false), (by first | rfl | (simp; done) | (simp [*]; done)), H', ⟨by have := HK1.out; have := HJ2.out; have := HJ7.out; first | omega | exact Nat.le_refl _⟩, ⟨by (with_reducible repeat (first | apply Kd.R_alloc | apply Kd.R_drewN | apply Kd.R_drew)); exact HO_3.out⟩, ⟨by repeat (first | (with_reducible first | exact HB.out | apply below_alloc | apply pw_below_drewN | apply below_drew1) | exact HB.out)⟩⟩
                case rest =>
                  clear HC15
                  try clear c1
                  try clear p1
                  try clear q1
                  try clear hx1
                  try clear c2
                  try clear c2b0
                  try clear p2
                  try clear c4
                  try clear c4b0
                  try clear c4b1
                  try clear c5
                  try clear c5b0
                  try clear c6
                  try clear c6b0
                  try clear p7
                  try clear q7
                  try clear hx7
                  try clear c9
                  try clear c10
                  try clear c10b0
                  try clear c11
                  try clear c11b0
                  try clear p12
                  try clear q12
                  try clear hx12
                  try clear c13
                  try clear c13b0
                  try clear c13b1
                  try clear p14
                  try clear q14
                  try clear hx14
                  try clear c16
                  try clear p1
                  try clear p12
                  try clear p14
                  try clear p2
                  try clear p7
                  try clear q1
                  try clear q12
                  try clear q14
                  try clear q7
                  obtain ⟨kq, x41_14, rfl, HA, HJ14, HO_3, HB⟩ := hcut
                  cases kq with
                  | zero => exact absurd HA.out (by simp [pithref26_words.j3])
                  | succ kj14 =>
                    have H := HA.out
                    clear HA
                    simp only [pithref26_words.j3] at H
                    have HC17 := Aside0.mk H
                    clear H
                    go_upto_if 41 with (fail)
                    go_cut [3, 4] (fun v3 v4 wc => ∃ (kq : Nat) (x3_16 : List ByteArray) (x4_16 : Int), v4 = .int .i64 x4_16 ∧ Aside0 (pithref26_words.j4 kq a0 x3_16 x4_16 x5_1 x6_2 x7_7 = some r) ∧ Aside0 (kq ≤ kj14) ∧ Aside0 (Kd.R Kd.string 9 wc w.heap.size (fun _ => True) v3 x3_16) ∧ Aside0 (Below w.heap.size w wc))
                    case first =>
                      have H := HC17.out
                      clear HC17
                      by_cases c18 : x41_14 = true
                      · subst c18
                        have H1 : (if 0 ≤ x4_1 then (if x4_1 ≤ x5_1 then (if x5_1 ≤ (a0.size : Int) then (if x3_1.length < 8796093022208 then (pithref26_words.j4 kj14 a0 (x3_1 ++ [a0.extract (x4_1 : Int).toNat (x5_1 : Int).toNat]) (-1) x5_1 x6_2 x7_7) else (none)) else (none)) else (none)) else (none)) = some r := by rw [if_pos rfl] at H; exact H
                        clear H
                        have H := H1
                        clear H1
                        by_cases c19 : 0 ≤ x4_1
                        · rw [if_pos c19] at H
                          have c19b0 := eq_true c19
                          have c19b1 : decide (0 ≤ x4_1) = true := decide_eq_true c19
                          clear c19
                          by_cases c20 : x4_1 ≤ x5_1
                          · rw [if_pos c20] at H
                            have c20b0 := eq_true c20
                            have c20b1 : decide (x4_1 ≤ x5_1) = true := decide_eq_true c20
                            clear c20
                            by_cases c21 : x5_1 ≤ (a0.size : Int)
                            · rw [if_pos c21] at H
                              have c21b0 := eq_true c21
                              have c21b1 : decide (x5_1 ≤ (a0.size : Int)) = true := decide_eq_true c21
                              clear c21
                              by_cases c22 : x3_1.length < 8796093022208
                              · rw [if_pos c22] at H
                                have LMc22 := Aside0.mk c22
                                clear c22
                                obtain ⟨y169, hy169⟩ : ∃ y_ : List ByteArray, y_ = (x3_1 ++ [a0.extract (x4_1 : Int).toNat (x5_1 : Int).toNat]) := ⟨_, rfl⟩
                                replace H : (pithref26_words.j4 kj14 a0 y169 (-1) x5_1 x6_2 x7_7) = some r := by first | (rw [hy169]; with_reducible exact H) | (have H2_ := (Option.bind_some _ _).symm.trans H; rw [hy169]; with_reducible exact H2_) | (have H2_ := (Option.bind_some _ _).symm.trans H; with_reducible exact H2_) | with_reducible exact H | (rw [hy169]; exact H) | exact H
                                have Ny169 := Aside0.mk hy169
                                clear hy169
                                have H' := Aside0.mk H
                                clear H
                                go_wp2_with (first | ((with_reducible refine gate_builtin (b := .append) (xs := #[.tmp 42, .tmp 47]) rfl ?_); at_builtin; refine Kd.R_append Kd.string (w0 := w) w.heap.size rfl (.tmp 42) (.tmp 47) 70 9 (.string ⟨#[]⟩) 16 rfl Tryz.underlying70 info9 rfl (by decide) (by omega) u3 x3_1 (a0.extract (x4_1 : Int).toNat (x5_1 : Int).toNat) [.string (a0.extract (x4_1 : Int).toNat (x5_1 : Int).toNat)] (fun _ => True) (fun _ => False) rfl rfl ?aP (fun _ hk => hk.elim) ?aF ?aO ?aB ?aS ?aL ?_; (case aP => exact rfl); (case aB => exact (by repeat (first | (with_reducible first | exact HB.out | apply below_alloc | apply pw_below_drewN | apply below_drew1) | exact HB.out))); (case aF => exact (fun _ _ => trivial)); (case aO => exact (by (with_reducible repeat (first | apply Kd.R_alloc | apply Kd.R_drewN | apply Kd.R_drew)); exact HO_3.out)); (case aS => exact (below_size (by repeat (first | (with_reducible first | exact HB.out | apply below_alloc | apply pw_below_drewN | apply below_drew1) | exact HB.out)))); (case aL => have := LMc22.out; omega); intro v170 w23 ho hb hg hat; rw [← Ny169.out] at ho; have n0_ := Aside0.mk (hb); have n1_ := Aside0.mk (ho); clear HB; clear HO_3; have HB := n0_; have HO171 := n1_; clear n0_ n1_; clear ho hb hg hat))
                                go_meet
                                case rel => exact ⟨_, (y169), ((-1)), (by first | rfl | (simp; done) | (simp [*]; done)), H', ⟨by have := HK1.out; have := HJ2.out; have := HJ7.out; have := HJ14.out; first | omega | exact Nat.le_refl _⟩, ⟨by (with_reducible repeat (first | apply Kd.R_alloc | apply Kd.R_drewN | apply Kd.R_drew)); exact HO171.out⟩, ⟨by repeat (first | (with_reducible first | exact HB.out | apply below_alloc | apply pw_below_drewN | apply below_drew1) | exact HB.out)⟩⟩
                              · rw [if_neg c22] at H
                                exact absurd H (by simp)
                            · rw [if_neg c21] at H
                              exact absurd H (by simp)
                          · rw [if_neg c20] at H
                            exact absurd H (by simp)
                        · rw [if_neg c19] at H
                          exact absurd H (by simp)
                      · replace c18 := Bool.eq_false_iff.mpr c18
                        subst c18
                        have H1 : (pithref26_words.j4 kj14 a0 x3_1 x4_1 x5_1 x6_2 x7_7) = some r := by rw [if_neg (show ¬ (false = true) by decide)] at H; exact H
                        clear H
                        have H := H1
                        clear H1
                        have H' := Aside0.mk H
                        clear H
                        go_wp2
                        go_meet
                        case rel => exact ⟨_, (x3_1), (x4_1), (by first | rfl | (simp; done) | (simp [*]; done)), H', ⟨by have := HK1.out; have := HJ2.out; have := HJ7.out; have := HJ14.out; first | omega | exact Nat.le_refl _⟩, ⟨by (with_reducible repeat (first | apply Kd.R_alloc | apply Kd.R_drewN | apply Kd.R_drew)); exact HO_3.out⟩, ⟨by repeat (first | (with_reducible first | exact HB.out | apply below_alloc | apply pw_below_drewN | apply below_drew1) | exact HB.out)⟩⟩
                    case rest =>
                      clear HC17
                      try clear c1
                      try clear p1
                      try clear q1
                      try clear hx1
                      try clear c2
                      try clear c2b0
                      try clear p2
                      try clear c4
                      try clear c4b0
                      try clear c4b1
                      try clear c5
                      try clear c5b0
                      try clear c6
                      try clear c6b0
                      try clear p7
                      try clear q7
                      try clear hx7
                      try clear c9
                      try clear c10
                      try clear c10b0
                      try clear c11
                      try clear c11b0
                      try clear p12
                      try clear q12
                      try clear hx12
                      try clear c13
                      try clear c13b0
                      try clear c13b1
                      try clear p14
                      try clear q14
                      try clear hx14
                      try clear c16
                      try clear c18
                      try clear c19
                      try clear c19b0
                      try clear c19b1
                      try clear c20
                      try clear c20b0
                      try clear c20b1
                      try clear c21
                      try clear c21b0
                      try clear c21b1
                      try clear c22
                      try clear p1
                      try clear p12
                      try clear p14
                      try clear p2
                      try clear p7
                      try clear q1
                      try clear q12
                      try clear q14
                      try clear q7
                      obtain ⟨kq, x3_16, x4_16, rfl, HA, HJ16, HO_3, HB⟩ := hcut
                      cases kq with
                      | zero => exact absurd HA.out (by simp [pithref26_words.j4])
                      | succ kj16 =>
                        have H := HA.out
                        clear HA
                        simp only [pithref26_words.j4] at H
                        have HC24 := Aside0.mk H
                        clear H
                        go_upto_region 11 with (fail)
                        go_cut [54] (fun v54 wc => ∃ (kq : Nat) (x54_23 : Bool), v54 = .bool x54_23 ∧ Aside0 (pithref26_words.j5 kq a0 x3_16 x4_16 x5_1 x6_2 x54_23 = some r) ∧ Aside0 (kq ≤ kj16) ∧ Aside0 (Kd.R Kd.string 9 wc w.heap.size (fun _ => True) u3 x3_16) ∧ Aside0 (Below w.heap.size w wc))
                        case first =>
                          have H := HC24.out
                          clear HC24
                          by_cases c25 : x7_7 = true
                          · subst c25
                            have H1 : (pithref26_words.j5 kj16 a0 x3_16 x4_16 x5_1 x6_2 false) = some r := by rw [if_pos rfl] at H; exact H
                            clear H
                            have H := H1
                            clear H1
                            have H' := Aside0.mk H
                            clear H
                            go_wp2
                            go_meet
                            case rel => exact ⟨_, (false), (by first | rfl | (simp; done) | (simp [*]; done)), H', ⟨by have := HK1.out; have := HJ2.out; have := HJ7.out; have := HJ14.out; have := HJ16.out; first | omega | exact Nat.le_refl _⟩, ⟨by (with_reducible repeat (first | apply Kd.R_alloc | apply Kd.R_drewN | apply Kd.R_drew)); exact HO_3.out⟩, ⟨by repeat (first | (with_reducible first | exact HB.out | apply below_alloc | apply pw_below_drewN | apply below_drew1) | exact HB.out)⟩⟩
                          · replace c25 := Bool.eq_false_iff.mpr c25
                            subst c25
                            have H1 : (pithref26_words.j5 kj16 a0 x3_16 x4_16 x5_1 x6_2 (decide (x4_16 < 0))) = some r := by rw [if_neg (show ¬ (false = true) by decide)] at H; exact H
                            clear H
                            have H := H1
                            clear H1
                            have H' := Aside0.mk H
                            clear H
                            go_wp2
                            go_meet
                            case rel => exact ⟨_, (decide (x4_16 < 0)), (by first | rfl | (simp; done) | (simp [*]; done)), H', ⟨by have := HK1.out; have := HJ2.out; have := HJ7.out; have := HJ14.out; have := HJ16.out; first | omega | exact Nat.le_refl _⟩, ⟨by (with_reducible repeat (first | apply Kd.R_alloc | apply Kd.R_drewN | apply Kd.R_drew)); exact HO_3.out⟩, ⟨by repeat (first | (with_reducible first | exact HB.out | apply below_alloc | apply pw_below_drewN | apply below_drew1) | exact HB.out)⟩⟩
                        case rest =>
                          clear HC24
                          try clear c1
                          try clear p1
                          try clear q1
                          try clear hx1
                          try clear c2
                          try clear c2b0
                          try clear p2
                          try clear c4
                          try clear c4b0
                          try clear c4b1
                          try clear c5
                          try clear c5b0
                          try clear c6
                          try clear c6b0
                          try clear p7
                          try clear q7
                          try clear hx7
                          try clear c9
                          try clear c10
                          try clear c10b0
                          try clear c11
                          try clear c11b0
                          try clear p12
                          try clear q12
                          try clear hx12
                          try clear c13
                          try clear c13b0
                          try clear c13b1
                          try clear p14
                          try clear q14
                          try clear hx14
                          try clear c16
                          try clear c18
                          try clear c19
                          try clear c19b0
                          try clear c19b1
                          try clear c20
                          try clear c20b0
                          try clear c20b1
                          try clear c21
                          try clear c21b0
                          try clear c21b1
                          try clear c22
                          try clear c25
                          try clear p1
                          try clear p12
                          try clear p14
                          try clear p2
                          try clear p7
                          try clear q1
                          try clear q12
                          try clear q14
                          try clear q7
                          obtain ⟨kq, x54_23, rfl, HA, HJ23, HO_3, HB⟩ := hcut
                          cases kq with
                          | zero => exact absurd HA.out (by simp [pithref26_words.j5])
                          | succ kj23 =>
                            have H := HA.out
                            clear HA
                            simp only [pithref26_words.j5] at H
                            by_cases c26 : x54_23 = true
                            · subst c26
                              have H1 : (if x6_2 = true then (some x3_16) else (pithref26_words.l0 kj23 a0 x3_16 x5_1 (wrap64 (x5_1 + 1)))) = some r := by rw [if_pos rfl] at H; exact H
                              clear H
                              have H := H1
                              clear H1
                              by_cases c27 : x6_2 = true
                              · subst c27
                                have H1 : (some x3_16) = some r := by rw [if_pos rfl] at H; exact H
                                clear H
                                have H := H1
                                clear H1
                                obtain rfl := Option.some.inj H
                                go_wp2
                                go_ret
                                exact ⟨_, by first | rfl | (simp [errW_none, errW_some] <;> rfl) | (simp [*, errW_none, errW_some] <;> rfl), by (with_reducible repeat (first | apply Kd.R_alloc | apply Kd.R_drewN | apply Kd.R_drew)); exact HO_3.out, by repeat (first | (with_reducible first | exact HB.out | apply below_alloc | apply pw_below_drewN | apply below_drew1) | exact HB.out)⟩
                              · replace c27 := Bool.eq_false_iff.mpr c27
                                subst c27
                                have H1 : (pithref26_words.l0 kj23 a0 x3_16 x5_1 (wrap64 (x5_1 + 1))) = some r := by rw [if_neg (show ¬ (false = true) by decide)] at H; exact H
                                clear H
                                have H := H1
                                clear H1
                                have H' := Aside0.mk H
                                clear H
                                go_wp2
                                go_roundg kj23
                                case measure => have := HK1.out; have := HJ2.out; have := HJ7.out; have := HJ14.out; have := HJ16.out; have := HJ23.out; omega
                                case rel => exact ⟨(x3_16), (x5_1), (wrap64 (x5_1 + 1)), (by first | rfl | (simp; done) | (simp [*]; done)), (by first | rfl | (simp; done) | (simp [*]; done)), H', ⟨by have := HK1.out; have := HJ2.out; have := HJ7.out; have := HJ14.out; have := HJ16.out; have := HJ23.out; omega⟩, ⟨by (with_reducible repeat (first | apply Kd.R_alloc | apply Kd.R_drewN | apply Kd.R_drew)); exact HO_3.out⟩, ⟨by repeat (first | (with_reducible first | exact HB.out | apply below_alloc | apply pw_below_drewN | apply below_drew1) | exact HB.out)⟩⟩
                            · replace c26 := Bool.eq_false_iff.mpr c26
                              subst c26
                              have H1 : (if x6_2 = true then (some x3_16) else (pithref26_words.l0 kj23 a0 x3_16 x4_16 (wrap64 (x5_1 + 1)))) = some r := by rw [if_neg (show ¬ (false = true) by decide)] at H; exact H
                              clear H
                              have H := H1
                              clear H1
                              by_cases c28 : x6_2 = true
                              · subst c28
                                have H1 : (some x3_16) = some r := by rw [if_pos rfl] at H; exact H
                                clear H
                                have H := H1
                                clear H1
                                obtain rfl := Option.some.inj H
                                go_wp2
                                go_ret
                                exact ⟨_, by first | rfl | (simp [errW_none, errW_some] <;> rfl) | (simp [*, errW_none, errW_some] <;> rfl), by (with_reducible repeat (first | apply Kd.R_alloc | apply Kd.R_drewN | apply Kd.R_drew)); exact HO_3.out, by repeat (first | (with_reducible first | exact HB.out | apply below_alloc | apply pw_below_drewN | apply below_drew1) | exact HB.out)⟩
                              · replace c28 := Bool.eq_false_iff.mpr c28
                                subst c28
                                have H1 : (pithref26_words.l0 kj23 a0 x3_16 x4_16 (wrap64 (x5_1 + 1))) = some r := by rw [if_neg (show ¬ (false = true) by decide)] at H; exact H
                                clear H
                                have H := H1
                                clear H1
                                have H' := Aside0.mk H
                                clear H
                                go_wp2
                                go_roundg kj23
                                case measure => have := HK1.out; have := HJ2.out; have := HJ7.out; have := HJ14.out; have := HJ16.out; have := HJ23.out; omega
                                case rel => exact ⟨(x3_16), (x4_16), (wrap64 (x5_1 + 1)), (by first | rfl | (simp; done) | (simp [*]; done)), (by first | rfl | (simp; done) | (simp [*]; done)), H', ⟨by have := HK1.out; have := HJ2.out; have := HJ7.out; have := HJ14.out; have := HJ16.out; have := HJ23.out; omega⟩, ⟨by (with_reducible repeat (first | apply Kd.R_alloc | apply Kd.R_drewN | apply Kd.R_drew)); exact HO_3.out⟩, ⟨by repeat (first | (with_reducible first | exact HB.out | apply below_alloc | apply pw_below_drewN | apply below_drew1) | exact HB.out)⟩⟩
      · rw [if_neg c2] at H
        have c2b0 : decide (x5_1 ≤ (a0.size : Int)) = false := decide_eq_false c2
        clear c2
        obtain rfl := Option.some.inj H
        go_wp2
        go_ret
        exact ⟨_, by first | rfl | (simp [errW_none, errW_some] <;> rfl) | (simp [*, errW_none, errW_some] <;> rfl), by (with_reducible repeat (first | apply Kd.R_alloc | apply Kd.R_drewN | apply Kd.R_drew)); exact HO_3.out, by repeat (first | (with_reducible first | exact HB.out | apply below_alloc | apply pw_below_drewN | apply below_drew1) | exact HB.out)⟩

/-! ### pithref26_Word: function 60 -/
def pithref26_Word.f (a0 : Int) : Option (ByteArray) := (some (([(⟨#[112, 117, 116]⟩ : ByteArray), (⟨#[98, 117, 105, 108, 100]⟩ : ByteArray), (⟨#[97, 117, 100, 105, 116]⟩ : ByteArray), (⟨#[100, 101, 99, 111, 109, 112, 111, 115, 101]⟩ : ByteArray), (⟨#[114, 101, 115, 117, 109, 101]⟩ : ByteArray), (⟨#[111, 114, 100, 101, 114]⟩ : ByteArray), (⟨#[101, 120, 116, 114, 97, 99, 116]⟩ : ByteArray), (⟨#[110, 101, 115, 116]⟩ : ByteArray), (⟨#[99, 104, 97, 110, 103, 101]⟩ : ByteArray), (⟨#[99, 111, 114, 101]⟩ : ByteArray), (⟨#[112, 108, 97, 99, 101]⟩ : ByteArray), (⟨#[115, 104, 101, 108, 108, 115]⟩ : ByteArray), (⟨#[105, 110, 102, 111]⟩ : ByteArray), (⟨#[114, 101, 97, 100]⟩ : ByteArray), (⟨#[110, 97, 109, 101, 115]⟩ : ByteArray), (⟨#[97, 114, 109]⟩ : ByteArray), (⟨#[99, 114, 97, 115, 104]⟩ : ByteArray), (⟨#[114, 111, 116]⟩ : ByteArray), (⟨#[114, 101, 109, 111, 118, 101]⟩ : ByteArray)] : List ByteArray) : List ByteArray)).bind fun y176 => (if a0 < 1 then (some (⟨#[]⟩ : ByteArray)) else (if a0 > 19 then (some (⟨#[]⟩ : ByteArray)) else (if 0 ≤ (wrap64 (a0 - 1)) then (if (wrap64 (a0 - 1)) < (y176.length : Int) then (some (rdOf ByteArray.empty y176 (wrap64 (a0 - 1)))) else (none)) else (none))))
set_option maxHeartbeats 8000000 in
set_option maxRecDepth 100000 in
theorem pithref26_Word.calls (a0 : Int) (r : ByteArray) (w : World) (h : pithref26_Word.f a0 = some r) :
    Calls Tryz.prog 60 #[.int .i64 a0] w fun e w' => e = .returned (.string r) ∧ Below w.heap.size w w' := by
  have HB := Aside0.mk (Below.refl w.heap.size w)
  have H : ((some (([(⟨#[112, 117, 116]⟩ : ByteArray), (⟨#[98, 117, 105, 108, 100]⟩ : ByteArray), (⟨#[97, 117, 100, 105, 116]⟩ : ByteArray), (⟨#[100, 101, 99, 111, 109, 112, 111, 115, 101]⟩ : ByteArray), (⟨#[114, 101, 115, 117, 109, 101]⟩ : ByteArray), (⟨#[111, 114, 100, 101, 114]⟩ : ByteArray), (⟨#[101, 120, 116, 114, 97, 99, 116]⟩ : ByteArray), (⟨#[110, 101, 115, 116]⟩ : ByteArray), (⟨#[99, 104, 97, 110, 103, 101]⟩ : ByteArray), (⟨#[99, 111, 114, 101]⟩ : ByteArray), (⟨#[112, 108, 97, 99, 101]⟩ : ByteArray), (⟨#[115, 104, 101, 108, 108, 115]⟩ : ByteArray), (⟨#[105, 110, 102, 111]⟩ : ByteArray), (⟨#[114, 101, 97, 100]⟩ : ByteArray), (⟨#[110, 97, 109, 101, 115]⟩ : ByteArray), (⟨#[97, 114, 109]⟩ : ByteArray), (⟨#[99, 114, 97, 115, 104]⟩ : ByteArray), (⟨#[114, 111, 116]⟩ : ByteArray), (⟨#[114, 101, 109, 111, 118, 101]⟩ : ByteArray)] : List ByteArray) : List ByteArray)).bind fun y176 => (if a0 < 1 then (some (⟨#[]⟩ : ByteArray)) else (if a0 > 19 then (some (⟨#[]⟩ : ByteArray)) else (if 0 ≤ (wrap64 (a0 - 1)) then (if (wrap64 (a0 - 1)) < (y176.length : Int) then (some (rdOf ByteArray.empty y176 (wrap64 (a0 - 1)))) else (none)) else (none))))) = some r := h
  clear h
  obtain ⟨y176, hy176⟩ : ∃ y_ : List ByteArray, y_ = (([(⟨#[112, 117, 116]⟩ : ByteArray), (⟨#[98, 117, 105, 108, 100]⟩ : ByteArray), (⟨#[97, 117, 100, 105, 116]⟩ : ByteArray), (⟨#[100, 101, 99, 111, 109, 112, 111, 115, 101]⟩ : ByteArray), (⟨#[114, 101, 115, 117, 109, 101]⟩ : ByteArray), (⟨#[111, 114, 100, 101, 114]⟩ : ByteArray), (⟨#[101, 120, 116, 114, 97, 99, 116]⟩ : ByteArray), (⟨#[110, 101, 115, 116]⟩ : ByteArray), (⟨#[99, 104, 97, 110, 103, 101]⟩ : ByteArray), (⟨#[99, 111, 114, 101]⟩ : ByteArray), (⟨#[112, 108, 97, 99, 101]⟩ : ByteArray), (⟨#[115, 104, 101, 108, 108, 115]⟩ : ByteArray), (⟨#[105, 110, 102, 111]⟩ : ByteArray), (⟨#[114, 101, 97, 100]⟩ : ByteArray), (⟨#[110, 97, 109, 101, 115]⟩ : ByteArray), (⟨#[97, 114, 109]⟩ : ByteArray), (⟨#[99, 114, 97, 115, 104]⟩ : ByteArray), (⟨#[114, 111, 116]⟩ : ByteArray), (⟨#[114, 101, 109, 111, 118, 101]⟩ : ByteArray)] : List ByteArray)) := ⟨_, rfl⟩
  replace H : (if a0 < 1 then (some (⟨#[]⟩ : ByteArray)) else (if a0 > 19 then (some (⟨#[]⟩ : ByteArray)) else (if 0 ≤ (wrap64 (a0 - 1)) then (if (wrap64 (a0 - 1)) < (y176.length : Int) then (some (rdOf ByteArray.empty y176 (wrap64 (a0 - 1)))) else (none)) else (none)))) = some r := by first | (rw [hy176]; with_reducible exact H) | (have H2_ := (Option.bind_some _ _).symm.trans H; rw [hy176]; with_reducible exact H2_) | (have H2_ := (Option.bind_some _ _).symm.trans H; with_reducible exact H2_) | with_reducible exact H | (rw [hy176]; exact H) | exact H
  have Ny176 := Aside0.mk hy176
  clear hy176
  by_cases c2 : a0 < 1
  · rw [if_pos c2] at H
    have c2b0 : decide (a0 < 1) = true := decide_eq_true c2
    clear c2
    obtain rfl := Option.some.inj H
    go_enter Tryz.func60, Tryz.ntmps60
    go_wp2_with (first | ((with_reducible refine gate_dst (N := 4) rfl ?_); refine Kd.R_lit Kd.string _ 9 ?hg (N := 4) ?hd (xs := ([(⟨#[112, 117, 116]⟩ : ByteArray), (⟨#[98, 117, 105, 108, 100]⟩ : ByteArray), (⟨#[97, 117, 100, 105, 116]⟩ : ByteArray), (⟨#[100, 101, 99, 111, 109, 112, 111, 115, 101]⟩ : ByteArray), (⟨#[114, 101, 115, 117, 109, 101]⟩ : ByteArray), (⟨#[111, 114, 100, 101, 114]⟩ : ByteArray), (⟨#[101, 120, 116, 114, 97, 99, 116]⟩ : ByteArray), (⟨#[110, 101, 115, 116]⟩ : ByteArray), (⟨#[99, 104, 97, 110, 103, 101]⟩ : ByteArray), (⟨#[99, 111, 114, 101]⟩ : ByteArray), (⟨#[112, 108, 97, 99, 101]⟩ : ByteArray), (⟨#[115, 104, 101, 108, 108, 115]⟩ : ByteArray), (⟨#[105, 110, 102, 111]⟩ : ByteArray), (⟨#[114, 101, 97, 100]⟩ : ByteArray), (⟨#[110, 97, 109, 101, 115]⟩ : ByteArray), (⟨#[97, 114, 109]⟩ : ByteArray), (⟨#[99, 114, 97, 115, 104]⟩ : ByteArray), (⟨#[114, 111, 116]⟩ : ByteArray), (⟨#[114, 101, 109, 111, 118, 101]⟩ : ByteArray)] : List ByteArray)) (inner := [.string (⟨#[112, 117, 116]⟩ : ByteArray), .string (⟨#[98, 117, 105, 108, 100]⟩ : ByteArray), .string (⟨#[97, 117, 100, 105, 116]⟩ : ByteArray), .string (⟨#[100, 101, 99, 111, 109, 112, 111, 115, 101]⟩ : ByteArray), .string (⟨#[114, 101, 115, 117, 109, 101]⟩ : ByteArray), .string (⟨#[111, 114, 100, 101, 114]⟩ : ByteArray), .string (⟨#[101, 120, 116, 114, 97, 99, 116]⟩ : ByteArray), .string (⟨#[110, 101, 115, 116]⟩ : ByteArray), .string (⟨#[99, 104, 97, 110, 103, 101]⟩ : ByteArray), .string (⟨#[99, 111, 114, 101]⟩ : ByteArray), .string (⟨#[112, 108, 97, 99, 101]⟩ : ByteArray), .string (⟨#[115, 104, 101, 108, 108, 115]⟩ : ByteArray), .string (⟨#[105, 110, 102, 111]⟩ : ByteArray), .string (⟨#[114, 101, 97, 100]⟩ : ByteArray), .string (⟨#[110, 97, 109, 101, 115]⟩ : ByteArray), .string (⟨#[97, 114, 109]⟩ : ByteArray), .string (⟨#[99, 114, 97, 115, 104]⟩ : ByteArray), .string (⟨#[114, 111, 116]⟩ : ByteArray), .string (⟨#[114, 101, 109, 111, 118, 101]⟩ : ByteArray)]) (ok := fun _ => True) (okp := fun _ => True) ?hr ?hp (fun _ hk => hk) trivial (Below.refl _ _) (Nat.le_refl _) (by simp) ?_; (case hd => rfl); (case hg => rfl); (case hr => first | (go_simp; done) | (go_simp; rfl)); (case hp => exact (Reps.one (show Kd.M Kd.string _ _ _ (⟨#[112, 117, 116]⟩ : ByteArray) [.string (⟨#[112, 117, 116]⟩ : ByteArray)] from rfl) (Reps.one (show Kd.M Kd.string _ _ _ (⟨#[98, 117, 105, 108, 100]⟩ : ByteArray) [.string (⟨#[98, 117, 105, 108, 100]⟩ : ByteArray)] from rfl) (Reps.one (show Kd.M Kd.string _ _ _ (⟨#[97, 117, 100, 105, 116]⟩ : ByteArray) [.string (⟨#[97, 117, 100, 105, 116]⟩ : ByteArray)] from rfl) (Reps.one (show Kd.M Kd.string _ _ _ (⟨#[100, 101, 99, 111, 109, 112, 111, 115, 101]⟩ : ByteArray) [.string (⟨#[100, 101, 99, 111, 109, 112, 111, 115, 101]⟩ : ByteArray)] from rfl) (Reps.one (show Kd.M Kd.string _ _ _ (⟨#[114, 101, 115, 117, 109, 101]⟩ : ByteArray) [.string (⟨#[114, 101, 115, 117, 109, 101]⟩ : ByteArray)] from rfl) (Reps.one (show Kd.M Kd.string _ _ _ (⟨#[111, 114, 100, 101, 114]⟩ : ByteArray) [.string (⟨#[111, 114, 100, 101, 114]⟩ : ByteArray)] from rfl) (Reps.one (show Kd.M Kd.string _ _ _ (⟨#[101, 120, 116, 114, 97, 99, 116]⟩ : ByteArray) [.string (⟨#[101, 120, 116, 114, 97, 99, 116]⟩ : ByteArray)] from rfl) (Reps.one (show Kd.M Kd.string _ _ _ (⟨#[110, 101, 115, 116]⟩ : ByteArray) [.string (⟨#[110, 101, 115, 116]⟩ : ByteArray)] from rfl) (Reps.one (show Kd.M Kd.string _ _ _ (⟨#[99, 104, 97, 110, 103, 101]⟩ : ByteArray) [.string (⟨#[99, 104, 97, 110, 103, 101]⟩ : ByteArray)] from rfl) (Reps.one (show Kd.M Kd.string _ _ _ (⟨#[99, 111, 114, 101]⟩ : ByteArray) [.string (⟨#[99, 111, 114, 101]⟩ : ByteArray)] from rfl) (Reps.one (show Kd.M Kd.string _ _ _ (⟨#[112, 108, 97, 99, 101]⟩ : ByteArray) [.string (⟨#[112, 108, 97, 99, 101]⟩ : ByteArray)] from rfl) (Reps.one (show Kd.M Kd.string _ _ _ (⟨#[115, 104, 101, 108, 108, 115]⟩ : ByteArray) [.string (⟨#[115, 104, 101, 108, 108, 115]⟩ : ByteArray)] from rfl) (Reps.one (show Kd.M Kd.string _ _ _ (⟨#[105, 110, 102, 111]⟩ : ByteArray) [.string (⟨#[105, 110, 102, 111]⟩ : ByteArray)] from rfl) (Reps.one (show Kd.M Kd.string _ _ _ (⟨#[114, 101, 97, 100]⟩ : ByteArray) [.string (⟨#[114, 101, 97, 100]⟩ : ByteArray)] from rfl) (Reps.one (show Kd.M Kd.string _ _ _ (⟨#[110, 97, 109, 101, 115]⟩ : ByteArray) [.string (⟨#[110, 97, 109, 101, 115]⟩ : ByteArray)] from rfl) (Reps.one (show Kd.M Kd.string _ _ _ (⟨#[97, 114, 109]⟩ : ByteArray) [.string (⟨#[97, 114, 109]⟩ : ByteArray)] from rfl) (Reps.one (show Kd.M Kd.string _ _ _ (⟨#[99, 114, 97, 115, 104]⟩ : ByteArray) [.string (⟨#[99, 114, 97, 115, 104]⟩ : ByteArray)] from rfl) (Reps.one (show Kd.M Kd.string _ _ _ (⟨#[114, 111, 116]⟩ : ByteArray) [.string (⟨#[114, 111, 116]⟩ : ByteArray)] from rfl) (Reps.one (show Kd.M Kd.string _ _ _ (⟨#[114, 101, 109, 111, 118, 101]⟩ : ByteArray) [.string (⟨#[114, 101, 109, 111, 118, 101]⟩ : ByteArray)] from rfl) (Reps.none _ _))))))))))))))))))))); intro v177 w3 ho4 hb hg_ hnew_; clear hg_ hnew_; (first | rw [← Ny176.out] at ho4 | (simp only [Int.reduceToNat] at ho4; rw [← Ny176.out] at ho4)); have n0_ := Aside0.mk (Kd.R_lower ho4 (below_size (by repeat (first | (with_reducible first | exact HB.out | apply below_alloc | apply pw_below_drewN | apply below_drew1) | exact HB.out)))); have n1_ := Aside0.mk (below_step (by repeat (first | (with_reducible first | exact HB.out | apply below_alloc | apply pw_below_drewN | apply below_drew1) | exact HB.out)) hb); clear HB; have HO178 := n0_; have HB := n1_; clear n0_ n1_; clear hb ho4))
    go_ret
    exact ⟨by first | rfl | (simp [errW_none, errW_some] <;> rfl) | (simp [*, errW_none, errW_some] <;> rfl), by repeat (first | (with_reducible first | exact HB.out | apply below_alloc | apply pw_below_drewN | apply below_drew1) | exact HB.out)⟩
  · rw [if_neg c2] at H
    have c2b0 : decide (a0 < 1) = false := decide_eq_false c2
    clear c2
    by_cases c5 : a0 > 19
    · rw [if_pos c5] at H
      have c5b0 : decide (19 < a0) = true := decide_eq_true c5
      clear c5
      obtain rfl := Option.some.inj H
      go_enter Tryz.func60, Tryz.ntmps60
      go_wp2_with (first | ((with_reducible refine gate_dst (N := 4) rfl ?_); refine Kd.R_lit Kd.string _ 9 ?hg (N := 4) ?hd (xs := ([(⟨#[112, 117, 116]⟩ : ByteArray), (⟨#[98, 117, 105, 108, 100]⟩ : ByteArray), (⟨#[97, 117, 100, 105, 116]⟩ : ByteArray), (⟨#[100, 101, 99, 111, 109, 112, 111, 115, 101]⟩ : ByteArray), (⟨#[114, 101, 115, 117, 109, 101]⟩ : ByteArray), (⟨#[111, 114, 100, 101, 114]⟩ : ByteArray), (⟨#[101, 120, 116, 114, 97, 99, 116]⟩ : ByteArray), (⟨#[110, 101, 115, 116]⟩ : ByteArray), (⟨#[99, 104, 97, 110, 103, 101]⟩ : ByteArray), (⟨#[99, 111, 114, 101]⟩ : ByteArray), (⟨#[112, 108, 97, 99, 101]⟩ : ByteArray), (⟨#[115, 104, 101, 108, 108, 115]⟩ : ByteArray), (⟨#[105, 110, 102, 111]⟩ : ByteArray), (⟨#[114, 101, 97, 100]⟩ : ByteArray), (⟨#[110, 97, 109, 101, 115]⟩ : ByteArray), (⟨#[97, 114, 109]⟩ : ByteArray), (⟨#[99, 114, 97, 115, 104]⟩ : ByteArray), (⟨#[114, 111, 116]⟩ : ByteArray), (⟨#[114, 101, 109, 111, 118, 101]⟩ : ByteArray)] : List ByteArray)) (inner := [.string (⟨#[112, 117, 116]⟩ : ByteArray), .string (⟨#[98, 117, 105, 108, 100]⟩ : ByteArray), .string (⟨#[97, 117, 100, 105, 116]⟩ : ByteArray), .string (⟨#[100, 101, 99, 111, 109, 112, 111, 115, 101]⟩ : ByteArray), .string (⟨#[114, 101, 115, 117, 109, 101]⟩ : ByteArray), .string (⟨#[111, 114, 100, 101, 114]⟩ : ByteArray), .string (⟨#[101, 120, 116, 114, 97, 99, 116]⟩ : ByteArray), .string (⟨#[110, 101, 115, 116]⟩ : ByteArray), .string (⟨#[99, 104, 97, 110, 103, 101]⟩ : ByteArray), .string (⟨#[99, 111, 114, 101]⟩ : ByteArray), .string (⟨#[112, 108, 97, 99, 101]⟩ : ByteArray), .string (⟨#[115, 104, 101, 108, 108, 115]⟩ : ByteArray), .string (⟨#[105, 110, 102, 111]⟩ : ByteArray), .string (⟨#[114, 101, 97, 100]⟩ : ByteArray), .string (⟨#[110, 97, 109, 101, 115]⟩ : ByteArray), .string (⟨#[97, 114, 109]⟩ : ByteArray), .string (⟨#[99, 114, 97, 115, 104]⟩ : ByteArray), .string (⟨#[114, 111, 116]⟩ : ByteArray), .string (⟨#[114, 101, 109, 111, 118, 101]⟩ : ByteArray)]) (ok := fun _ => True) (okp := fun _ => True) ?hr ?hp (fun _ hk => hk) trivial (Below.refl _ _) (Nat.le_refl _) (by simp) ?_; (case hd => rfl); (case hg => rfl); (case hr => first | (go_simp; done) | (go_simp; rfl)); (case hp => exact (Reps.one (show Kd.M Kd.string _ _ _ (⟨#[112, 117, 116]⟩ : ByteArray) [.string (⟨#[112, 117, 116]⟩ : ByteArray)] from rfl) (Reps.one (show Kd.M Kd.string _ _ _ (⟨#[98, 117, 105, 108, 100]⟩ : ByteArray) [.string (⟨#[98, 117, 105, 108, 100]⟩ : ByteArray)] from rfl) (Reps.one (show Kd.M Kd.string _ _ _ (⟨#[97, 117, 100, 105, 116]⟩ : ByteArray) [.string (⟨#[97, 117, 100, 105, 116]⟩ : ByteArray)] from rfl) (Reps.one (show Kd.M Kd.string _ _ _ (⟨#[100, 101, 99, 111, 109, 112, 111, 115, 101]⟩ : ByteArray) [.string (⟨#[100, 101, 99, 111, 109, 112, 111, 115, 101]⟩ : ByteArray)] from rfl) (Reps.one (show Kd.M Kd.string _ _ _ (⟨#[114, 101, 115, 117, 109, 101]⟩ : ByteArray) [.string (⟨#[114, 101, 115, 117, 109, 101]⟩ : ByteArray)] from rfl) (Reps.one (show Kd.M Kd.string _ _ _ (⟨#[111, 114, 100, 101, 114]⟩ : ByteArray) [.string (⟨#[111, 114, 100, 101, 114]⟩ : ByteArray)] from rfl) (Reps.one (show Kd.M Kd.string _ _ _ (⟨#[101, 120, 116, 114, 97, 99, 116]⟩ : ByteArray) [.string (⟨#[101, 120, 116, 114, 97, 99, 116]⟩ : ByteArray)] from rfl) (Reps.one (show Kd.M Kd.string _ _ _ (⟨#[110, 101, 115, 116]⟩ : ByteArray) [.string (⟨#[110, 101, 115, 116]⟩ : ByteArray)] from rfl) (Reps.one (show Kd.M Kd.string _ _ _ (⟨#[99, 104, 97, 110, 103, 101]⟩ : ByteArray) [.string (⟨#[99, 104, 97, 110, 103, 101]⟩ : ByteArray)] from rfl) (Reps.one (show Kd.M Kd.string _ _ _ (⟨#[99, 111, 114, 101]⟩ : ByteArray) [.string (⟨#[99, 111, 114, 101]⟩ : ByteArray)] from rfl) (Reps.one (show Kd.M Kd.string _ _ _ (⟨#[112, 108, 97, 99, 101]⟩ : ByteArray) [.string (⟨#[112, 108, 97, 99, 101]⟩ : ByteArray)] from rfl) (Reps.one (show Kd.M Kd.string _ _ _ (⟨#[115, 104, 101, 108, 108, 115]⟩ : ByteArray) [.string (⟨#[115, 104, 101, 108, 108, 115]⟩ : ByteArray)] from rfl) (Reps.one (show Kd.M Kd.string _ _ _ (⟨#[105, 110, 102, 111]⟩ : ByteArray) [.string (⟨#[105, 110, 102, 111]⟩ : ByteArray)] from rfl) (Reps.one (show Kd.M Kd.string _ _ _ (⟨#[114, 101, 97, 100]⟩ : ByteArray) [.string (⟨#[114, 101, 97, 100]⟩ : ByteArray)] from rfl) (Reps.one (show Kd.M Kd.string _ _ _ (⟨#[110, 97, 109, 101, 115]⟩ : ByteArray) [.string (⟨#[110, 97, 109, 101, 115]⟩ : ByteArray)] from rfl) (Reps.one (show Kd.M Kd.string _ _ _ (⟨#[97, 114, 109]⟩ : ByteArray) [.string (⟨#[97, 114, 109]⟩ : ByteArray)] from rfl) (Reps.one (show Kd.M Kd.string _ _ _ (⟨#[99, 114, 97, 115, 104]⟩ : ByteArray) [.string (⟨#[99, 114, 97, 115, 104]⟩ : ByteArray)] from rfl) (Reps.one (show Kd.M Kd.string _ _ _ (⟨#[114, 111, 116]⟩ : ByteArray) [.string (⟨#[114, 111, 116]⟩ : ByteArray)] from rfl) (Reps.one (show Kd.M Kd.string _ _ _ (⟨#[114, 101, 109, 111, 118, 101]⟩ : ByteArray) [.string (⟨#[114, 101, 109, 111, 118, 101]⟩ : ByteArray)] from rfl) (Reps.none _ _))))))))))))))))))))); intro v177 w6 ho7 hb hg_ hnew_; clear hg_ hnew_; (first | rw [← Ny176.out] at ho7 | (simp only [Int.reduceToNat] at ho7; rw [← Ny176.out] at ho7)); have n0_ := Aside0.mk (Kd.R_lower ho7 (below_size (by repeat (first | (with_reducible first | exact HB.out | apply below_alloc | apply pw_below_drewN | apply below_drew1) | exact HB.out)))); have n1_ := Aside0.mk (below_step (by repeat (first | (with_reducible first | exact HB.out | apply below_alloc | apply pw_below_drewN | apply below_drew1) | exact HB.out)) hb); clear HB; have HO178 := n0_; have HB := n1_; clear n0_ n1_; clear hb ho7))
      go_ret
      exact ⟨by first | rfl | (simp [errW_none, errW_some] <;> rfl) | (simp [*, errW_none, errW_some] <;> rfl), by repeat (first | (with_reducible first | exact HB.out | apply below_alloc | apply pw_below_drewN | apply below_drew1) | exact HB.out)⟩
    · rw [if_neg c5] at H
      have c5b0 : decide (19 < a0) = false := decide_eq_false c5
      clear c5
      obtain ⟨ji8, hji8⟩ : ∃ j_ : Int, (wrap64 (a0 - 1)) = j_ := ⟨_, rfl⟩
      replace H : (if 0 ≤ (ji8) then (if (ji8) < (y176.length : Int) then (some (rdOf ByteArray.empty y176 (ji8))) else (none)) else (none)) = some r := by first | (rw [hji8] at H; exact H) | (simp only [hji8] at H ⊢; exact H)
      have hji8w : (IntKind.i64.wrap (a0 - 1)) = ji8 := (i64_w _).trans hji8
      by_cases c9 : 0 ≤ (ji8)
      · rw [if_pos c9] at H
        have c9b0 : decide (0 ≤ (ji8)) = true := decide_eq_true c9
        clear c9
        by_cases c10 : (ji8) < (y176.length : Int)
        · rw [if_pos c10] at H
          have c10b0 : decide ((ji8) < (y176.length : Int)) = true := decide_eq_true c10
          clear c10
          obtain rfl := Option.some.inj H
          go_enter Tryz.func60, Tryz.ntmps60
          go_wp2_with (first | ((with_reducible refine gate_dst (N := 4) rfl ?_); refine Kd.R_lit Kd.string _ 9 ?hg (N := 4) ?hd (xs := ([(⟨#[112, 117, 116]⟩ : ByteArray), (⟨#[98, 117, 105, 108, 100]⟩ : ByteArray), (⟨#[97, 117, 100, 105, 116]⟩ : ByteArray), (⟨#[100, 101, 99, 111, 109, 112, 111, 115, 101]⟩ : ByteArray), (⟨#[114, 101, 115, 117, 109, 101]⟩ : ByteArray), (⟨#[111, 114, 100, 101, 114]⟩ : ByteArray), (⟨#[101, 120, 116, 114, 97, 99, 116]⟩ : ByteArray), (⟨#[110, 101, 115, 116]⟩ : ByteArray), (⟨#[99, 104, 97, 110, 103, 101]⟩ : ByteArray), (⟨#[99, 111, 114, 101]⟩ : ByteArray), (⟨#[112, 108, 97, 99, 101]⟩ : ByteArray), (⟨#[115, 104, 101, 108, 108, 115]⟩ : ByteArray), (⟨#[105, 110, 102, 111]⟩ : ByteArray), (⟨#[114, 101, 97, 100]⟩ : ByteArray), (⟨#[110, 97, 109, 101, 115]⟩ : ByteArray), (⟨#[97, 114, 109]⟩ : ByteArray), (⟨#[99, 114, 97, 115, 104]⟩ : ByteArray), (⟨#[114, 111, 116]⟩ : ByteArray), (⟨#[114, 101, 109, 111, 118, 101]⟩ : ByteArray)] : List ByteArray)) (inner := [.string (⟨#[112, 117, 116]⟩ : ByteArray), .string (⟨#[98, 117, 105, 108, 100]⟩ : ByteArray), .string (⟨#[97, 117, 100, 105, 116]⟩ : ByteArray), .string (⟨#[100, 101, 99, 111, 109, 112, 111, 115, 101]⟩ : ByteArray), .string (⟨#[114, 101, 115, 117, 109, 101]⟩ : ByteArray), .string (⟨#[111, 114, 100, 101, 114]⟩ : ByteArray), .string (⟨#[101, 120, 116, 114, 97, 99, 116]⟩ : ByteArray), .string (⟨#[110, 101, 115, 116]⟩ : ByteArray), .string (⟨#[99, 104, 97, 110, 103, 101]⟩ : ByteArray), .string (⟨#[99, 111, 114, 101]⟩ : ByteArray), .string (⟨#[112, 108, 97, 99, 101]⟩ : ByteArray), .string (⟨#[115, 104, 101, 108, 108, 115]⟩ : ByteArray), .string (⟨#[105, 110, 102, 111]⟩ : ByteArray), .string (⟨#[114, 101, 97, 100]⟩ : ByteArray), .string (⟨#[110, 97, 109, 101, 115]⟩ : ByteArray), .string (⟨#[97, 114, 109]⟩ : ByteArray), .string (⟨#[99, 114, 97, 115, 104]⟩ : ByteArray), .string (⟨#[114, 111, 116]⟩ : ByteArray), .string (⟨#[114, 101, 109, 111, 118, 101]⟩ : ByteArray)]) (ok := fun _ => True) (okp := fun _ => True) ?hr ?hp (fun _ hk => hk) trivial (Below.refl _ _) (Nat.le_refl _) (by simp) ?_; (case hd => rfl); (case hg => rfl); (case hr => first | (go_simp; done) | (go_simp; rfl)); (case hp => exact (Reps.one (show Kd.M Kd.string _ _ _ (⟨#[112, 117, 116]⟩ : ByteArray) [.string (⟨#[112, 117, 116]⟩ : ByteArray)] from rfl) (Reps.one (show Kd.M Kd.string _ _ _ (⟨#[98, 117, 105, 108, 100]⟩ : ByteArray) [.string (⟨#[98, 117, 105, 108, 100]⟩ : ByteArray)] from rfl) (Reps.one (show Kd.M Kd.string _ _ _ (⟨#[97, 117, 100, 105, 116]⟩ : ByteArray) [.string (⟨#[97, 117, 100, 105, 116]⟩ : ByteArray)] from rfl) (Reps.one (show Kd.M Kd.string _ _ _ (⟨#[100, 101, 99, 111, 109, 112, 111, 115, 101]⟩ : ByteArray) [.string (⟨#[100, 101, 99, 111, 109, 112, 111, 115, 101]⟩ : ByteArray)] from rfl) (Reps.one (show Kd.M Kd.string _ _ _ (⟨#[114, 101, 115, 117, 109, 101]⟩ : ByteArray) [.string (⟨#[114, 101, 115, 117, 109, 101]⟩ : ByteArray)] from rfl) (Reps.one (show Kd.M Kd.string _ _ _ (⟨#[111, 114, 100, 101, 114]⟩ : ByteArray) [.string (⟨#[111, 114, 100, 101, 114]⟩ : ByteArray)] from rfl) (Reps.one (show Kd.M Kd.string _ _ _ (⟨#[101, 120, 116, 114, 97, 99, 116]⟩ : ByteArray) [.string (⟨#[101, 120, 116, 114, 97, 99, 116]⟩ : ByteArray)] from rfl) (Reps.one (show Kd.M Kd.string _ _ _ (⟨#[110, 101, 115, 116]⟩ : ByteArray) [.string (⟨#[110, 101, 115, 116]⟩ : ByteArray)] from rfl) (Reps.one (show Kd.M Kd.string _ _ _ (⟨#[99, 104, 97, 110, 103, 101]⟩ : ByteArray) [.string (⟨#[99, 104, 97, 110, 103, 101]⟩ : ByteArray)] from rfl) (Reps.one (show Kd.M Kd.string _ _ _ (⟨#[99, 111, 114, 101]⟩ : ByteArray) [.string (⟨#[99, 111, 114, 101]⟩ : ByteArray)] from rfl) (Reps.one (show Kd.M Kd.string _ _ _ (⟨#[112, 108, 97, 99, 101]⟩ : ByteArray) [.string (⟨#[112, 108, 97, 99, 101]⟩ : ByteArray)] from rfl) (Reps.one (show Kd.M Kd.string _ _ _ (⟨#[115, 104, 101, 108, 108, 115]⟩ : ByteArray) [.string (⟨#[115, 104, 101, 108, 108, 115]⟩ : ByteArray)] from rfl) (Reps.one (show Kd.M Kd.string _ _ _ (⟨#[105, 110, 102, 111]⟩ : ByteArray) [.string (⟨#[105, 110, 102, 111]⟩ : ByteArray)] from rfl) (Reps.one (show Kd.M Kd.string _ _ _ (⟨#[114, 101, 97, 100]⟩ : ByteArray) [.string (⟨#[114, 101, 97, 100]⟩ : ByteArray)] from rfl) (Reps.one (show Kd.M Kd.string _ _ _ (⟨#[110, 97, 109, 101, 115]⟩ : ByteArray) [.string (⟨#[110, 97, 109, 101, 115]⟩ : ByteArray)] from rfl) (Reps.one (show Kd.M Kd.string _ _ _ (⟨#[97, 114, 109]⟩ : ByteArray) [.string (⟨#[97, 114, 109]⟩ : ByteArray)] from rfl) (Reps.one (show Kd.M Kd.string _ _ _ (⟨#[99, 114, 97, 115, 104]⟩ : ByteArray) [.string (⟨#[99, 114, 97, 115, 104]⟩ : ByteArray)] from rfl) (Reps.one (show Kd.M Kd.string _ _ _ (⟨#[114, 111, 116]⟩ : ByteArray) [.string (⟨#[114, 111, 116]⟩ : ByteArray)] from rfl) (Reps.one (show Kd.M Kd.string _ _ _ (⟨#[114, 101, 109, 111, 118, 101]⟩ : ByteArray) [.string (⟨#[114, 101, 109, 111, 118, 101]⟩ : ByteArray)] from rfl) (Reps.none _ _))))))))))))))))))))); intro v177 w11 ho12 hb hg_ hnew_; clear hg_ hnew_; (first | rw [← Ny176.out] at ho12 | (simp only [Int.reduceToNat] at ho12; rw [← Ny176.out] at ho12)); have n0_ := Aside0.mk (Kd.R_lower ho12 (below_size (by repeat (first | (with_reducible first | exact HB.out | apply below_alloc | apply pw_below_drewN | apply below_drew1) | exact HB.out)))); have n1_ := Aside0.mk (below_step (by repeat (first | (with_reducible first | exact HB.out | apply below_alloc | apply pw_below_drewN | apply below_drew1) | exact HB.out)) hb); clear HB; have HO178 := n0_; have HB := n1_; clear n0_ n1_; clear hb ho12; obtain ⟨Ao13, co13, eo13⟩ := Kd.R_slice HO178.out; subst eo13; have p179 : 0 ≤ ((ji8) : Int) := of_decide_eq_true (by first | (with_reducible assumption) | assumption); have q179 : (ji8) < (y176.length : Int) := of_decide_eq_true (by first | (with_reducible assumption) | assumption); obtain ⟨ad179, e179, hx179_0⟩ := Kd.at_string (Kd.R_reads' HO178.out).2.2 (ji8) p179 q179; cases e179; replace p179 := eq_true p179; replace q179 := eq_true q179))
          go_ret
          exact ⟨by first | rfl | (simp [errW_none, errW_some] <;> rfl) | (simp only [← hji8]; first | rfl | (simp [errW_none, errW_some] <;> rfl)) | (simp [*, errW_none, errW_some] <;> rfl), by repeat (first | (with_reducible first | exact HB.out | apply below_alloc | apply pw_below_drewN | apply below_drew1) | exact HB.out)⟩
        · rw [if_neg c10] at H
          exact absurd H (by simp)
      · rw [if_neg c9] at H
        exact absurd H (by simp)

/-! ### pithref26_fields: function 61 -/
def pithref26_fields.f (a0 : Int) : Option (ByteArray) := (some (([(⟨#[78, 84]⟩ : ByteArray), (⟨#[78, 65, 66, 76]⟩ : ByteArray), (⟨#[65, 66]⟩ : ByteArray), (⟨#[65]⟩ : ByteArray), (⟨#[65]⟩ : ByteArray), (⟨#[]⟩ : ByteArray), (⟨#[65]⟩ : ByteArray), (⟨#[]⟩ : ByteArray), (⟨#[78]⟩ : ByteArray), (⟨#[65]⟩ : ByteArray), (⟨#[65]⟩ : ByteArray), (⟨#[]⟩ : ByteArray), (⟨#[]⟩ : ByteArray), (⟨#[78]⟩ : ByteArray), (⟨#[]⟩ : ByteArray), (⟨#[65]⟩ : ByteArray), (⟨#[65, 76]⟩ : ByteArray), (⟨#[78, 65, 66]⟩ : ByteArray), (⟨#[78]⟩ : ByteArray)] : List ByteArray) : List ByteArray)).bind fun y180 => (if 0 ≤ (wrap64 (a0 - 1)) then (if (wrap64 (a0 - 1)) < (y180.length : Int) then (some (rdOf ByteArray.empty y180 (wrap64 (a0 - 1)))) else (none)) else (none))
set_option maxHeartbeats 8000000 in
set_option maxRecDepth 100000 in
theorem pithref26_fields.calls (a0 : Int) (r : ByteArray) (w : World) (h : pithref26_fields.f a0 = some r) :
    Calls Tryz.prog 61 #[.int .i64 a0] w fun e w' => e = .returned (.string r) ∧ Below w.heap.size w w' := by
  have HB := Aside0.mk (Below.refl w.heap.size w)
  have H : ((some (([(⟨#[78, 84]⟩ : ByteArray), (⟨#[78, 65, 66, 76]⟩ : ByteArray), (⟨#[65, 66]⟩ : ByteArray), (⟨#[65]⟩ : ByteArray), (⟨#[65]⟩ : ByteArray), (⟨#[]⟩ : ByteArray), (⟨#[65]⟩ : ByteArray), (⟨#[]⟩ : ByteArray), (⟨#[78]⟩ : ByteArray), (⟨#[65]⟩ : ByteArray), (⟨#[65]⟩ : ByteArray), (⟨#[]⟩ : ByteArray), (⟨#[]⟩ : ByteArray), (⟨#[78]⟩ : ByteArray), (⟨#[]⟩ : ByteArray), (⟨#[65]⟩ : ByteArray), (⟨#[65, 76]⟩ : ByteArray), (⟨#[78, 65, 66]⟩ : ByteArray), (⟨#[78]⟩ : ByteArray)] : List ByteArray) : List ByteArray)).bind fun y180 => (if 0 ≤ (wrap64 (a0 - 1)) then (if (wrap64 (a0 - 1)) < (y180.length : Int) then (some (rdOf ByteArray.empty y180 (wrap64 (a0 - 1)))) else (none)) else (none))) = some r := h
  clear h
  obtain ⟨y180, hy180⟩ : ∃ y_ : List ByteArray, y_ = (([(⟨#[78, 84]⟩ : ByteArray), (⟨#[78, 65, 66, 76]⟩ : ByteArray), (⟨#[65, 66]⟩ : ByteArray), (⟨#[65]⟩ : ByteArray), (⟨#[65]⟩ : ByteArray), (⟨#[]⟩ : ByteArray), (⟨#[65]⟩ : ByteArray), (⟨#[]⟩ : ByteArray), (⟨#[78]⟩ : ByteArray), (⟨#[65]⟩ : ByteArray), (⟨#[65]⟩ : ByteArray), (⟨#[]⟩ : ByteArray), (⟨#[]⟩ : ByteArray), (⟨#[78]⟩ : ByteArray), (⟨#[]⟩ : ByteArray), (⟨#[65]⟩ : ByteArray), (⟨#[65, 76]⟩ : ByteArray), (⟨#[78, 65, 66]⟩ : ByteArray), (⟨#[78]⟩ : ByteArray)] : List ByteArray)) := ⟨_, rfl⟩
  replace H : (if 0 ≤ (wrap64 (a0 - 1)) then (if (wrap64 (a0 - 1)) < (y180.length : Int) then (some (rdOf ByteArray.empty y180 (wrap64 (a0 - 1)))) else (none)) else (none)) = some r := by first | (rw [hy180]; with_reducible exact H) | (have H2_ := (Option.bind_some _ _).symm.trans H; rw [hy180]; with_reducible exact H2_) | (have H2_ := (Option.bind_some _ _).symm.trans H; with_reducible exact H2_) | with_reducible exact H | (rw [hy180]; exact H) | exact H
  have Ny180 := Aside0.mk hy180
  clear hy180
  obtain ⟨ji2, hji2⟩ : ∃ j_ : Int, (wrap64 (a0 - 1)) = j_ := ⟨_, rfl⟩
  replace H : (if 0 ≤ (ji2) then (if (ji2) < (y180.length : Int) then (some (rdOf ByteArray.empty y180 (ji2))) else (none)) else (none)) = some r := by first | (rw [hji2] at H; exact H) | (simp only [hji2] at H ⊢; exact H)
  have hji2w : (IntKind.i64.wrap (a0 - 1)) = ji2 := (i64_w _).trans hji2
  by_cases c3 : 0 ≤ (ji2)
  · rw [if_pos c3] at H
    have c3b0 : decide (0 ≤ (ji2)) = true := decide_eq_true c3
    clear c3
    by_cases c4 : (ji2) < (y180.length : Int)
    · rw [if_pos c4] at H
      have c4b0 : decide ((ji2) < (y180.length : Int)) = true := decide_eq_true c4
      clear c4
      obtain rfl := Option.some.inj H
      go_enter Tryz.func61, Tryz.ntmps61
      go_wp2_with (first | ((with_reducible refine gate_dst (N := 4) rfl ?_); refine Kd.R_lit Kd.string _ 9 ?hg (N := 4) ?hd (xs := ([(⟨#[78, 84]⟩ : ByteArray), (⟨#[78, 65, 66, 76]⟩ : ByteArray), (⟨#[65, 66]⟩ : ByteArray), (⟨#[65]⟩ : ByteArray), (⟨#[65]⟩ : ByteArray), (⟨#[]⟩ : ByteArray), (⟨#[65]⟩ : ByteArray), (⟨#[]⟩ : ByteArray), (⟨#[78]⟩ : ByteArray), (⟨#[65]⟩ : ByteArray), (⟨#[65]⟩ : ByteArray), (⟨#[]⟩ : ByteArray), (⟨#[]⟩ : ByteArray), (⟨#[78]⟩ : ByteArray), (⟨#[]⟩ : ByteArray), (⟨#[65]⟩ : ByteArray), (⟨#[65, 76]⟩ : ByteArray), (⟨#[78, 65, 66]⟩ : ByteArray), (⟨#[78]⟩ : ByteArray)] : List ByteArray)) (inner := [.string (⟨#[78, 84]⟩ : ByteArray), .string (⟨#[78, 65, 66, 76]⟩ : ByteArray), .string (⟨#[65, 66]⟩ : ByteArray), .string (⟨#[65]⟩ : ByteArray), .string (⟨#[65]⟩ : ByteArray), .string (⟨#[]⟩ : ByteArray), .string (⟨#[65]⟩ : ByteArray), .string (⟨#[]⟩ : ByteArray), .string (⟨#[78]⟩ : ByteArray), .string (⟨#[65]⟩ : ByteArray), .string (⟨#[65]⟩ : ByteArray), .string (⟨#[]⟩ : ByteArray), .string (⟨#[]⟩ : ByteArray), .string (⟨#[78]⟩ : ByteArray), .string (⟨#[]⟩ : ByteArray), .string (⟨#[65]⟩ : ByteArray), .string (⟨#[65, 76]⟩ : ByteArray), .string (⟨#[78, 65, 66]⟩ : ByteArray), .string (⟨#[78]⟩ : ByteArray)]) (ok := fun _ => True) (okp := fun _ => True) ?hr ?hp (fun _ hk => hk) trivial (Below.refl _ _) (Nat.le_refl _) (by simp) ?_; (case hd => rfl); (case hg => rfl); (case hr => first | (go_simp; done) | (go_simp; rfl)); (case hp => exact (Reps.one (show Kd.M Kd.string _ _ _ (⟨#[78, 84]⟩ : ByteArray) [.string (⟨#[78, 84]⟩ : ByteArray)] from rfl) (Reps.one (show Kd.M Kd.string _ _ _ (⟨#[78, 65, 66, 76]⟩ : ByteArray) [.string (⟨#[78, 65, 66, 76]⟩ : ByteArray)] from rfl) (Reps.one (show Kd.M Kd.string _ _ _ (⟨#[65, 66]⟩ : ByteArray) [.string (⟨#[65, 66]⟩ : ByteArray)] from rfl) (Reps.one (show Kd.M Kd.string _ _ _ (⟨#[65]⟩ : ByteArray) [.string (⟨#[65]⟩ : ByteArray)] from rfl) (Reps.one (show Kd.M Kd.string _ _ _ (⟨#[65]⟩ : ByteArray) [.string (⟨#[65]⟩ : ByteArray)] from rfl) (Reps.one (show Kd.M Kd.string _ _ _ (⟨#[]⟩ : ByteArray) [.string (⟨#[]⟩ : ByteArray)] from rfl) (Reps.one (show Kd.M Kd.string _ _ _ (⟨#[65]⟩ : ByteArray) [.string (⟨#[65]⟩ : ByteArray)] from rfl) (Reps.one (show Kd.M Kd.string _ _ _ (⟨#[]⟩ : ByteArray) [.string (⟨#[]⟩ : ByteArray)] from rfl) (Reps.one (show Kd.M Kd.string _ _ _ (⟨#[78]⟩ : ByteArray) [.string (⟨#[78]⟩ : ByteArray)] from rfl) (Reps.one (show Kd.M Kd.string _ _ _ (⟨#[65]⟩ : ByteArray) [.string (⟨#[65]⟩ : ByteArray)] from rfl) (Reps.one (show Kd.M Kd.string _ _ _ (⟨#[65]⟩ : ByteArray) [.string (⟨#[65]⟩ : ByteArray)] from rfl) (Reps.one (show Kd.M Kd.string _ _ _ (⟨#[]⟩ : ByteArray) [.string (⟨#[]⟩ : ByteArray)] from rfl) (Reps.one (show Kd.M Kd.string _ _ _ (⟨#[]⟩ : ByteArray) [.string (⟨#[]⟩ : ByteArray)] from rfl) (Reps.one (show Kd.M Kd.string _ _ _ (⟨#[78]⟩ : ByteArray) [.string (⟨#[78]⟩ : ByteArray)] from rfl) (Reps.one (show Kd.M Kd.string _ _ _ (⟨#[]⟩ : ByteArray) [.string (⟨#[]⟩ : ByteArray)] from rfl) (Reps.one (show Kd.M Kd.string _ _ _ (⟨#[65]⟩ : ByteArray) [.string (⟨#[65]⟩ : ByteArray)] from rfl) (Reps.one (show Kd.M Kd.string _ _ _ (⟨#[65, 76]⟩ : ByteArray) [.string (⟨#[65, 76]⟩ : ByteArray)] from rfl) (Reps.one (show Kd.M Kd.string _ _ _ (⟨#[78, 65, 66]⟩ : ByteArray) [.string (⟨#[78, 65, 66]⟩ : ByteArray)] from rfl) (Reps.one (show Kd.M Kd.string _ _ _ (⟨#[78]⟩ : ByteArray) [.string (⟨#[78]⟩ : ByteArray)] from rfl) (Reps.none _ _))))))))))))))))))))); intro v181 w5 ho6 hb hg_ hnew_; clear hg_ hnew_; (first | rw [← Ny180.out] at ho6 | (simp only [Int.reduceToNat] at ho6; rw [← Ny180.out] at ho6)); have n0_ := Aside0.mk (Kd.R_lower ho6 (below_size (by repeat (first | (with_reducible first | exact HB.out | apply below_alloc | apply pw_below_drewN | apply below_drew1) | exact HB.out)))); have n1_ := Aside0.mk (below_step (by repeat (first | (with_reducible first | exact HB.out | apply below_alloc | apply pw_below_drewN | apply below_drew1) | exact HB.out)) hb); clear HB; have HO182 := n0_; have HB := n1_; clear n0_ n1_; clear hb ho6; obtain ⟨Ao7, co7, eo7⟩ := Kd.R_slice HO182.out; subst eo7; have p183 : 0 ≤ ((ji2) : Int) := of_decide_eq_true (by first | (with_reducible assumption) | assumption); have q183 : (ji2) < (y180.length : Int) := of_decide_eq_true (by first | (with_reducible assumption) | assumption); obtain ⟨ad183, e183, hx183_0⟩ := Kd.at_string (Kd.R_reads' HO182.out).2.2 (ji2) p183 q183; cases e183; replace p183 := eq_true p183; replace q183 := eq_true q183))
      go_ret
      exact ⟨by first | rfl | (simp [errW_none, errW_some] <;> rfl) | (simp only [← hji2]; first | rfl | (simp [errW_none, errW_some] <;> rfl)) | (simp [*, errW_none, errW_some] <;> rfl), by repeat (first | (with_reducible first | exact HB.out | apply below_alloc | apply pw_below_drewN | apply below_drew1) | exact HB.out)⟩
    · rw [if_neg c4] at H
      exact absurd H (by simp)
  · rw [if_neg c3] at H
    exact absurd H (by simp)

end Go.Proofs.YtbpackopicngmaaGreatDoor.PrR
