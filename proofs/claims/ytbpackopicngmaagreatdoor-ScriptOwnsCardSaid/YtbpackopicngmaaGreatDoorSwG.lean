/- Walks, part G: a line that is a step. -/
import Derived.Test.YtbpackopicngmaaGreatDoorSwF
namespace Go.Proofs.YtbpackopicngmaaGreatDoor
open Go.RowKit Go.Proofs.Sc Go.Proofs.YtbpackopicngmaaGreatDoorW.PrintWords

def zeroOp : Array Value := #[.int .i64 0, .int .i64 0, .int .i64 0, .string ⟨#[]⟩, .string ⟨#[]⟩, .slice none 0 0]

/-- What step leaves. -/
def StepPost (ws : List By) (w : World) (e : Ending) (w' : World) : Prop :=
  (match stepOf ws with
   | .ok o => ∃ lv, e = .returned (.tuple #[.agg #[.int .i64 o.kind, .int .i64 o.a, .int .i64 o.b, .string ⟨o.name.toArray⟩, .string ⟨o.text.toArray⟩, lv], .int .i64 0]) ∧ w'.ownsRow w.heap.size 3 1 lv o.list.length (nums .i64 o.list)
   | .error c => e = .returned (.tuple #[.agg zeroOp, .int .i64 c])) ∧ Below w.heap.size w w'

theorem StepPost.error {ws : List By} {w w' : World} {c : Int} (h : stepOf ws = .error c) (hb : Below w.heap.size w w') : StepPost ws w (.returned (.tuple #[.agg zeroOp, .int .i64 c])) w' := by
  unfold StepPost; rw [h]; exact ⟨rfl, hb⟩
theorem StepPost.ok {ws : List By} {w w' : World} {o : POp} {lv : Value} (h : stepOf ws = .ok o) (ho : w'.ownsRow w.heap.size 3 1 lv o.list.length (nums .i64 o.list)) (hb : Below w.heap.size w w') : StepPost ws w (.returned (.tuple #[.agg #[.int .i64 o.kind, .int .i64 o.a, .int .i64 o.b, .string ⟨o.name.toArray⟩, .string ⟨o.text.toArray⟩, lv], .int .i64 0])) w' := by
  unfold StepPost; rw [h]; exact ⟨⟨lv, rfl, ho⟩, hb⟩

set_option maxHeartbeats 2000000 in
theorem step_noword (x : By) (r : List By) (hk : kindOf x = 0) (v : Value) (w : World) {B B' : Nat} (hE : Env B w) (hv : Words B' w v (x :: r)) (hB' : B' ≤ w.heap.size) :
    Calls Tryz.prog 25 #[v] w (StepPost (x :: r) w) := by
  obtain ⟨g, c, rfl, hg, hc1, hc2, hcell⟩ := hv
  have c0 := hcell 0 x rfl
  obtain ⟨n, hn⟩ : ∃ n, n = (x :: r).length := ⟨_, rfl⟩
  rw [← hn] at hc1 ⊢
  have n1 : (0 : Int) < (n : Int) := by rw [hn]; simp
  have HK := Lib.hid hk
  have HR := Lib.hid (show stepOf (x :: r) = .error 261 by simp [stepOf, hk])
  clear hn hcell hk
  have hgw : g < w.heap.size := by omega
  go_enter Tryz.func25, Tryz.ntmps25
  go_wp2_with fail
  refine (kindOf_any ⟨x.toArray⟩ _ (hE.below ((Below.refl _ _).alloc (Nat.le_refl _) _))).mono ?_
  rw [HK.out]
  rintro e w1 ⟨rfl, rfl⟩
  go_wp2_with fail
  exact bodyPost_ret (v := .tuple #[.agg zeroOp, .int .i64 261]) (by simp [results, Tryz.results25, go_sem, zeroOp]) rfl (StepPost.error HR.out (((Below.refl _ _).alloc (Nat.le_refl _) _).alloc (by simp) _))

/-- The words behind the first one, wherever they lie. -/
def Rest (B : Nat) (w : World) (A : Option Addr) (r : List By) : Prop :=
  0 < r.length → ∃ g o, A = some ⟨g, o, none⟩ ∧ g < B ∧ ∀ (j : Nat) x, r[j]? = some x → w.cell? ⟨g, o + j, none⟩ = some (.string ⟨x.toArray⟩)

theorem Rest.keep {B : Nat} {w w' : World} {A : Option Addr} {r : List By} (h : Rest B w A r) (hb : Below B w w') : Rest B w' A r := fun hp => by
  obtain ⟨g, o, h1, h2, h3⟩ := h hp
  exact ⟨g, o, h1, h2, fun j x hx => (hb.cell (p := ⟨g, o + j, none⟩) h2).trans (h3 j x hx)⟩

theorem OpBlk.iterAt {B b k p p' : Nat} {s : ByteArray} {o : POp} {w : World} (h : OpBlk B b o w) (hk : w.heap[k]? = some (.stringIter s p)) : OpBlk B b o (w.iterAt k s p') := by
  obtain ⟨h0, lv, h1, h2⟩ := h
  have hbk : b ≠ k := by rintro rfl; rw [h1] at hk; cases hk
  refine ⟨h0, lv, (Lib.iterAt_other w k b s p' hbk).trans h1, own_move h2 (fun j hj => Lib.iterAt_other w k j s p' ?_)⟩
  rintro rfl
  obtain ⟨cells, hc⟩ := own_typed h2 j hj
  rw [hc] at hk; cases hk

theorem fields_fin : ∀ i : Fin 19, Lib.trimSuffix (kindFields.getD i.val []) [76] = plain (kindFields.getD i.val []) ∧ Lib.hasSuffix (kindFields.getD i.val []) [76] = hasList (kindFields.getD i.val []) ∧ (∀ c ∈ plain (kindFields.getD i.val []), c = 78 ∨ c = 84 ∨ c = 65 ∨ c = 66) ∧ (plain (kindFields.getD i.val [])).length ≤ 3 ∧ (kindFields.getD i.val []).length ≤ 4 := by decide +kernel

theorem fields_suffix {k : Int} (hk : Sc.kindOk k) : Lib.trimSuffix (fieldsOf k) [76] = plain (fieldsOf k) ∧ Lib.hasSuffix (fieldsOf k) [76] = hasList (fieldsOf k) ∧ (∀ c ∈ plain (fieldsOf k), c = 78 ∨ c = 84 ∨ c = 65 ∨ c = 66) ∧ (plain (fieldsOf k)).length ≤ 3 ∧ (fieldsOf k).length ≤ 4 := by
  unfold Sc.kindOk at hk
  exact fields_fin ⟨(k - 1).toNat, by omega⟩

theorem info_string : (Tryz.prog.info? 9).map (fun i => (i.zero, i.size, i.bytes)) = some (some (.string ⟨#[]⟩), 1, 16) := by kernel_rfl

theorem cutL {F P : By} {L : Bool} (hn : F.length ≤ 4) (h1 : Lib.trimSuffix F [76] = P) (h2 : Lib.hasSuffix F [76] = L) (W : World) :
    Calls Tryz.prog 57 #[.string ⟨F.toArray⟩, .string ⟨#[76]⟩] W fun e w' => e = .returned (.tuple #[.string ⟨P.toArray⟩, .bool L]) ∧ w' = W := by
  have := Tryz.strings_CutSuffix ⟨F.toArray⟩ ⟨#[76]⟩ W (by rw [mk_size]; omega)
  refine this.mono fun e w' ⟨h3, h4⟩ => ⟨?_, h4⟩
  rw [h3, ← h1, ← h2]

theorem SetPost.of_ok {B b : Nat} {o o' : POp} {f : UInt8} {s : By} {w w' : World} {e : Ending} (h : SetPost B b o f s w e w') (hs : setF o f s = .ok o') : e = .returned (.int .i64 0) ∧ OpBlk B b o' w' ∧ Lib.OthersKept 3 (some b) w w' ∧ Below B w w' := by
  unfold SetPost at h; rw [hs] at h; exact ⟨h.1.1, h.1.2, h.2⟩
theorem SetPost.of_error {B b : Nat} {o : POp} {f : UInt8} {s : By} {w w' : World} {e : Ending} {c : Int} (h : SetPost B b o f s w e w') (hs : setF o f s = .error c) : e = .returned (.int .i64 c) ∧ Lib.OthersKept 3 (some b) w w' ∧ Below B w w' := by
  unfold SetPost at h; rw [hs] at h; exact h

theorem others_zero {b b' : Nat} {w w' : World} (h : Lib.OthersKept 3 (some b) w w') (hne : b' ≠ b) (hz : w.heap[b']? = some (.cells zeroOp 44 (0, 0))) : w'.heap[b']? = some (.cells zeroOp 44 (0, 0)) :=
  h b' _ hz (by simpa using hne) (fun c fz e => by injection e with _ e; revert e; decide)

theorem six_below {B b : Nat} {w W : World} (h : Below B w W) (hb : B ≤ b) (u0 u1 u2 u3 u4 u5 : Value) :
    Below B w ((((((W.setCell ⟨b, 0, none⟩ u0).setCell ⟨b, 1, none⟩ u1).setCell ⟨b, 2, none⟩ u2).setCell ⟨b, 3, none⟩ u3).setCell ⟨b, 4, none⟩ u4).setCell ⟨b, 5, none⟩ u5) :=
  (((((h.setCell (p := ⟨b, 0, none⟩) hb _).setCell (p := ⟨b, 1, none⟩) hb _).setCell (p := ⟨b, 2, none⟩) hb _).setCell (p := ⟨b, 3, none⟩) hb _).setCell (p := ⟨b, 4, none⟩) hb _).setCell (p := ⟨b, 5, none⟩) hb _

theorem op_cells {b : Nat} {w : World} {v0 v1 v2 v3 v4 v5 : Value} (h : w.heap[b]? = some (.cells #[v0, v1, v2, v3, v4, v5] 44 (0, 0))) :
    w.cell? ⟨b, 0, none⟩ = some v0 ∧ w.cell? ⟨b, 1, none⟩ = some v1 ∧ w.cell? ⟨b, 2, none⟩ = some v2 ∧ w.cell? ⟨b, 3, none⟩ = some v3 ∧ w.cell? ⟨b, 4, none⟩ = some v4 ∧ w.cell? ⟨b, 5, none⟩ = some v5 :=
  ⟨blk_cell h 0, blk_cell h 1, blk_cell h 2, blk_cell h 3, blk_cell h 4, blk_cell h 5⟩

theorem six_own {B b : Nat} {w : World} {cs : Array Value} {lv : Value} {n : Nat} {xs : List Value} (hb : w.heap[b]? = some (.cells cs 44 (0, 0))) (ho : w.ownsRow B 3 1 lv n xs) (u0 u1 u2 u3 u4 u5 : Value) :
    ((((((w.setCell ⟨b, 0, none⟩ u0).setCell ⟨b, 1, none⟩ u1).setCell ⟨b, 2, none⟩ u2).setCell ⟨b, 3, none⟩ u3).setCell ⟨b, 4, none⟩ u4).setCell ⟨b, 5, none⟩ u5).ownsRow B 3 1 lv n xs :=
  have hb0 := blk_set hb 0 u0
  have hb1 := blk_set hb0 1 u1
  have hb2 := blk_set hb1 2 u2
  have hb3 := blk_set hb2 3 u3
  have hb4 := blk_set hb3 4 u4
  own_set hb4 (own_set hb3 (own_set hb2 (own_set hb1 (own_set hb0 (own_set hb ho u0) u1) u2) u3) u4) u5

/-- The first loop's state. -/
structure R1 (w : World) (P : By) (tot : Except Int POp) (r : List By) (p : Nat) (o : POp) (wr : World) : Prop where
  op : OpBlk w.heap.size (w.heap.size + 1) o wr
  zero : wr.heap[w.heap.size]? = some (.cells zeroOp 44 (0, 0))
  iter : wr.heap[w.heap.size + 2]? = some (.stringIter ⟨P.toArray⟩ p)
  below : Below w.heap.size w wr
  sets : setAll o (P.drop p) (r.drop p) = tot
  nolist : o.list = []
  le : p ≤ P.length

/-- The second loop's state. -/
structure R2 (w : World) (tot : Except Int POp) (r2 : List By) (q : Nat) (o : POp) (wr : World) : Prop where
  op : OpBlk w.heap.size (w.heap.size + 1) o wr
  zero : wr.heap[w.heap.size]? = some (.cells zeroOp 44 (0, 0))
  below : Below w.heap.size w wr
  sets : setAll o [] (r2.drop q) = tot
  len : o.list.length = q
  le : q ≤ r2.length

theorem setF_codes {o : POp} {f : UInt8} {s : By} {c : Int} (h : setF o f s = .error c) : (c != 0) = true := by
  unfold setF at h
  repeat' split at h
  all_goals first | (cases h; rfl) | cases h

theorem setF_list {o o' : POp} {f : UInt8} {s : By} (hf : f = 78 ∨ f = 84 ∨ f = 65 ∨ f = 66) (h : setF o f s = .ok o') : o'.list = o.list := by
  rcases hf with rfl | rfl | rfl | rfl <;> simp [setF] at h <;> split at h <;> cases h <;> rfl

theorem setF_list76 {o o' : POp} {s : By} (h : setF o 76 s = .ok o') : o'.list.length = o.list.length + 1 := by
  simp [setF] at h; split at h <;> cases h; simp

theorem setAll_ok {o o' : POp} {f : UInt8} {fs : By} {x : By} {ws : List By} (h : setF o f x = .ok o') : setAll o (f :: fs) (x :: ws) = setAll o' fs ws := by simp only [setAll, h]
theorem setAll_error {o : POp} {f : UInt8} {fs : By} {x : By} {ws : List By} {c : Int} (h : setF o f x = .error c) : setAll o (f :: fs) (x :: ws) = .error c := by simp only [setAll, h]
theorem setAll_ok0 {o o' : POp} {x : By} {ws : List By} (h : setF o 76 x = .ok o') : setAll o [] (x :: ws) = setAll o' [] ws := by simp only [setAll, h]
theorem setAll_error0 {o : POp} {x : By} {ws : List By} {c : Int} (h : setF o 76 x = .error c) : setAll o [] (x :: ws) = .error c := by simp only [setAll, h]

/-- The zero step's six cells, ready to be written over. -/
theorem zero_cells {b : Nat} {w : World} (h : w.heap[b]? = some (.cells zeroOp 44 (0, 0))) :
    w.cell? ⟨b, 0, none⟩ = some (.int .i64 0) ∧ w.cell? ⟨b, 1, none⟩ = some (.int .i64 0) ∧ w.cell? ⟨b, 2, none⟩ = some (.int .i64 0) ∧ w.cell? ⟨b, 3, none⟩ = some (.string ⟨#[]⟩) ∧ w.cell? ⟨b, 4, none⟩ = some (.string ⟨#[]⟩) ∧ w.cell? ⟨b, 5, none⟩ = some (.slice none 0 0) ∧
    w.frozen? ⟨b, 0, none⟩ = false ∧ w.frozen? ⟨b, 1, none⟩ = false ∧ w.frozen? ⟨b, 2, none⟩ = false ∧ w.frozen? ⟨b, 3, none⟩ = false ∧ w.frozen? ⟨b, 4, none⟩ = false ∧ w.frozen? ⟨b, 5, none⟩ = false :=
  ⟨blk_cell h 0, blk_cell h 1, blk_cell h 2, blk_cell h 3, blk_cell h 4, blk_cell h 5, blk_frozen h 0, blk_frozen h 1, blk_frozen h 2, blk_frozen h 3, blk_frozen h 4, blk_frozen h 5⟩

set_option maxHeartbeats 4000000 in
set_option maxRecDepth 100000 in
theorem step_word (x : By) (r : List By) (hr : ∀ y ∈ r, y.length ≤ 33554432) (hrl : r.length ≤ 33554432) (hk : kindOf x ≠ 0) (v : Value) (w : World) {B B' : Nat} (hE : Env B w) (hv : Words B' w v (x :: r)) (hB' : B' ≤ w.heap.size) :
    Calls Tryz.prog 25 #[v] w (StepPost (x :: r) w) := by
  obtain ⟨hkk, hkw⟩ := kindOf_ok hk
  obtain ⟨g, c, rfl, hg, hc1, hc2, hcell⟩ := hv
  have c0 := hcell 0 x rfl
  obtain ⟨n, hn⟩ : ∃ n, n = (x :: r).length := ⟨_, rfl⟩
  rw [← hn] at hc1 ⊢
  obtain ⟨A, hA⟩ : ∃ A : Option Addr, A = if c = 1 then some ⟨g, 0, none⟩ else some ⟨g, 1, none⟩ := ⟨_, rfl⟩
  obtain ⟨m, hm⟩ : ∃ m, m = n - 1 := ⟨_, rfl⟩
  obtain ⟨c', hc'⟩ : ∃ c', c' = c - 1 := ⟨_, rfl⟩
  obtain ⟨i0, hi0, hz0, hz1, hz2⟩ := info_parts info_string
  have hsl : ∀ W : World, (Instr.slice 70 (.slice (some ⟨g, 0, none⟩) n c) (some (.int .i64 1)) none none).run Tryz.prog W = .ok (.slice A m c') W := by
    intro W
    have := cut_from (P := Tryz.prog) 70 9 .i64 Tryz.underlying70 hi0 1 hz1 (some ⟨g, 0, none⟩) n c 1 (by omega) (by rw [hn]; simp; omega) W
    rw [this, hA, hm, hc']
    by_cases h1 : c = 1
    · simp [h1]
    · simp [h1, Addr.add]
  have hrest : Rest w.heap.size w A r := fun hp => by
    have h1 : ¬ c = 1 := by intro e; rw [hn] at hc1; simp at hc1; omega
    exact ⟨g, 1, by rw [hA, if_neg h1], by omega, fun j y hy => by have := hcell (j + 1) y (by simpa using hy); rwa [Nat.add_comm j 1] at this⟩
  have hml : m = r.length := by rw [hm, hn]; simp
  have hmc : m ≤ c' := by omega
  have hc'2 : c' ≤ 9223372036854775807 := by omega
  have n1 : (0 : Int) < (n : Int) := by rw [hn]; simp
  obtain ⟨hf1, hf2, hf3, hf4⟩ := fields_suffix hkk
  obtain ⟨_, hfc⟩ := hE.word (kindOf x) hkk
  obtain ⟨k, hkx⟩ : ∃ k, k = kindOf x := ⟨_, rfl⟩
  rw [← hkx] at hf1 hf2 hf3 hf4 hfc hkk
  have hk0 : (k == 0) = false := by rw [beq_eq_false_iff_ne, hkx]; exact hk
  have hk1 := hkk.1
  have hk2 := hkk.2
  have h0w : 0 < w.heap.size := by omega
  have hgw : g < w.heap.size := by omega
  have HKX := Lib.hid hkx
  have HF1 := Lib.hid hf1
  have HF2 := Lib.hid hf2
  have HF3 := Lib.hid hf3
  have HML := Lib.hid hml
  have HC' := Lib.hid hc'
  have HR := Lib.hid hr
  clear hn hcell hA hm hc' hkx hf1 hf2 hf3 hml hr hk hkw hkk
  go_enter Tryz.func25, Tryz.ntmps25
  go_wp2_with fail
  refine (kindOf_any ⟨x.toArray⟩ _ (hE.below ((Below.refl _ _).alloc (Nat.le_refl _) _))).mono ?_
  rintro e w1 ⟨rfl, rfl⟩
  rw [← HKX.out]
  obtain ⟨P, hP⟩ : ∃ P, P = plain (fieldsOf k) := ⟨_, rfl⟩
  obtain ⟨L, hL⟩ : ∃ L, L = hasList (fieldsOf k) := ⟨_, rfl⟩
  have HCS := Lib.hid (show ∀ W, Calls Tryz.prog 57 #[.string ⟨(fieldsOf k).toArray⟩, .string ⟨#[76]⟩] W fun e w' => e = .returned (.tuple #[.string ⟨P.toArray⟩, .bool L]) ∧ w' = W from fun W => cutL hf4.2 (HF1.out.trans hP.symm) (HF2.out.trans hL.symm) W)
  have HST := Lib.hid (show stepOf (x :: r) = if r.length < P.length ∨ (¬ L ∧ P.length < r.length) then .error 263 else setAll (⟨k, 0, 0, [], [], []⟩ : POp) P r by
    rw [hP, hL, HKX.out]; simp only [stepOf]; rw [if_neg (by rw [← HKX.out]; exact fun e => by rw [e] at hk0; cases hk0)]; rfl)
  have HPF0 : ∀ c ∈ P, c = 78 ∨ c = 84 ∨ c = 65 ∨ c = 66 := by rw [hP]; exact HF3.out
  have hp3 : P.length ≤ 3 := by rw [hP]; exact hf4.1
  have HPF := Lib.hid HPF0
  clear HPF0
  have hO0 : OpBlk w.heap.size (w.heap.size + 1) (⟨k, 0, 0, [], [], []⟩ : POp) ((w.alloc (.cells zeroOp 44)).alloc (.cells #[.int .i64 k, .int .i64 0, .int .i64 0, .string ⟨#[]⟩, .string ⟨#[]⟩, .slice none 0 0] 44)) :=
    ⟨by omega, .slice none 0 0, by have := heap_alloc_new (w.alloc (.cells zeroOp 44)) (.cells #[.int .i64 k, .int .i64 0, .int .i64 0, .string ⟨#[]⟩, .string ⟨#[]⟩, .slice none 0 0] 44); simpa using this, own_nil _ _ _ _⟩
  have hZ0 : ((w.alloc (.cells zeroOp 44)).alloc (.cells #[.int .i64 k, .int .i64 0, .int .i64 0, .string ⟨#[]⟩, .string ⟨#[]⟩, .slice none 0 0] 44)).heap[w.heap.size]? = some (.cells zeroOp 44 (0, 0)) := by
    rw [Below.heap_alloc _ _ _ (by simp)]; exact heap_alloc_new w _
  have hB0 : Below w.heap.size w ((w.alloc (.cells zeroOp 44)).alloc (.cells #[.int .i64 k, .int .i64 0, .int .i64 0, .string ⟨#[]⟩, .string ⟨#[]⟩, .slice none 0 0] 44)) := ((Below.refl _ _).alloc (Nat.le_refl _) _).alloc (by simp) _
  have HO0 := Lib.hid hO0
  have HZ0 := Lib.hid hZ0
  have HB0 := Lib.hid hB0
  clear hP hL hO0 hZ0 hB0 hf4
  go_wp2_with fail
  refine (HCS.out _).mono ?_
  rintro e w1 ⟨rfl, rfl⟩
  by_cases hlt : m < P.length
  · have HR := Lib.hid (show stepOf (x :: r) = .error 263 by rw [HST.out, if_pos (Or.inl (by rw [← HML.out]; exact hlt))])
    have k1 : decide (m < P.length) = true := by simpa using hlt
    go_wp2_with fail
    exact bodyPost_ret (v := .tuple #[.agg zeroOp, .int .i64 263]) (by simp [results, Tryz.results25, go_sem, zeroOp]) rfl (StepPost.error HR.out HB0.out)
  have k1 : decide (m < P.length) = false := by simpa using hlt
  by_cases hgt : P.length < m ∧ L = false
  · obtain ⟨hgt, rfl⟩ := hgt
    have HR := Lib.hid (show stepOf (x :: r) = .error 263 by rw [HST.out, if_pos (Or.inr ⟨by simp, by rw [← HML.out]; exact hgt⟩)])
    have k2 : decide (P.length < m) = true := by simpa using hgt
    go_wp2_with fail
    exact bodyPost_ret (v := .tuple #[.agg zeroOp, .int .i64 263]) (by simp [results, Tryz.results25, go_sem, zeroOp]) rfl (StepPost.error HR.out HB0.out)
  have HST2 := Lib.hid (show stepOf (x :: r) = setAll (⟨k, 0, 0, [], [], []⟩ : POp) P r by
    rw [HST.out, if_neg]; rintro (h | ⟨h1, h2⟩)
    · exact hlt (by rw [HML.out]; exact h)
    · exact hgt ⟨by rw [HML.out]; exact h2, by simpa using h1⟩)
  have hpm : P.length ≤ m := by omega
  have hway : decide (P.length < m) = false ∨ (decide (P.length < m) = true ∧ L = true) := by
    by_cases h : P.length < m
    · refine Or.inr ⟨by simpa using h, ?_⟩
      cases L with
      | true => rfl
      | false => exact absurd ⟨h, rfl⟩ hgt
    · exact Or.inl (by simpa using h)
  clear hgt hlt HST
  obtain ⟨A2, hA2⟩ : ∃ A2 : Option Addr, A2 = if c' = P.length then A else A.map (·.add P.length) := ⟨_, rfl⟩
  obtain ⟨m2, hm2⟩ : ∃ m2, m2 = m - P.length := ⟨_, rfl⟩
  obtain ⟨c2, hc2'⟩ : ∃ c2, c2 = c' - P.length := ⟨_, rfl⟩
  have hsl2 : ∀ W : World, (Instr.slice 70 (.slice A m c') (some (.int .i64 (P.length : Int))) none none).run Tryz.prog W = .ok (.slice A2 m2 c2) W := by
    intro W
    have := cut_from (P := Tryz.prog) 70 9 .i64 Tryz.underlying70 hi0 1 hz1 A m c' (P.length : Int) (by omega) (by omega) W
    rw [this, hA2, hm2, hc2']
    simp
  have hrest2 : Rest w.heap.size w A2 (r.drop P.length) := fun hp => by
    rw [List.length_drop] at hp
    obtain ⟨g', o', e1, e2, e3⟩ := hrest (by omega)
    have h1 : ¬ c' = P.length := by have := HML.out; omega
    refine ⟨g', o' + P.length, ?_, e2, fun j y hy => ?_⟩
    · rw [hA2, if_neg h1, e1]
      unfold Addr.add
      by_cases h0 : P.length = 0
      · simp [h0]
      · simp [h0]
    · rw [List.getElem?_drop] at hy
      have := e3 _ y hy
      rwa [← Nat.add_assoc] at this
  have HM2 := Lib.hid (show m2 = (r.drop P.length).length by rw [List.length_drop, hm2, HML.out])
  have hmc2 : m2 ≤ c2 := by omega
  have hc2m : c2 ≤ 9223372036854775807 := by omega
  clear hA2 hm2 hc2'
  have HS0 := Lib.hid (show R1 w P (setAll (⟨k, 0, 0, [], [], []⟩ : POp) P r) r 0 (⟨k, 0, 0, [], [], []⟩ : POp) (((w.alloc (.cells zeroOp 44)).alloc (.cells #[.int .i64 k, .int .i64 0, .int .i64 0, .string ⟨#[]⟩, .string ⟨#[]⟩, .slice none 0 0] 44)).alloc (.stringIter ⟨P.toArray⟩ 0)) from
    ⟨HO0.out.below ((Below.refl _ _).alloc (Nat.le_refl _) _), by rw [Below.heap_alloc _ _ _ (by simp; omega)]; exact HZ0.out, by have := heap_alloc_new ((w.alloc (.cells zeroOp 44)).alloc (.cells #[.int .i64 k, .int .i64 0, .int .i64 0, .string ⟨#[]⟩, .string ⟨#[]⟩, .slice none 0 0] 44)) (.stringIter ⟨P.toArray⟩ 0); simpa using this,
      HB0.out.alloc (by simp; omega) _, by simp, rfl, Nat.zero_le _⟩)
  obtain ⟨tot, htot⟩ : ∃ tot, tot = setAll (⟨k, 0, 0, [], [], []⟩ : POp) P r := ⟨_, rfl⟩
  rw [← htot] at HST2 HS0
  clear htot HO0 HZ0 HB0 HKX HF1 HF2 HF3 HCS hfc
  have hEB := (hE.up (Nat.le_refl B) hE.le)
  have hEW : Env w.heap.size w := hE.up hE.le (Nat.le_refl _)
  clear hE hEB
  rcases hway with k2 | ⟨k2, rfl⟩
  all_goals
    go_wp2_with fail
    go_loopw [53] (fun _ wr => ∃ p o, R1 w P tot r p o wr) (fun _ wr => P.length - wr.iterPos (w.heap.size + 2))
    case atStart => exact ⟨0, _, HS0.out⟩
    case round =>
      obtain ⟨p, o, hR⟩ := hrel
      by_cases hlt : p < P.length
      · obtain ⟨f, hf⟩ : ∃ f, P[p]? = some f := ⟨P[p], List.getElem?_eq_getElem hlt⟩
        obtain ⟨y, hy⟩ : ∃ y, r[p]? = some y := ⟨r[p]'(by have := HML.out; omega), List.getElem?_eq_getElem _⟩
        have hff := HPF.out f (List.mem_of_getElem? hf)
        have hps : p < (⟨P.toArray⟩ : ByteArray).size := by rw [mk_size]; exact hlt
        have hpf : (⟨P.toArray⟩ : ByteArray)[p]'hps = f := list_at _ p f hf hps
        have hnx := fun ty => Lib.run_next_ascii_at (P := Tryz.prog) wr (w.heap.size + 2) ⟨P.toArray⟩ p ty hR.iter hps (by rw [hpf]; rcases hff with rfl | rfl | rfl | rfl <;> decide)
        rw [hpf] at hnx
        obtain ⟨g', o', rfl, hg', hcells⟩ := (hrest.keep hR.below) (by have := HML.out; omega)
        have hw1 : Below w.heap.size w (wr.iterAt (w.heap.size + 2) ⟨P.toArray⟩ (p + 1)) := Lib.below_iterAt hR.below (by omega) _ _
        have hyc : (wr.iterAt (w.heap.size + 2) ⟨P.toArray⟩ (p + 1)).cell? ⟨g', o' + p, none⟩ = some (.string ⟨y.toArray⟩) := ((Lib.below_iterAt (Below.refl _ _) (by omega) _ _ : Below w.heap.size wr _).cell (p := ⟨g', o' + p, none⟩) hg').trans (hcells p y hy)
        have HY := Lib.hid hy
        have HFF := Lib.hid hf
        have HT := Lib.hid hff
        clear hcells hy hf hff hpf
        go_wp2_with fail
        refine (set_any w.heap.size (w.heap.size + 1) o f (by rcases HT.out with h | h | h | h <;> simp [h]) ⟨y.toArray⟩ _ (by rw [mk_size]; exact HR.out y (List.mem_of_getElem? HY.out)) (hEW.belowB hw1) (hR.op.iterAt hR.iter) (by rw [hR.nolist]; simp)).mono ?_
        rintro e w2 hS
        have hz1 : (wr.iterAt (w.heap.size + 2) ⟨P.toArray⟩ (p + 1)).heap[w.heap.size]? = some (.cells zeroOp 44 (0, 0)) := (Lib.iterAt_other _ _ _ _ _ (by omega)).trans hR.zero
        have hi1 := Lib.iterAt_heap wr (w.heap.size + 2) ⟨P.toArray⟩ p (p + 1) hR.iter
        have hdp : P.drop p = f :: P.drop (p + 1) := Lib.drop_at HFF.out
        have hdr : r.drop p = y :: r.drop (p + 1) := Lib.drop_at HY.out
        have hsets := hR.sets
        rw [hdp, hdr] at hsets
        cases hset : setF o f y with
        | ok o' =>
          obtain ⟨rfl, hO2, hkp, hb2⟩ := SetPost.of_ok hS hset
          have HR1 := Lib.hid (show R1 w P tot r (p + 1) o' w2 from ⟨hO2, others_zero hkp (by omega) hz1, hkp.iter hi1 (by omega), hw1.trans hb2, by rw [← setAll_ok hset]; exact hsets, by rw [setF_list HT.out hset]; exact hR.nolist, hlt⟩)
          have hm1 := hR.iter
          clear hset hdp hdr hsets hz1 hi1 hS hO2 hkp hb2 hR hw1 hyc
          go_wp2_with fail
          go_roundw
          case rel => exact ⟨p + 1, o', HR1.out⟩
          case measure =>
            have h1 := iterPos_of hm1
            have h2 := iterPos_of HR1.out.iter
            show P.length - w2.iterPos (w.heap.size + 2) < P.length - wr.iterPos (w.heap.size + 2)
            omega
        | error c =>
          obtain ⟨rfl, hkp, hb2⟩ := SetPost.of_error hS hset
          have hcn := setF_codes hset
          obtain ⟨z0, z1, z2, z3, z4, z5, f0, f1, f2, f3, f4, f5⟩ := zero_cells (others_zero hkp (by omega) hz1)
          have hres := Lib.hid (show stepOf (x :: r) = .error c by rw [HST2.out, ← hsets]; exact setAll_error hset)
          clear hset hdp hdr hsets hz1 hi1 hS hkp hR hyc
          go_wp2_with fail
          exact bodyPost_ret (v := .tuple #[.agg zeroOp, .int .i64 c]) (by simp [results, Tryz.results25, go_sem, zeroOp, z0, z1, z2, z3, z4, z5]) rfl (StepPost.error hres.out (six_below (hw1.trans hb2) (Nat.le_refl _) _ _ _ _ _ _))
      · obtain rfl : p = P.length := by have := hR.le; omega
        have hnx := fun ty => Lib.run_next_end_at (P := Tryz.prog) wr (w.heap.size + 2) ⟨P.toArray⟩ P.length ty hR.iter (by rw [mk_size]; omega)
        have HS2 := Lib.hid (show R2 w tot (r.drop P.length) 0 o wr from ⟨hR.op, hR.zero, hR.below, by have := hR.sets; rw [List.drop_length] at this; simpa using this, by rw [hR.nolist]; rfl, Nat.zero_le _⟩)
        clear hR hlt
        go_wp2_with fail
        go_loopw [72] (fun v wr => ∃ (q : Nat) (o : POp), v = .int .i64 (q : Int) ∧ R2 w tot (r.drop P.length) q o wr) (fun v _ => m2 - (intOf v).toNat)
        case atStart => exact ⟨0, _, rfl, HS2.out⟩
        case round =>
          obtain ⟨q, o, rfl, hR⟩ := hrel
          have hql := hR.le
          by_cases hlt : q < m2
          · obtain ⟨y, hy⟩ : ∃ y, (r.drop P.length)[q]? = some y := ⟨(r.drop P.length)[q]'(by have := HM2.out; omega), List.getElem?_eq_getElem _⟩
            obtain ⟨g', o', rfl, hg', hcells⟩ := (hrest2.keep hR.below) (by have := HM2.out; omega)
            have hyc := hcells q y hy
            have HY := Lib.hid hy
            have hdr : (r.drop P.length).drop q = y :: (r.drop P.length).drop (q + 1) := Lib.drop_at hy
            have HDR := Lib.hid hdr
            have hr2 : r.length ≤ 33554432 := hrl
            have hqr : q ≤ 33554432 := by rw [List.length_drop] at hql; omega
            clear hcells hy hdr
            go_wp2_with fail
            refine (set_any w.heap.size (w.heap.size + 1) o 76 (by simp) ⟨y.toArray⟩ _ (by rw [mk_size]; exact HR.out y (List.mem_of_mem_drop (List.mem_of_getElem? HY.out))) (hEW.belowB hR.below) hR.op (by rw [hR.len]; exact hqr)).mono ?_
            rintro e w2 hS
            have hsets := hR.sets
            rw [HDR.out] at hsets
            cases hset : setF o 76 y with
            | ok o' =>
              obtain ⟨rfl, hO2, hkp, hb2⟩ := SetPost.of_ok hS hset
              have HR1 := Lib.hid (show R2 w tot (r.drop P.length) (q + 1) o' w2 from ⟨hO2, others_zero hkp (by omega) hR.zero, hR.below.trans hb2, by rw [← setAll_ok0 hset]; exact hsets, by rw [setF_list76 hset, hR.len], by have := HM2.out; omega⟩)
              clear hset hsets hS hO2 hkp hb2 hR hyc
              go_wp2_with fail
              go_roundw
              case rel => exact ⟨q + 1, o', by go_num, HR1.out⟩
              case measure => simp [intOf]; omega
            | error c =>
              obtain ⟨rfl, hkp, hb2⟩ := SetPost.of_error hS hset
              have hcn := setF_codes hset
              obtain ⟨z0, z1, z2, z3, z4, z5, f0, f1, f2, f3, f4, f5⟩ := zero_cells (others_zero hkp (by omega) hR.zero)
              have hres := Lib.hid (show stepOf (x :: r) = .error c by rw [HST2.out, ← hsets]; exact setAll_error0 hset)
              have HBW := Lib.hid (hR.below.trans hb2)
              clear hset hsets hS hkp hR hyc hb2
              go_wp2_with fail
              exact bodyPost_ret (v := .tuple #[.agg zeroOp, .int .i64 c]) (by simp [results, Tryz.results25, go_sem, zeroOp, z0, z1, z2, z3, z4, z5]) rfl (StepPost.error hres.out (six_below HBW.out (Nat.le_refl _) _ _ _ _ _ _))
          · obtain ⟨z0, z1, z2, z3, z4, z5, f0, f1, f2, f3, f4, f5⟩ := zero_cells hR.zero
            have hres := Lib.hid (show stepOf (x :: r) = .ok o by
              rw [HST2.out, ← hR.sets, List.drop_of_length_le (by have := HM2.out; omega)]; rfl)
            obtain ⟨_, lv, hb, hown⟩ := hR.op
            have hbw := hR.below
            obtain ⟨a0, a1, a2, a3, a4, a5⟩ := op_cells hb
            have hfin := Lib.hid (show ∀ u0 u1 u2 u3 u4 u5 : Value, ((((((wr.setCell ⟨w.heap.size, 0, none⟩ u0).setCell ⟨w.heap.size, 1, none⟩ u1).setCell ⟨w.heap.size, 2, none⟩ u2).setCell ⟨w.heap.size, 3, none⟩ u3).setCell ⟨w.heap.size, 4, none⟩ u4).setCell ⟨w.heap.size, 5, none⟩ u5).ownsRow w.heap.size 3 1 lv o.list.length (nums .i64 o.list) from
              fun u0 u1 u2 u3 u4 u5 => six_own hR.zero hown u0 u1 u2 u3 u4 u5)
            obtain ⟨A3, c3, rfl⟩ := own_slice hown
            clear hown hb hR
            go_wp2_with fail
            exact bodyPost_ret (v := .tuple #[.agg #[.int .i64 o.kind, .int .i64 o.a, .int .i64 o.b, .string ⟨o.name.toArray⟩, .string ⟨o.text.toArray⟩, .slice A3 o.list.length c3], .int .i64 0]) (by simp [results, Tryz.results25, go_sem, z0, z1, z2, z3, z4, z5]) rfl (StepPost.ok hres.out (hfin.out _ _ _ _ _ _) (six_below hbw (Nat.le_refl _) _ _ _ _ _ _))
end Go.Proofs.YtbpackopicngmaaGreatDoor
