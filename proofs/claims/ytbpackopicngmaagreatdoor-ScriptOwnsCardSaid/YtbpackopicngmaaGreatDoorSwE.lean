/- Walks, part E: a word read into its field. -/
import Derived.Test.YtbpackopicngmaaGreatDoorSwD
import Derived.Test.YtbpackopicngmaaGreatDoorWWords
import Derived.Lib.OthersKept
namespace Go.Proofs.YtbpackopicngmaaGreatDoor
open Go.RowKit Go.Proofs.Sc Go.Proofs.YtbpackopicngmaaGreatDoorW.PrintWords

/-- A step under way in block b of the call's own: its six cells, its list in a row of the call's own. -/
def OpBlk (B b : Nat) (o : POp) (w : World) : Prop :=
  B ≤ b ∧ ∃ lv, w.heap[b]? = some (.cells #[.int .i64 o.kind, .int .i64 o.a, .int .i64 o.b, .string ⟨o.name.toArray⟩, .string ⟨o.text.toArray⟩, lv] 44 (0, 0)) ∧ w.ownsRow B 3 1 lv o.list.length (nums .i64 o.list)

theorem OpBlk.lt {B b : Nat} {o : POp} {w : World} (h : OpBlk B b o w) : b < w.heap.size := by
  obtain ⟨_, lv, hb, _⟩ := h
  exact (Array.getElem?_eq_some_iff.1 hb).1

theorem OpBlk.below {B b : Nat} {o : POp} {w w' : World} (h : OpBlk B b o w) (hb : Below w.heap.size w w') : OpBlk B b o w' := by
  have hlt := h.lt
  obtain ⟨h0, lv, h1, h2⟩ := h
  exact ⟨h0, lv, (hb.block b hlt).trans h1, pw_own_below h2 hb⟩

/-- What set leaves: the step, or an error; of what was there block b and rows of whole numbers alone have turned. -/
def SetPost (B b : Nat) (o : POp) (f : UInt8) (s : By) (w : World) (e : Ending) (w' : World) : Prop :=
  (match setF o f s with
   | .ok o' => e = .returned (.int .i64 0) ∧ OpBlk B b o' w'
   | .error c => e = .returned (.int .i64 c)) ∧ Lib.OthersKept 3 (some b) w w' ∧ Below B w w'

theorem others_below {e : TypeId} {b : Option Nat} {w w' : World} (h : Below w.heap.size w w') : Lib.OthersKept e b w w' := by
  intro k o ho _ _
  rw [h.block k (Array.getElem?_eq_some_iff.1 ho).1]; exact ho

theorem info_int : (Tryz.prog.info? 3).map (fun i => (i.zero, i.size, i.bytes)) = some (some (.int .i64 0), 1, 8) := by kernel_rfl

theorem own_set {B b i : Nat} {lv : Value} {n : Nat} {xs : List Value} {w : World} {cs : Array Value} (hb : w.heap[b]? = some (.cells cs 44 (0, 0))) (ho : w.ownsRow B 3 1 lv n xs) (u : Value) : (w.setCell ⟨b, i, none⟩ u).ownsRow B 3 1 lv n xs :=
  own_setCell ho (own_ne ho hb (by decide)) u

theorem OpBlk.name {B b : Nat} {o : POp} {w : World} (h : OpBlk B b o w) (t : By) : OpBlk B b { o with name := t } (w.setCell ⟨b, 3, none⟩ (.string ⟨t.toArray⟩)) := by
  obtain ⟨h0, lv, h1, h2⟩ := h
  exact ⟨h0, lv, (blk_set h1 3 _).trans (by simp), own_set h1 h2 _⟩
theorem OpBlk.text {B b : Nat} {o : POp} {w : World} (h : OpBlk B b o w) (t : By) : OpBlk B b { o with text := t } (w.setCell ⟨b, 4, none⟩ (.string ⟨t.toArray⟩)) := by
  obtain ⟨h0, lv, h1, h2⟩ := h
  exact ⟨h0, lv, (blk_set h1 4 _).trans (by simp), own_set h1 h2 _⟩
theorem OpBlk.a {B b : Nat} {o : POp} {w : World} (h : OpBlk B b o w) (t : Int) : OpBlk B b { o with a := t } (w.setCell ⟨b, 1, none⟩ (.int .i64 t)) := by
  obtain ⟨h0, lv, h1, h2⟩ := h
  exact ⟨h0, lv, (blk_set h1 1 _).trans (by simp), own_set h1 h2 _⟩
theorem OpBlk.b {B b : Nat} {o : POp} {w : World} (h : OpBlk B b o w) (t : Int) : OpBlk B b { o with b := t } (w.setCell ⟨b, 2, none⟩ (.int .i64 t)) := by
  obtain ⟨h0, lv, h1, h2⟩ := h
  exact ⟨h0, lv, (blk_set h1 2 _).trans (by simp), own_set h1 h2 _⟩

theorem setF_ok78 {o : POp} {s t : By} (h : unescape s = some t) : setF o 78 s = .ok { o with name := t } := by simp [setF, h]
theorem setF_no78 {o : POp} {s : By} (h : unescape s = none) : setF o 78 s = .error 265 := by simp [setF, h]
theorem setF_ok84 {o : POp} {s t : By} (h : unescape s = some t) : setF o 84 s = .ok { o with text := t } := by simp [setF, h]
theorem setF_no84 {o : POp} {s : By} (h : unescape s = none) : setF o 84 s = .error 265 := by simp [setF, h]

theorem SetPost.ok {B b : Nat} {o o' : POp} {f : UInt8} {s : By} {w w' : World} (h : setF o f s = .ok o') (hO : OpBlk B b o' w') (hk : Lib.OthersKept 3 (some b) w w') (hb : Below B w w') : SetPost B b o f s w (.returned (.int .i64 0)) w' := by
  unfold SetPost; rw [h]; exact ⟨⟨rfl, hO⟩, hk, hb⟩
theorem SetPost.error {B b : Nat} {o : POp} {f : UInt8} {s : By} {w w' : World} {c : Int} (h : setF o f s = .error c) (hk : Lib.OthersKept 3 (some b) w w') (hb : Below B w w') : SetPost B b o f s w (.returned (.int .i64 c)) w' := by
  unfold SetPost; rw [h]; exact ⟨rfl, hk, hb⟩

set_option maxHeartbeats 2000000 in
theorem set_bytes (B b : Nat) (o : POp) (f : UInt8) (hf : f = 78 ∨ f = 84) (s : ByteArray) (w : World) (hs : s.size ≤ 33554432) (hE : Env B w) (hO : OpBlk B b o w) :
    Calls Tryz.prog 58 #[.pointer (some ⟨b, 0, none⟩), .int .i32 f.toNat, .string s] w (SetPost B b o f s.data.toList w) := by
  have hB := hE.le
  have hbB := hO.1
  rcases hf with rfl | rfl
  · go_enter Tryz.func58, Tryz.ntmps58
    go_wp2_with fail
    refine (Unescape_any s _ hs).mono ?_
    rintro e w1 ⟨rfl, hw1⟩
    have hO1 := hO.below hw1
    obtain ⟨_, lv, hb, _⟩ := hO1
    have hc0 : w1.cell? ⟨b, 3, none⟩ = some (.string ⟨o.name.toArray⟩) := by rw [blk_cell hb]; rfl
    have hf0 : w1.frozen? ⟨b, 3, none⟩ = false := blk_frozen hb 3
    clear hb
    cases hu : unescape s.data.toList with
    | none =>
      rw [unRes_none hu]
      have HU := Lib.hid (setF_no78 (o := o) hu)
      clear hu
      go_wp2_with fail
      go_ret
      exact SetPost.error HU.out ((others_below hw1).setCell ⟨b, _, none⟩ rfl _) ((hw1.mono hB).setCell hbB _)
    | some t =>
      rw [unRes_some hu]
      have HU := Lib.hid (setF_ok78 (o := o) hu)
      clear hu
      go_wp2_with fail
      go_ret
      exact SetPost.ok HU.out ((hO.below hw1).name t) ((others_below hw1).setCell ⟨b, _, none⟩ rfl _) ((hw1.mono hB).setCell hbB _)
  · go_enter Tryz.func58, Tryz.ntmps58
    go_wp2_with fail
    refine (Unescape_any s _ hs).mono ?_
    rintro e w1 ⟨rfl, hw1⟩
    have hO1 := hO.below hw1
    obtain ⟨_, lv, hb, _⟩ := hO1
    have hc0 : w1.cell? ⟨b, 4, none⟩ = some (.string ⟨o.text.toArray⟩) := by rw [blk_cell hb]; rfl
    have hf0 : w1.frozen? ⟨b, 4, none⟩ = false := blk_frozen hb 4
    clear hb
    cases hu : unescape s.data.toList with
    | none =>
      rw [unRes_none hu]
      have HU := Lib.hid (setF_no84 (o := o) hu)
      clear hu
      go_wp2_with fail
      go_ret
      exact SetPost.error HU.out ((others_below hw1).setCell ⟨b, _, none⟩ rfl _) ((hw1.mono hB).setCell hbB _)
    | some t =>
      rw [unRes_some hu]
      have HU := Lib.hid (setF_ok84 (o := o) hu)
      clear hu
      go_wp2_with fail
      go_ret
      exact SetPost.ok HU.out ((hO.below hw1).text t) ((others_below hw1).setCell ⟨b, _, none⟩ rfl _) ((hw1.mono hB).setCell hbB _)

theorem setF_num {o : POp} {f : UInt8} {s : By} {n : Int} (h1 : f ≠ 78) (h2 : f ≠ 84) (h : numR s = some n) : setF o f s = if f = 65 then .ok { o with a := n } else if f = 66 then .ok { o with b := n } else .ok { o with list := o.list ++ [n] } := by
  unfold setF; rw [if_neg h1, if_neg h2, h]
theorem setF_nonum {o : POp} {f : UInt8} {s : By} (h1 : f ≠ 78) (h2 : f ≠ 84) (h : numR s = none) : setF o f s = .error 262 := by
  unfold setF; rw [if_neg h1, if_neg h2, h]

set_option maxHeartbeats 2000000 in
theorem set_ab (B b : Nat) (o : POp) (f : UInt8) (hf : f = 65 ∨ f = 66 ∨ f = 76) (s : ByteArray) (w : World) (hs : s.size ≤ 33554432) (hE : Env B w) (hO : OpBlk B b o w) (hl : o.list.length ≤ 33554432) :
    Calls Tryz.prog 58 #[.pointer (some ⟨b, 0, none⟩), .int .i32 f.toNat, .string s] w (SetPost B b o f s.data.toList w) := by
  have hB := hE.le
  have hbB := hO.1
  cases hn : numR s.data.toList with
  | none =>
    have HU := Lib.hid (setF_nonum (o := o) (f := f) (by rcases hf with rfl | rfl | rfl <;> decide) (by rcases hf with rfl | rfl | rfl <;> decide) hn)
    have HN := Lib.hid hn
    clear hn
    rcases hf with rfl | rfl | rfl
    all_goals
      go_enter Tryz.func58, Tryz.ntmps58
      go_wp2_with fail
      refine (number_bad s hs HN.out _ hE).mono ?_
      rintro e w1 ⟨⟨v, rfl⟩, hw1⟩
      go_wp2_with fail
      go_ret
      exact SetPost.error HU.out (others_below hw1) (hw1.mono hB)
  | some n =>
    have HN := Lib.hid hn
    rcases hf with rfl | rfl | rfl
    · have HU := Lib.hid ((setF_num (o := o) (f := 65) (by decide) (by decide) hn).trans (if_pos rfl))
      clear hn
      go_enter Tryz.func58, Tryz.ntmps58
      go_wp2_with fail
      refine (number_ok s hs n HN.out _ hE).mono ?_
      rintro e w1 ⟨rfl, hw1⟩
      have hO1 := hO.below hw1
      obtain ⟨_, lv, hb, _⟩ := hO1
      have hc0 : w1.cell? ⟨b, 1, none⟩ = some (.int .i64 o.a) := by rw [blk_cell hb]; rfl
      have hf0 : w1.frozen? ⟨b, 1, none⟩ = false := blk_frozen hb 1
      clear hb
      go_wp2_with fail
      go_ret
      exact SetPost.ok HU.out ((hO.below hw1).a n) ((others_below hw1).setCell ⟨b, _, none⟩ rfl _) ((hw1.mono hB).setCell hbB _)
    · have HU := Lib.hid ((setF_num (o := o) (f := 66) (by decide) (by decide) hn).trans ((if_neg (by decide)).trans (if_pos rfl)))
      clear hn
      go_enter Tryz.func58, Tryz.ntmps58
      go_wp2_with fail
      refine (number_ok s hs n HN.out _ hE).mono ?_
      rintro e w1 ⟨rfl, hw1⟩
      have hO1 := hO.below hw1
      obtain ⟨_, lv, hb, _⟩ := hO1
      have hc0 : w1.cell? ⟨b, 2, none⟩ = some (.int .i64 o.b) := by rw [blk_cell hb]; rfl
      have hf0 : w1.frozen? ⟨b, 2, none⟩ = false := blk_frozen hb 2
      clear hb
      go_wp2_with fail
      go_ret
      exact SetPost.ok HU.out ((hO.below hw1).b n) ((others_below hw1).setCell ⟨b, _, none⟩ rfl _) ((hw1.mono hB).setCell hbB _)
    · have HU := Lib.hid ((setF_num (o := o) (f := 76) (by decide) (by decide) hn).trans ((if_neg (by decide)).trans (if_neg (by decide))))
      clear hn
      go_enter Tryz.func58, Tryz.ntmps58
      go_wp2_with fail
      refine (number_ok s hs n HN.out _ hE).mono ?_
      rintro e w1 ⟨rfl, hw1⟩
      have hO1 := hO.below hw1
      have hlt := hO1.lt
      obtain ⟨_, lv, hb, hown⟩ := hO1
      have hc0 : w1.cell? ⟨b, 5, none⟩ = some lv := by rw [blk_cell hb]; rfl
      go_wp2_with (at_builtin; refine print_append_num (w0 := w) B rfl (.tmp 43) (.tmp 45) 42 3 .i64 8 rfl Tryz.underlying42 info_int (by decide) lv o.list n rfl rfl hown (hw1.mono hB) (Nat.le_trans hB hw1.size) (by omega) ?_)
      intro v1 w2 hown1 hBw hg hat
      have hbo : some b ≠ lv.ownBlock := own_ne hown hb (by decide)
      have hb2 := blk_grown hb hg hbo
      have hkk : Lib.OthersKept 3 (some b) w w2 := (others_below hw1).grown hg (fun k hk => let ⟨c, h⟩ := own_typed hown k hk; ⟨c, _, h⟩)
      obtain ⟨A1, c1, rfl⟩ := own_slice hown1
      have hc1 : w2.cell? ⟨b, 5, none⟩ = some lv := by rw [blk_cell hb2]; rfl
      have hf1 : w2.frozen? ⟨b, 5, none⟩ = false := blk_frozen hb2 5
      have hfin := Lib.hid (show OpBlk B b { o with list := o.list ++ [n] } (w2.setCell ⟨b, 5, none⟩ (.slice A1 (o.list.length + 1) c1)) from
        ⟨hbB, .slice A1 (o.list.length + 1) c1, (blk_set hb2 5 _).trans (by simp), by have := own_set (i := 5) hb2 hown1 (.slice A1 (o.list.length + 1) c1); simpa using this⟩)
      clear hown hb hown1 hb2 hat hbo hc0 hg
      go_wp2_with fail
      go_ret
      exact SetPost.ok HU.out hfin.out (hkk.setCell ⟨b, _, none⟩ rfl _) (hBw.setCell hbB _)

theorem set_any (B b : Nat) (o : POp) (f : UInt8) (hf : f = 78 ∨ f = 84 ∨ f = 65 ∨ f = 66 ∨ f = 76) (s : ByteArray) (w : World) (hs : s.size ≤ 33554432) (hE : Env B w) (hO : OpBlk B b o w) (hl : o.list.length ≤ 33554432) :
    Calls Tryz.prog 58 #[.pointer (some ⟨b, 0, none⟩), .int .i32 f.toNat, .string s] w (SetPost B b o f s.data.toList w) := by
  rcases hf with h | h | h
  · exact set_bytes B b o f (Or.inl h) s w hs hE hO
  · exact set_bytes B b o f (Or.inr h) s w hs hE hO
  · exact set_ab B b o f h s w hs hE hO hl
end Go.Proofs.YtbpackopicngmaaGreatDoor
