/- ScriptOwns: OwTU OwTW OwTH OwTG, merged by gen/merge2.py. -/
import Derived.Test.YtbpackopicngmaaGreatDoorOwX
import Derived.Test.YtbpackopicngmaaGreatDoorProg
namespace Go.Proofs.YtbpackopicngmaaGreatDoor
open Go.RowKit Go.Proofs.Sc Go.Proofs.YtbpackopicngmaaGreatDoorW.PrintWords

variable {B kb : Nat} {f : Nat → Nat} {p : Int} {w : World}

set_option maxHeartbeats 1000000 in
theorem triv_bytesUntouched (h : Bk B kb f p w) : Calls Tryz.prog 70 #[.pointer (some ⟨kb, 0, none⟩)] w fun e w' => e = .returned (.bool true) ∧ w' = w := by
  have c := h.free 2 (by omega)
  clear h
  go_enter Tryz.func70, Tryz.ntmps70
  go_wp2_with fail
  go_loopw [3] (fun v wr => v = .int .i64 0 ∧ wr = w) (fun _ _ => 0)
  case atStart => exact ⟨rfl, rfl⟩
  case round =>
    obtain ⟨rfl, rfl⟩ := hrel
    go_wp2_with fail
    go_ret
    exact ⟨rfl, rfl⟩

set_option maxHeartbeats 1000000 in
theorem triv_boolsUntouched (h : Bk B kb f p w) : Calls Tryz.prog 72 #[.pointer (some ⟨kb, 0, none⟩)] w fun e w' => e = .returned (.bool true) ∧ w' = w := by
  have c := h.free 8 (by omega)
  clear h
  go_enter Tryz.func72, Tryz.ntmps72
  go_wp2_with fail
  go_loopw [3] (fun v wr => v = .int .i64 0 ∧ wr = w) (fun _ _ => 0)
  case atStart => exact ⟨rfl, rfl⟩
  case round =>
    obtain ⟨rfl, rfl⟩ := hrel
    go_wp2_with fail
    go_ret
    exact ⟨rfl, rfl⟩

set_option maxHeartbeats 1000000 in
theorem triv_textsUntouched (h : Bk B kb f p w) : Calls Tryz.prog 73 #[.pointer (some ⟨kb, 0, none⟩)] w fun e w' => e = .returned (.bool true) ∧ w' = w := by
  have c := h.free 11 (by omega)
  clear h
  go_enter Tryz.func73, Tryz.ntmps73
  go_wp2_with fail
  go_loopw [3] (fun v wr => v = .int .i64 0 ∧ wr = w) (fun _ _ => 0)
  case atStart => exact ⟨rfl, rfl⟩
  case round =>
    obtain ⟨rfl, rfl⟩ := hrel
    go_wp2_with fail
    go_ret
    exact ⟨rfl, rfl⟩

set_option maxHeartbeats 1000000 in
theorem triv_complexesUntouched (h : Bk B kb f p w) : Calls Tryz.prog 74 #[.pointer (some ⟨kb, 0, none⟩)] w fun e w' => e = .returned (.bool true) ∧ w' = w := by
  have c := h.free 14 (by omega)
  clear h
  go_enter Tryz.func74, Tryz.ntmps74
  go_wp2_with fail
  go_loopw [3] (fun v wr => v = .int .i64 0 ∧ wr = w) (fun _ _ => 0)
  case atStart => exact ⟨rfl, rfl⟩
  case round =>
    obtain ⟨rfl, rfl⟩ := hrel
    go_wp2_with fail
    go_ret
    exact ⟨rfl, rfl⟩

set_option maxHeartbeats 1000000 in
theorem triv_byteListsUntouched (h : Bk B kb f p w) : Calls Tryz.prog 75 #[.pointer (some ⟨kb, 0, none⟩)] w fun e w' => e = .returned (.bool true) ∧ w' = w := by
  have c := h.free 17 (by omega)
  clear h
  go_enter Tryz.func75, Tryz.ntmps75
  go_wp2_with fail
  go_loopw [3] (fun v wr => v = .int .i64 0 ∧ wr = w) (fun _ _ => 0)
  case atStart => exact ⟨rfl, rfl⟩
  case round =>
    obtain ⟨rfl, rfl⟩ := hrel
    go_wp2_with fail
    go_ret
    exact ⟨rfl, rfl⟩

set_option maxHeartbeats 1000000 in
theorem triv_intListsUntouched (h : Bk B kb f p w) : Calls Tryz.prog 76 #[.pointer (some ⟨kb, 0, none⟩)] w fun e w' => e = .returned (.bool true) ∧ w' = w := by
  have c := h.free 20 (by omega)
  clear h
  go_enter Tryz.func76, Tryz.ntmps76
  go_wp2_with fail
  go_loopw [3] (fun v wr => v = .int .i64 0 ∧ wr = w) (fun _ _ => 0)
  case atStart => exact ⟨rfl, rfl⟩
  case round =>
    obtain ⟨rfl, rfl⟩ := hrel
    go_wp2_with fail
    go_ret
    exact ⟨rfl, rfl⟩

set_option maxHeartbeats 1000000 in
theorem triv_pairsUntouched (h : Bk B kb f p w) : Calls Tryz.prog 77 #[.pointer (some ⟨kb, 0, none⟩)] w fun e w' => e = .returned (.bool true) ∧ w' = w := by
  have c := h.free 23 (by omega)
  clear h
  go_enter Tryz.func77, Tryz.ntmps77
  go_wp2_with fail
  go_loopw [3] (fun v wr => v = .int .i64 0 ∧ wr = w) (fun _ _ => 0)
  case atStart => exact ⟨rfl, rfl⟩
  case round =>
    obtain ⟨rfl, rfl⟩ := hrel
    go_wp2_with fail
    go_ret
    exact ⟨rfl, rfl⟩

set_option maxHeartbeats 1000000 in
theorem triv_changesUntouched (h : Bk B kb f p w) : Calls Tryz.prog 78 #[.pointer (some ⟨kb, 0, none⟩)] w fun e w' => e = .returned (.bool true) ∧ w' = w := by
  have c := h.free 26 (by omega)
  clear h
  go_enter Tryz.func78, Tryz.ntmps78
  go_wp2_with fail
  go_loopw [3] (fun v wr => v = .int .i64 0 ∧ wr = w) (fun _ _ => 0)
  case atStart => exact ⟨rfl, rfl⟩
  case round =>
    obtain ⟨rfl, rfl⟩ := hrel
    go_wp2_with fail
    go_ret
    exact ⟨rfl, rfl⟩

set_option maxHeartbeats 1000000 in
theorem triv_infosUntouched (h : Bk B kb f p w) : Calls Tryz.prog 79 #[.pointer (some ⟨kb, 0, none⟩)] w fun e w' => e = .returned (.bool true) ∧ w' = w := by
  have c := h.free 29 (by omega)
  clear h
  go_enter Tryz.func79, Tryz.ntmps79
  go_wp2_with fail
  go_loopw [3] (fun v wr => v = .int .i64 0 ∧ wr = w) (fun _ _ => 0)
  case atStart => exact ⟨rfl, rfl⟩
  case round =>
    obtain ⟨rfl, rfl⟩ := hrel
    go_wp2_with fail
    go_ret
    exact ⟨rfl, rfl⟩

set_option maxHeartbeats 1000000 in
theorem triv_nodesUntouched (h : Bk B kb f p w) : Calls Tryz.prog 80 #[.pointer (some ⟨kb, 0, none⟩)] w fun e w' => e = .returned (.bool true) ∧ w' = w := by
  have c := h.free 32 (by omega)
  clear h
  go_enter Tryz.func80, Tryz.ntmps80
  go_wp2_with fail
  go_loopw [3] (fun v wr => v = .int .i64 0 ∧ wr = w) (fun _ _ => 0)
  case atStart => exact ⟨rfl, rfl⟩
  case round =>
    obtain ⟨rfl, rfl⟩ := hrel
    go_wp2_with fail
    go_ret
    exact ⟨rfl, rfl⟩

set_option maxHeartbeats 1000000 in
theorem triv_shellsUntouched (h : Bk B kb f p w) : Calls Tryz.prog 81 #[.pointer (some ⟨kb, 0, none⟩)] w fun e w' => e = .returned (.bool true) ∧ w' = w := by
  have c := h.free 35 (by omega)
  clear h
  go_enter Tryz.func81, Tryz.ntmps81
  go_wp2_with fail
  go_loopw [3] (fun v wr => v = .int .i64 0 ∧ wr = w) (fun _ _ => 0)
  case atStart => exact ⟨rfl, rfl⟩
  case round =>
    obtain ⟨rfl, rfl⟩ := hrel
    go_wp2_with fail
    go_ret
    exact ⟨rfl, rfl⟩

set_option maxHeartbeats 1000000 in
theorem triv_listsUntouched (h : Bk B kb f p w) : Calls Tryz.prog 82 #[.pointer (some ⟨kb, 0, none⟩)] w fun e w' => e = .returned (.bool true) ∧ w' = w := by
  have c := h.free 38 (by omega)
  clear h
  go_enter Tryz.func82, Tryz.ntmps82
  go_wp2_with fail
  go_loopw [3] (fun v wr => v = .int .i64 0 ∧ wr = w) (fun _ _ => 0)
  case atStart => exact ⟨rfl, rfl⟩
  case round =>
    obtain ⟨rfl, rfl⟩ := hrel
    go_wp2_with fail
    go_ret
    exact ⟨rfl, rfl⟩

set_option maxHeartbeats 1000000 in
theorem triv_framesUntouched (h : Bk B kb f p w) : Calls Tryz.prog 83 #[.pointer (some ⟨kb, 0, none⟩)] w fun e w' => e = .returned (.bool true) ∧ w' = w := by
  have c := h.free 41 (by omega)
  clear h
  go_enter Tryz.func83, Tryz.ntmps83
  go_wp2_with fail
  go_loopw [3] (fun v wr => v = .int .i64 0 ∧ wr = w) (fun _ _ => 0)
  case atStart => exact ⟨rfl, rfl⟩
  case round =>
    obtain ⟨rfl, rfl⟩ := hrel
    go_wp2_with fail
    go_ret
    exact ⟨rfl, rfl⟩

set_option maxHeartbeats 1000000 in
theorem triv_filesUntouched (h : Bk B kb f p w) : Calls Tryz.prog 84 #[.pointer (some ⟨kb, 0, none⟩)] w fun e w' => e = .returned (.bool true) ∧ w' = w := by
  have c := h.free 44 (by omega)
  clear h
  go_enter Tryz.func84, Tryz.ntmps84
  go_wp2_with fail
  go_loopw [3] (fun v wr => v = .int .i64 0 ∧ wr = w) (fun _ _ => 0)
  case atStart => exact ⟨rfl, rfl⟩
  case round =>
    obtain ⟨rfl, rfl⟩ := hrel
    go_wp2_with fail
    go_ret
    exact ⟨rfl, rfl⟩

set_option maxHeartbeats 1000000 in
theorem triv_passesUntouched (h : Bk B kb f p w) : Calls Tryz.prog 85 #[.pointer (some ⟨kb, 0, none⟩)] w fun e w' => e = .returned (.bool true) ∧ w' = w := by
  have c := h.free 47 (by omega)
  clear h
  go_enter Tryz.func85, Tryz.ntmps85
  go_wp2_with fail
  go_loopw [3] (fun v wr => v = .int .i64 0 ∧ wr = w) (fun _ _ => 0)
  case atStart => exact ⟨rfl, rfl⟩
  case round =>
    obtain ⟨rfl, rfl⟩ := hrel
    go_wp2_with fail
    go_ret
    exact ⟨rfl, rfl⟩
end Go.Proofs.YtbpackopicngmaaGreatDoor
namespace Go.Proofs.YtbpackopicngmaaGreatDoor
open Go.RowKit Go.Proofs.Sc Go.Proofs.YtbpackopicngmaaGreatDoorW.PrintWords

variable {B kb : Nat} {f : Nat → Nat} {p : Int} {w : World}

set_option maxHeartbeats 1000000 in
theorem triv_bytesWrite (h : Bk B kb f p w) (a : Int) : Calls Tryz.prog 87 #[.pointer (some ⟨kb, 0, none⟩), .int .i64 a] w fun e w' => e = .returned (.int .i64 a) ∧ w' = w := by
  have c := h.free 2 (by omega)
  clear h
  go_enter Tryz.func87, Tryz.ntmps87
  go_wp2_with fail
  go_loopw [1, 5] (fun x v wr => x = .int .i64 a ∧ v = .int .i64 0 ∧ wr = w) (fun _ _ _ => 0)
  case atStart => exact ⟨rfl, rfl, rfl⟩
  case round =>
    obtain ⟨rfl, rfl, rfl⟩ := hrel
    go_wp2_with fail
    go_ret
    exact ⟨rfl, rfl⟩

set_option maxHeartbeats 1000000 in
theorem triv_boolsWrite (h : Bk B kb f p w) (a : Int) : Calls Tryz.prog 89 #[.pointer (some ⟨kb, 0, none⟩), .int .i64 a] w fun e w' => e = .returned (.int .i64 a) ∧ w' = w := by
  have c := h.free 8 (by omega)
  clear h
  go_enter Tryz.func89, Tryz.ntmps89
  go_wp2_with fail
  go_loopw [1, 5] (fun x v wr => x = .int .i64 a ∧ v = .int .i64 0 ∧ wr = w) (fun _ _ _ => 0)
  case atStart => exact ⟨rfl, rfl, rfl⟩
  case round =>
    obtain ⟨rfl, rfl, rfl⟩ := hrel
    go_wp2_with fail
    go_ret
    exact ⟨rfl, rfl⟩

set_option maxHeartbeats 1000000 in
theorem triv_textsWrite (h : Bk B kb f p w) (a : Int) : Calls Tryz.prog 90 #[.pointer (some ⟨kb, 0, none⟩), .int .i64 a] w fun e w' => e = .returned (.int .i64 a) ∧ w' = w := by
  have c := h.free 11 (by omega)
  clear h
  go_enter Tryz.func90, Tryz.ntmps90
  go_wp2_with fail
  go_loopw [1, 5] (fun x v wr => x = .int .i64 a ∧ v = .int .i64 0 ∧ wr = w) (fun _ _ _ => 0)
  case atStart => exact ⟨rfl, rfl, rfl⟩
  case round =>
    obtain ⟨rfl, rfl, rfl⟩ := hrel
    go_wp2_with fail
    go_ret
    exact ⟨rfl, rfl⟩

set_option maxHeartbeats 1000000 in
theorem triv_complexesWrite (h : Bk B kb f p w) (a : Int) : Calls Tryz.prog 91 #[.pointer (some ⟨kb, 0, none⟩), .int .i64 a] w fun e w' => e = .returned (.int .i64 a) ∧ w' = w := by
  have c := h.free 14 (by omega)
  clear h
  go_enter Tryz.func91, Tryz.ntmps91
  go_wp2_with fail
  go_loopw [1, 5] (fun x v wr => x = .int .i64 a ∧ v = .int .i64 0 ∧ wr = w) (fun _ _ _ => 0)
  case atStart => exact ⟨rfl, rfl, rfl⟩
  case round =>
    obtain ⟨rfl, rfl, rfl⟩ := hrel
    go_wp2_with fail
    go_ret
    exact ⟨rfl, rfl⟩

set_option maxHeartbeats 1000000 in
theorem triv_byteListsWrite (h : Bk B kb f p w) (a : Int) : Calls Tryz.prog 92 #[.pointer (some ⟨kb, 0, none⟩), .int .i64 a] w fun e w' => e = .returned (.int .i64 a) ∧ w' = w := by
  have c := h.free 17 (by omega)
  clear h
  go_enter Tryz.func92, Tryz.ntmps92
  go_wp2_with fail
  go_loopw [1, 5] (fun x v wr => x = .int .i64 a ∧ v = .int .i64 0 ∧ wr = w) (fun _ _ _ => 0)
  case atStart => exact ⟨rfl, rfl, rfl⟩
  case round =>
    obtain ⟨rfl, rfl, rfl⟩ := hrel
    go_wp2_with fail
    go_ret
    exact ⟨rfl, rfl⟩

set_option maxHeartbeats 1000000 in
theorem triv_intListsWrite (h : Bk B kb f p w) (a : Int) : Calls Tryz.prog 93 #[.pointer (some ⟨kb, 0, none⟩), .int .i64 a] w fun e w' => e = .returned (.int .i64 a) ∧ w' = w := by
  have c := h.free 20 (by omega)
  clear h
  go_enter Tryz.func93, Tryz.ntmps93
  go_wp2_with fail
  go_loopw [1, 5] (fun x v wr => x = .int .i64 a ∧ v = .int .i64 0 ∧ wr = w) (fun _ _ _ => 0)
  case atStart => exact ⟨rfl, rfl, rfl⟩
  case round =>
    obtain ⟨rfl, rfl, rfl⟩ := hrel
    go_wp2_with fail
    go_ret
    exact ⟨rfl, rfl⟩

set_option maxHeartbeats 1000000 in
theorem triv_pairsWrite (h : Bk B kb f p w) (a : Int) : Calls Tryz.prog 94 #[.pointer (some ⟨kb, 0, none⟩), .int .i64 a] w fun e w' => e = .returned (.int .i64 a) ∧ w' = w := by
  have c := h.free 23 (by omega)
  clear h
  go_enter Tryz.func94, Tryz.ntmps94
  go_wp2_with fail
  go_loopw [1, 5] (fun x v wr => x = .int .i64 a ∧ v = .int .i64 0 ∧ wr = w) (fun _ _ _ => 0)
  case atStart => exact ⟨rfl, rfl, rfl⟩
  case round =>
    obtain ⟨rfl, rfl, rfl⟩ := hrel
    go_wp2_with fail
    go_ret
    exact ⟨rfl, rfl⟩

set_option maxHeartbeats 1000000 in
theorem triv_changesWrite (h : Bk B kb f p w) (a : Int) : Calls Tryz.prog 95 #[.pointer (some ⟨kb, 0, none⟩), .int .i64 a] w fun e w' => e = .returned (.int .i64 a) ∧ w' = w := by
  have c := h.free 26 (by omega)
  clear h
  go_enter Tryz.func95, Tryz.ntmps95
  go_wp2_with fail
  go_loopw [1, 5] (fun x v wr => x = .int .i64 a ∧ v = .int .i64 0 ∧ wr = w) (fun _ _ _ => 0)
  case atStart => exact ⟨rfl, rfl, rfl⟩
  case round =>
    obtain ⟨rfl, rfl, rfl⟩ := hrel
    go_wp2_with fail
    go_ret
    exact ⟨rfl, rfl⟩

set_option maxHeartbeats 1000000 in
theorem triv_infosWrite (h : Bk B kb f p w) (a : Int) : Calls Tryz.prog 96 #[.pointer (some ⟨kb, 0, none⟩), .int .i64 a] w fun e w' => e = .returned (.int .i64 a) ∧ w' = w := by
  have c := h.free 29 (by omega)
  clear h
  go_enter Tryz.func96, Tryz.ntmps96
  go_wp2_with fail
  go_loopw [1, 5] (fun x v wr => x = .int .i64 a ∧ v = .int .i64 0 ∧ wr = w) (fun _ _ _ => 0)
  case atStart => exact ⟨rfl, rfl, rfl⟩
  case round =>
    obtain ⟨rfl, rfl, rfl⟩ := hrel
    go_wp2_with fail
    go_ret
    exact ⟨rfl, rfl⟩

set_option maxHeartbeats 1000000 in
theorem triv_nodesWrite (h : Bk B kb f p w) (a : Int) : Calls Tryz.prog 97 #[.pointer (some ⟨kb, 0, none⟩), .int .i64 a] w fun e w' => e = .returned (.int .i64 a) ∧ w' = w := by
  have c := h.free 32 (by omega)
  clear h
  go_enter Tryz.func97, Tryz.ntmps97
  go_wp2_with fail
  go_loopw [1, 5] (fun x v wr => x = .int .i64 a ∧ v = .int .i64 0 ∧ wr = w) (fun _ _ _ => 0)
  case atStart => exact ⟨rfl, rfl, rfl⟩
  case round =>
    obtain ⟨rfl, rfl, rfl⟩ := hrel
    go_wp2_with fail
    go_ret
    exact ⟨rfl, rfl⟩

set_option maxHeartbeats 1000000 in
theorem triv_shellsWrite (h : Bk B kb f p w) (a : Int) : Calls Tryz.prog 98 #[.pointer (some ⟨kb, 0, none⟩), .int .i64 a] w fun e w' => e = .returned (.int .i64 a) ∧ w' = w := by
  have c := h.free 35 (by omega)
  clear h
  go_enter Tryz.func98, Tryz.ntmps98
  go_wp2_with fail
  go_loopw [1, 5] (fun x v wr => x = .int .i64 a ∧ v = .int .i64 0 ∧ wr = w) (fun _ _ _ => 0)
  case atStart => exact ⟨rfl, rfl, rfl⟩
  case round =>
    obtain ⟨rfl, rfl, rfl⟩ := hrel
    go_wp2_with fail
    go_ret
    exact ⟨rfl, rfl⟩

set_option maxHeartbeats 1000000 in
theorem triv_listsWrite (h : Bk B kb f p w) (a : Int) : Calls Tryz.prog 99 #[.pointer (some ⟨kb, 0, none⟩), .int .i64 a] w fun e w' => e = .returned (.int .i64 a) ∧ w' = w := by
  have c := h.free 38 (by omega)
  clear h
  go_enter Tryz.func99, Tryz.ntmps99
  go_wp2_with fail
  go_loopw [1, 5] (fun x v wr => x = .int .i64 a ∧ v = .int .i64 0 ∧ wr = w) (fun _ _ _ => 0)
  case atStart => exact ⟨rfl, rfl, rfl⟩
  case round =>
    obtain ⟨rfl, rfl, rfl⟩ := hrel
    go_wp2_with fail
    go_ret
    exact ⟨rfl, rfl⟩

set_option maxHeartbeats 1000000 in
theorem triv_framesWrite (h : Bk B kb f p w) (a : Int) : Calls Tryz.prog 100 #[.pointer (some ⟨kb, 0, none⟩), .int .i64 a] w fun e w' => e = .returned (.int .i64 a) ∧ w' = w := by
  have c := h.free 41 (by omega)
  clear h
  go_enter Tryz.func100, Tryz.ntmps100
  go_wp2_with fail
  go_loopw [1, 5] (fun x v wr => x = .int .i64 a ∧ v = .int .i64 0 ∧ wr = w) (fun _ _ _ => 0)
  case atStart => exact ⟨rfl, rfl, rfl⟩
  case round =>
    obtain ⟨rfl, rfl, rfl⟩ := hrel
    go_wp2_with fail
    go_ret
    exact ⟨rfl, rfl⟩

set_option maxHeartbeats 1000000 in
theorem triv_filesWrite (h : Bk B kb f p w) (a : Int) : Calls Tryz.prog 101 #[.pointer (some ⟨kb, 0, none⟩), .int .i64 a] w fun e w' => e = .returned (.int .i64 a) ∧ w' = w := by
  have c := h.free 44 (by omega)
  clear h
  go_enter Tryz.func101, Tryz.ntmps101
  go_wp2_with fail
  go_loopw [1, 5] (fun x v wr => x = .int .i64 a ∧ v = .int .i64 0 ∧ wr = w) (fun _ _ _ => 0)
  case atStart => exact ⟨rfl, rfl, rfl⟩
  case round =>
    obtain ⟨rfl, rfl, rfl⟩ := hrel
    go_wp2_with fail
    go_ret
    exact ⟨rfl, rfl⟩

set_option maxHeartbeats 1000000 in
theorem triv_passesWrite (h : Bk B kb f p w) (a : Int) : Calls Tryz.prog 102 #[.pointer (some ⟨kb, 0, none⟩), .int .i64 a] w fun e w' => e = .returned (.int .i64 a) ∧ w' = w := by
  have c := h.free 47 (by omega)
  clear h
  go_enter Tryz.func102, Tryz.ntmps102
  go_wp2_with fail
  go_loopw [1, 5] (fun x v wr => x = .int .i64 a ∧ v = .int .i64 0 ∧ wr = w) (fun _ _ _ => 0)
  case atStart => exact ⟨rfl, rfl, rfl⟩
  case round =>
    obtain ⟨rfl, rfl, rfl⟩ := hrel
    go_wp2_with fail
    go_ret
    exact ⟨rfl, rfl⟩
end Go.Proofs.YtbpackopicngmaaGreatDoor
namespace Go.Proofs.YtbpackopicngmaaGreatDoor
open Go.RowKit Go.Proofs.Sc Go.Proofs.YtbpackopicngmaaGreatDoorW.PrintWords

variable {B kb : Nat} {f : Nat → Nat} {p : Int} {w : World}

set_option maxHeartbeats 1000000 in
theorem triv_bytesHold (h : Bk B kb f p w) (a : Int) : Calls Tryz.prog 104 #[.pointer (some ⟨kb, 0, none⟩), .int .i64 a] w fun e w' => e = .returned (.tuple #[.int .i64 a, .bool true]) ∧ w' = w := by
  have c := h.free 2 (by omega)
  clear h
  go_enter Tryz.func104, Tryz.ntmps104
  go_wp2_with fail
  go_loopw [1, 6, 7] (fun x y v wr => x = .int .i64 a ∧ y = .bool true ∧ v = .int .i64 0 ∧ wr = w) (fun _ _ _ _ => 0)
  case atStart => exact ⟨rfl, rfl, rfl, rfl⟩
  case round =>
    obtain ⟨rfl, rfl, rfl, rfl⟩ := hrel
    go_wp2_with fail
    go_ret2
    exact ⟨rfl, rfl⟩

set_option maxHeartbeats 1000000 in
theorem triv_boolsHold (h : Bk B kb f p w) (a : Int) : Calls Tryz.prog 106 #[.pointer (some ⟨kb, 0, none⟩), .int .i64 a] w fun e w' => e = .returned (.tuple #[.int .i64 a, .bool true]) ∧ w' = w := by
  have c := h.free 8 (by omega)
  clear h
  go_enter Tryz.func106, Tryz.ntmps106
  go_wp2_with fail
  go_loopw [1, 6, 7] (fun x y v wr => x = .int .i64 a ∧ y = .bool true ∧ v = .int .i64 0 ∧ wr = w) (fun _ _ _ _ => 0)
  case atStart => exact ⟨rfl, rfl, rfl, rfl⟩
  case round =>
    obtain ⟨rfl, rfl, rfl, rfl⟩ := hrel
    go_wp2_with fail
    go_ret2
    exact ⟨rfl, rfl⟩

set_option maxHeartbeats 1000000 in
theorem triv_textsHold (h : Bk B kb f p w) (a : Int) : Calls Tryz.prog 107 #[.pointer (some ⟨kb, 0, none⟩), .int .i64 a] w fun e w' => e = .returned (.tuple #[.int .i64 a, .bool true]) ∧ w' = w := by
  have c := h.free 11 (by omega)
  clear h
  go_enter Tryz.func107, Tryz.ntmps107
  go_wp2_with fail
  go_loopw [1, 6, 7] (fun x y v wr => x = .int .i64 a ∧ y = .bool true ∧ v = .int .i64 0 ∧ wr = w) (fun _ _ _ _ => 0)
  case atStart => exact ⟨rfl, rfl, rfl, rfl⟩
  case round =>
    obtain ⟨rfl, rfl, rfl, rfl⟩ := hrel
    go_wp2_with fail
    go_ret2
    exact ⟨rfl, rfl⟩

set_option maxHeartbeats 1000000 in
theorem triv_complexesHold (h : Bk B kb f p w) (a : Int) : Calls Tryz.prog 108 #[.pointer (some ⟨kb, 0, none⟩), .int .i64 a] w fun e w' => e = .returned (.tuple #[.int .i64 a, .bool true]) ∧ w' = w := by
  have c := h.free 14 (by omega)
  clear h
  go_enter Tryz.func108, Tryz.ntmps108
  go_wp2_with fail
  go_loopw [1, 6, 7] (fun x y v wr => x = .int .i64 a ∧ y = .bool true ∧ v = .int .i64 0 ∧ wr = w) (fun _ _ _ _ => 0)
  case atStart => exact ⟨rfl, rfl, rfl, rfl⟩
  case round =>
    obtain ⟨rfl, rfl, rfl, rfl⟩ := hrel
    go_wp2_with fail
    go_ret2
    exact ⟨rfl, rfl⟩

set_option maxHeartbeats 1000000 in
theorem triv_byteListsHold (h : Bk B kb f p w) (a : Int) : Calls Tryz.prog 109 #[.pointer (some ⟨kb, 0, none⟩), .int .i64 a] w fun e w' => e = .returned (.tuple #[.int .i64 a, .bool true]) ∧ w' = w := by
  have c := h.free 17 (by omega)
  clear h
  go_enter Tryz.func109, Tryz.ntmps109
  go_wp2_with fail
  go_loopw [1, 6, 7] (fun x y v wr => x = .int .i64 a ∧ y = .bool true ∧ v = .int .i64 0 ∧ wr = w) (fun _ _ _ _ => 0)
  case atStart => exact ⟨rfl, rfl, rfl, rfl⟩
  case round =>
    obtain ⟨rfl, rfl, rfl, rfl⟩ := hrel
    go_wp2_with fail
    go_ret2
    exact ⟨rfl, rfl⟩

set_option maxHeartbeats 1000000 in
theorem triv_intListsHold (h : Bk B kb f p w) (a : Int) : Calls Tryz.prog 110 #[.pointer (some ⟨kb, 0, none⟩), .int .i64 a] w fun e w' => e = .returned (.tuple #[.int .i64 a, .bool true]) ∧ w' = w := by
  have c := h.free 20 (by omega)
  clear h
  go_enter Tryz.func110, Tryz.ntmps110
  go_wp2_with fail
  go_loopw [1, 6, 7] (fun x y v wr => x = .int .i64 a ∧ y = .bool true ∧ v = .int .i64 0 ∧ wr = w) (fun _ _ _ _ => 0)
  case atStart => exact ⟨rfl, rfl, rfl, rfl⟩
  case round =>
    obtain ⟨rfl, rfl, rfl, rfl⟩ := hrel
    go_wp2_with fail
    go_ret2
    exact ⟨rfl, rfl⟩

set_option maxHeartbeats 1000000 in
theorem triv_pairsHold (h : Bk B kb f p w) (a : Int) : Calls Tryz.prog 111 #[.pointer (some ⟨kb, 0, none⟩), .int .i64 a] w fun e w' => e = .returned (.tuple #[.int .i64 a, .bool true]) ∧ w' = w := by
  have c := h.free 23 (by omega)
  clear h
  go_enter Tryz.func111, Tryz.ntmps111
  go_wp2_with fail
  go_loopw [1, 6, 7] (fun x y v wr => x = .int .i64 a ∧ y = .bool true ∧ v = .int .i64 0 ∧ wr = w) (fun _ _ _ _ => 0)
  case atStart => exact ⟨rfl, rfl, rfl, rfl⟩
  case round =>
    obtain ⟨rfl, rfl, rfl, rfl⟩ := hrel
    go_wp2_with fail
    go_ret2
    exact ⟨rfl, rfl⟩

set_option maxHeartbeats 1000000 in
theorem triv_changesHold (h : Bk B kb f p w) (a : Int) : Calls Tryz.prog 112 #[.pointer (some ⟨kb, 0, none⟩), .int .i64 a] w fun e w' => e = .returned (.tuple #[.int .i64 a, .bool true]) ∧ w' = w := by
  have c := h.free 26 (by omega)
  clear h
  go_enter Tryz.func112, Tryz.ntmps112
  go_wp2_with fail
  go_loopw [1, 6, 7] (fun x y v wr => x = .int .i64 a ∧ y = .bool true ∧ v = .int .i64 0 ∧ wr = w) (fun _ _ _ _ => 0)
  case atStart => exact ⟨rfl, rfl, rfl, rfl⟩
  case round =>
    obtain ⟨rfl, rfl, rfl, rfl⟩ := hrel
    go_wp2_with fail
    go_ret2
    exact ⟨rfl, rfl⟩

set_option maxHeartbeats 1000000 in
theorem triv_infosHold (h : Bk B kb f p w) (a : Int) : Calls Tryz.prog 113 #[.pointer (some ⟨kb, 0, none⟩), .int .i64 a] w fun e w' => e = .returned (.tuple #[.int .i64 a, .bool true]) ∧ w' = w := by
  have c := h.free 29 (by omega)
  clear h
  go_enter Tryz.func113, Tryz.ntmps113
  go_wp2_with fail
  go_loopw [1, 6, 7] (fun x y v wr => x = .int .i64 a ∧ y = .bool true ∧ v = .int .i64 0 ∧ wr = w) (fun _ _ _ _ => 0)
  case atStart => exact ⟨rfl, rfl, rfl, rfl⟩
  case round =>
    obtain ⟨rfl, rfl, rfl, rfl⟩ := hrel
    go_wp2_with fail
    go_ret2
    exact ⟨rfl, rfl⟩

set_option maxHeartbeats 1000000 in
theorem triv_nodesHold (h : Bk B kb f p w) (a : Int) : Calls Tryz.prog 114 #[.pointer (some ⟨kb, 0, none⟩), .int .i64 a] w fun e w' => e = .returned (.tuple #[.int .i64 a, .bool true]) ∧ w' = w := by
  have c := h.free 32 (by omega)
  clear h
  go_enter Tryz.func114, Tryz.ntmps114
  go_wp2_with fail
  go_loopw [1, 6, 7] (fun x y v wr => x = .int .i64 a ∧ y = .bool true ∧ v = .int .i64 0 ∧ wr = w) (fun _ _ _ _ => 0)
  case atStart => exact ⟨rfl, rfl, rfl, rfl⟩
  case round =>
    obtain ⟨rfl, rfl, rfl, rfl⟩ := hrel
    go_wp2_with fail
    go_ret2
    exact ⟨rfl, rfl⟩

set_option maxHeartbeats 1000000 in
theorem triv_shellsHold (h : Bk B kb f p w) (a : Int) : Calls Tryz.prog 115 #[.pointer (some ⟨kb, 0, none⟩), .int .i64 a] w fun e w' => e = .returned (.tuple #[.int .i64 a, .bool true]) ∧ w' = w := by
  have c := h.free 35 (by omega)
  clear h
  go_enter Tryz.func115, Tryz.ntmps115
  go_wp2_with fail
  go_loopw [1, 6, 7] (fun x y v wr => x = .int .i64 a ∧ y = .bool true ∧ v = .int .i64 0 ∧ wr = w) (fun _ _ _ _ => 0)
  case atStart => exact ⟨rfl, rfl, rfl, rfl⟩
  case round =>
    obtain ⟨rfl, rfl, rfl, rfl⟩ := hrel
    go_wp2_with fail
    go_ret2
    exact ⟨rfl, rfl⟩

set_option maxHeartbeats 1000000 in
theorem triv_listsHold (h : Bk B kb f p w) (a : Int) : Calls Tryz.prog 116 #[.pointer (some ⟨kb, 0, none⟩), .int .i64 a] w fun e w' => e = .returned (.tuple #[.int .i64 a, .bool true]) ∧ w' = w := by
  have c := h.free 38 (by omega)
  clear h
  go_enter Tryz.func116, Tryz.ntmps116
  go_wp2_with fail
  go_loopw [1, 6, 7] (fun x y v wr => x = .int .i64 a ∧ y = .bool true ∧ v = .int .i64 0 ∧ wr = w) (fun _ _ _ _ => 0)
  case atStart => exact ⟨rfl, rfl, rfl, rfl⟩
  case round =>
    obtain ⟨rfl, rfl, rfl, rfl⟩ := hrel
    go_wp2_with fail
    go_ret2
    exact ⟨rfl, rfl⟩

set_option maxHeartbeats 1000000 in
theorem triv_framesHold (h : Bk B kb f p w) (a : Int) : Calls Tryz.prog 117 #[.pointer (some ⟨kb, 0, none⟩), .int .i64 a] w fun e w' => e = .returned (.tuple #[.int .i64 a, .bool true]) ∧ w' = w := by
  have c := h.free 41 (by omega)
  clear h
  go_enter Tryz.func117, Tryz.ntmps117
  go_wp2_with fail
  go_loopw [1, 6, 7] (fun x y v wr => x = .int .i64 a ∧ y = .bool true ∧ v = .int .i64 0 ∧ wr = w) (fun _ _ _ _ => 0)
  case atStart => exact ⟨rfl, rfl, rfl, rfl⟩
  case round =>
    obtain ⟨rfl, rfl, rfl, rfl⟩ := hrel
    go_wp2_with fail
    go_ret2
    exact ⟨rfl, rfl⟩

set_option maxHeartbeats 1000000 in
theorem triv_filesHold (h : Bk B kb f p w) (a : Int) : Calls Tryz.prog 118 #[.pointer (some ⟨kb, 0, none⟩), .int .i64 a] w fun e w' => e = .returned (.tuple #[.int .i64 a, .bool true]) ∧ w' = w := by
  have c := h.free 44 (by omega)
  clear h
  go_enter Tryz.func118, Tryz.ntmps118
  go_wp2_with fail
  go_loopw [1, 6, 7] (fun x y v wr => x = .int .i64 a ∧ y = .bool true ∧ v = .int .i64 0 ∧ wr = w) (fun _ _ _ _ => 0)
  case atStart => exact ⟨rfl, rfl, rfl, rfl⟩
  case round =>
    obtain ⟨rfl, rfl, rfl, rfl⟩ := hrel
    go_wp2_with fail
    go_ret2
    exact ⟨rfl, rfl⟩

set_option maxHeartbeats 1000000 in
theorem triv_passesHold (h : Bk B kb f p w) (a : Int) : Calls Tryz.prog 119 #[.pointer (some ⟨kb, 0, none⟩), .int .i64 a] w fun e w' => e = .returned (.tuple #[.int .i64 a, .bool true]) ∧ w' = w := by
  have c := h.free 47 (by omega)
  clear h
  go_enter Tryz.func119, Tryz.ntmps119
  go_wp2_with fail
  go_loopw [1, 6, 7] (fun x y v wr => x = .int .i64 a ∧ y = .bool true ∧ v = .int .i64 0 ∧ wr = w) (fun _ _ _ _ => 0)
  case atStart => exact ⟨rfl, rfl, rfl, rfl⟩
  case round =>
    obtain ⟨rfl, rfl, rfl, rfl⟩ := hrel
    go_wp2_with fail
    go_ret2
    exact ⟨rfl, rfl⟩
end Go.Proofs.YtbpackopicngmaaGreatDoor
namespace Go.Proofs.YtbpackopicngmaaGreatDoor
open Go.RowKit Go.Proofs.Sc Go.Proofs.YtbpackopicngmaaGreatDoorW.PrintWords

variable {B kb : Nat} {f : Nat → Nat} {p : Int} {w : World}

set_option maxHeartbeats 1000000 in
theorem triv_bytesGrow (h : Bk B kb f p w) (a t : Int) : Calls Tryz.prog 121 #[.pointer (some ⟨kb, 0, none⟩), .int .i64 a, .int .i64 t] w fun e w' => e = .returned (.int .i64 a) ∧ w' = w := by
  have c := h.free 2 (by omega)
  clear h
  go_enter Tryz.func121, Tryz.ntmps121
  go_wp2_with fail
  go_loopw [1, 7] (fun x v wr => x = .int .i64 a ∧ v = .int .i64 0 ∧ wr = w) (fun _ _ _ => 0)
  case atStart => exact ⟨rfl, rfl, rfl⟩
  case round =>
    obtain ⟨rfl, rfl, rfl⟩ := hrel
    go_wp2_with fail
    go_ret
    exact ⟨rfl, rfl⟩

set_option maxHeartbeats 1000000 in
theorem triv_boolsGrow (h : Bk B kb f p w) (a t : Int) : Calls Tryz.prog 123 #[.pointer (some ⟨kb, 0, none⟩), .int .i64 a, .int .i64 t] w fun e w' => e = .returned (.int .i64 a) ∧ w' = w := by
  have c := h.free 8 (by omega)
  clear h
  go_enter Tryz.func123, Tryz.ntmps123
  go_wp2_with fail
  go_loopw [1, 7] (fun x v wr => x = .int .i64 a ∧ v = .int .i64 0 ∧ wr = w) (fun _ _ _ => 0)
  case atStart => exact ⟨rfl, rfl, rfl⟩
  case round =>
    obtain ⟨rfl, rfl, rfl⟩ := hrel
    go_wp2_with fail
    go_ret
    exact ⟨rfl, rfl⟩

set_option maxHeartbeats 1000000 in
theorem triv_textsGrow (h : Bk B kb f p w) (a t : Int) : Calls Tryz.prog 124 #[.pointer (some ⟨kb, 0, none⟩), .int .i64 a, .int .i64 t] w fun e w' => e = .returned (.int .i64 a) ∧ w' = w := by
  have c := h.free 11 (by omega)
  clear h
  go_enter Tryz.func124, Tryz.ntmps124
  go_wp2_with fail
  go_loopw [1, 7] (fun x v wr => x = .int .i64 a ∧ v = .int .i64 0 ∧ wr = w) (fun _ _ _ => 0)
  case atStart => exact ⟨rfl, rfl, rfl⟩
  case round =>
    obtain ⟨rfl, rfl, rfl⟩ := hrel
    go_wp2_with fail
    go_ret
    exact ⟨rfl, rfl⟩

set_option maxHeartbeats 1000000 in
theorem triv_complexesGrow (h : Bk B kb f p w) (a t : Int) : Calls Tryz.prog 125 #[.pointer (some ⟨kb, 0, none⟩), .int .i64 a, .int .i64 t] w fun e w' => e = .returned (.int .i64 a) ∧ w' = w := by
  have c := h.free 14 (by omega)
  clear h
  go_enter Tryz.func125, Tryz.ntmps125
  go_wp2_with fail
  go_loopw [1, 7] (fun x v wr => x = .int .i64 a ∧ v = .int .i64 0 ∧ wr = w) (fun _ _ _ => 0)
  case atStart => exact ⟨rfl, rfl, rfl⟩
  case round =>
    obtain ⟨rfl, rfl, rfl⟩ := hrel
    go_wp2_with fail
    go_ret
    exact ⟨rfl, rfl⟩

set_option maxHeartbeats 1000000 in
theorem triv_byteListsGrow (h : Bk B kb f p w) (a t : Int) : Calls Tryz.prog 126 #[.pointer (some ⟨kb, 0, none⟩), .int .i64 a, .int .i64 t] w fun e w' => e = .returned (.int .i64 a) ∧ w' = w := by
  have c := h.free 17 (by omega)
  clear h
  go_enter Tryz.func126, Tryz.ntmps126
  go_wp2_with fail
  go_loopw [1, 7] (fun x v wr => x = .int .i64 a ∧ v = .int .i64 0 ∧ wr = w) (fun _ _ _ => 0)
  case atStart => exact ⟨rfl, rfl, rfl⟩
  case round =>
    obtain ⟨rfl, rfl, rfl⟩ := hrel
    go_wp2_with fail
    go_ret
    exact ⟨rfl, rfl⟩

set_option maxHeartbeats 1000000 in
theorem triv_intListsGrow (h : Bk B kb f p w) (a t : Int) : Calls Tryz.prog 127 #[.pointer (some ⟨kb, 0, none⟩), .int .i64 a, .int .i64 t] w fun e w' => e = .returned (.int .i64 a) ∧ w' = w := by
  have c := h.free 20 (by omega)
  clear h
  go_enter Tryz.func127, Tryz.ntmps127
  go_wp2_with fail
  go_loopw [1, 7] (fun x v wr => x = .int .i64 a ∧ v = .int .i64 0 ∧ wr = w) (fun _ _ _ => 0)
  case atStart => exact ⟨rfl, rfl, rfl⟩
  case round =>
    obtain ⟨rfl, rfl, rfl⟩ := hrel
    go_wp2_with fail
    go_ret
    exact ⟨rfl, rfl⟩

set_option maxHeartbeats 1000000 in
theorem triv_pairsGrow (h : Bk B kb f p w) (a t : Int) : Calls Tryz.prog 128 #[.pointer (some ⟨kb, 0, none⟩), .int .i64 a, .int .i64 t] w fun e w' => e = .returned (.int .i64 a) ∧ w' = w := by
  have c := h.free 23 (by omega)
  clear h
  go_enter Tryz.func128, Tryz.ntmps128
  go_wp2_with fail
  go_loopw [1, 7] (fun x v wr => x = .int .i64 a ∧ v = .int .i64 0 ∧ wr = w) (fun _ _ _ => 0)
  case atStart => exact ⟨rfl, rfl, rfl⟩
  case round =>
    obtain ⟨rfl, rfl, rfl⟩ := hrel
    go_wp2_with fail
    go_ret
    exact ⟨rfl, rfl⟩

set_option maxHeartbeats 1000000 in
theorem triv_changesGrow (h : Bk B kb f p w) (a t : Int) : Calls Tryz.prog 129 #[.pointer (some ⟨kb, 0, none⟩), .int .i64 a, .int .i64 t] w fun e w' => e = .returned (.int .i64 a) ∧ w' = w := by
  have c := h.free 26 (by omega)
  clear h
  go_enter Tryz.func129, Tryz.ntmps129
  go_wp2_with fail
  go_loopw [1, 7] (fun x v wr => x = .int .i64 a ∧ v = .int .i64 0 ∧ wr = w) (fun _ _ _ => 0)
  case atStart => exact ⟨rfl, rfl, rfl⟩
  case round =>
    obtain ⟨rfl, rfl, rfl⟩ := hrel
    go_wp2_with fail
    go_ret
    exact ⟨rfl, rfl⟩

set_option maxHeartbeats 1000000 in
theorem triv_infosGrow (h : Bk B kb f p w) (a t : Int) : Calls Tryz.prog 130 #[.pointer (some ⟨kb, 0, none⟩), .int .i64 a, .int .i64 t] w fun e w' => e = .returned (.int .i64 a) ∧ w' = w := by
  have c := h.free 29 (by omega)
  clear h
  go_enter Tryz.func130, Tryz.ntmps130
  go_wp2_with fail
  go_loopw [1, 7] (fun x v wr => x = .int .i64 a ∧ v = .int .i64 0 ∧ wr = w) (fun _ _ _ => 0)
  case atStart => exact ⟨rfl, rfl, rfl⟩
  case round =>
    obtain ⟨rfl, rfl, rfl⟩ := hrel
    go_wp2_with fail
    go_ret
    exact ⟨rfl, rfl⟩

set_option maxHeartbeats 1000000 in
theorem triv_nodesGrow (h : Bk B kb f p w) (a t : Int) : Calls Tryz.prog 131 #[.pointer (some ⟨kb, 0, none⟩), .int .i64 a, .int .i64 t] w fun e w' => e = .returned (.int .i64 a) ∧ w' = w := by
  have c := h.free 32 (by omega)
  clear h
  go_enter Tryz.func131, Tryz.ntmps131
  go_wp2_with fail
  go_loopw [1, 7] (fun x v wr => x = .int .i64 a ∧ v = .int .i64 0 ∧ wr = w) (fun _ _ _ => 0)
  case atStart => exact ⟨rfl, rfl, rfl⟩
  case round =>
    obtain ⟨rfl, rfl, rfl⟩ := hrel
    go_wp2_with fail
    go_ret
    exact ⟨rfl, rfl⟩

set_option maxHeartbeats 1000000 in
theorem triv_shellsGrow (h : Bk B kb f p w) (a t : Int) : Calls Tryz.prog 132 #[.pointer (some ⟨kb, 0, none⟩), .int .i64 a, .int .i64 t] w fun e w' => e = .returned (.int .i64 a) ∧ w' = w := by
  have c := h.free 35 (by omega)
  clear h
  go_enter Tryz.func132, Tryz.ntmps132
  go_wp2_with fail
  go_loopw [1, 7] (fun x v wr => x = .int .i64 a ∧ v = .int .i64 0 ∧ wr = w) (fun _ _ _ => 0)
  case atStart => exact ⟨rfl, rfl, rfl⟩
  case round =>
    obtain ⟨rfl, rfl, rfl⟩ := hrel
    go_wp2_with fail
    go_ret
    exact ⟨rfl, rfl⟩

set_option maxHeartbeats 1000000 in
theorem triv_listsGrow (h : Bk B kb f p w) (a t : Int) : Calls Tryz.prog 133 #[.pointer (some ⟨kb, 0, none⟩), .int .i64 a, .int .i64 t] w fun e w' => e = .returned (.int .i64 a) ∧ w' = w := by
  have c := h.free 38 (by omega)
  clear h
  go_enter Tryz.func133, Tryz.ntmps133
  go_wp2_with fail
  go_loopw [1, 7] (fun x v wr => x = .int .i64 a ∧ v = .int .i64 0 ∧ wr = w) (fun _ _ _ => 0)
  case atStart => exact ⟨rfl, rfl, rfl⟩
  case round =>
    obtain ⟨rfl, rfl, rfl⟩ := hrel
    go_wp2_with fail
    go_ret
    exact ⟨rfl, rfl⟩

set_option maxHeartbeats 1000000 in
theorem triv_framesGrow (h : Bk B kb f p w) (a t : Int) : Calls Tryz.prog 134 #[.pointer (some ⟨kb, 0, none⟩), .int .i64 a, .int .i64 t] w fun e w' => e = .returned (.int .i64 a) ∧ w' = w := by
  have c := h.free 41 (by omega)
  clear h
  go_enter Tryz.func134, Tryz.ntmps134
  go_wp2_with fail
  go_loopw [1, 7] (fun x v wr => x = .int .i64 a ∧ v = .int .i64 0 ∧ wr = w) (fun _ _ _ => 0)
  case atStart => exact ⟨rfl, rfl, rfl⟩
  case round =>
    obtain ⟨rfl, rfl, rfl⟩ := hrel
    go_wp2_with fail
    go_ret
    exact ⟨rfl, rfl⟩

set_option maxHeartbeats 1000000 in
theorem triv_filesGrow (h : Bk B kb f p w) (a t : Int) : Calls Tryz.prog 135 #[.pointer (some ⟨kb, 0, none⟩), .int .i64 a, .int .i64 t] w fun e w' => e = .returned (.int .i64 a) ∧ w' = w := by
  have c := h.free 44 (by omega)
  clear h
  go_enter Tryz.func135, Tryz.ntmps135
  go_wp2_with fail
  go_loopw [1, 7] (fun x v wr => x = .int .i64 a ∧ v = .int .i64 0 ∧ wr = w) (fun _ _ _ => 0)
  case atStart => exact ⟨rfl, rfl, rfl⟩
  case round =>
    obtain ⟨rfl, rfl, rfl⟩ := hrel
    go_wp2_with fail
    go_ret
    exact ⟨rfl, rfl⟩

set_option maxHeartbeats 1000000 in
theorem triv_passesGrow (h : Bk B kb f p w) (a t : Int) : Calls Tryz.prog 136 #[.pointer (some ⟨kb, 0, none⟩), .int .i64 a, .int .i64 t] w fun e w' => e = .returned (.int .i64 a) ∧ w' = w := by
  have c := h.free 47 (by omega)
  clear h
  go_enter Tryz.func136, Tryz.ntmps136
  go_wp2_with fail
  go_loopw [1, 7] (fun x v wr => x = .int .i64 a ∧ v = .int .i64 0 ∧ wr = w) (fun _ _ _ => 0)
  case atStart => exact ⟨rfl, rfl, rfl⟩
  case round =>
    obtain ⟨rfl, rfl, rfl⟩ := hrel
    go_wp2_with fail
    go_ret
    exact ⟨rfl, rfl⟩
end Go.Proofs.YtbpackopicngmaaGreatDoor
