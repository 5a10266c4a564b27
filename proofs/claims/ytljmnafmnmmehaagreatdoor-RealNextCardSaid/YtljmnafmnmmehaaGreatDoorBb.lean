/- Closed contracts: digits. -/
import Derived.Test.YtljmnafmnmmehaaGreatDoorBa
import Derived.Laws.AppendOwn
import Derived.WalkKit
import Derived.BigQuiet
import Derived.Deep.QuietTactic
import Derived.BigRegion
import Derived.Below
import Derived.Lib.Hide
import Derived.Outline
import Derived.OwnWalk
import Derived.WalkLawsBesides
import Derived.Handy
namespace Go.Proofs.YtljmnafmnmmehaaGreatDoor
open Go.RowKit
set_option linter.unusedVariables false
set_option linter.unusedSimpArgs false

theorem Rl.blk_cell {w : World} {g : Nat} {arr : Array Value} {t : TypeId} {f : Nat × Nat} (h : w.heap[g]? = some (.cells arr t f)) (i : Nat) : w.cell? ⟨g, i, none⟩ = arr[i]? := by simp [World.cell?, h]
theorem Rl.blk_frozen {w : World} {g : Nat} {arr : Array Value} {t : TypeId} (h : w.heap[g]? = some (.cells arr t (0, 0))) (i : Nat) : w.frozen? ⟨g, i, none⟩ = false := by simp [World.frozen?, h]
theorem Rl.blk_lt {w : World} {g : Nat} {o : Obj} (h : w.heap[g]? = some o) : g < w.heap.size := (Array.getElem?_eq_some_iff.1 h).1
theorem Rl.blk_set {w : World} {g : Nat} {arr : Array Value} {t : TypeId} {f : Nat × Nat} (h : w.heap[g]? = some (.cells arr t f)) (i : Nat) (v : Value) : (w.setCell ⟨g, i, none⟩ v).heap[g]? = some (.cells (arr.setIfInBounds i v) t f) := by
  simp [World.setCell, Array.getElem?_modify, h]
theorem Rl.drew_heap (w : World) : w.drew.heap = w.heap := rfl
theorem Rl.blk_drew {w : World} {g : Nat} {o : Obj} (h : w.heap[g]? = some o) : w.drew.heap[g]? = some o := h
theorem Rl.gr_refl (w : World) (r : Option Nat) : w.grownBy w r := ⟨rfl, rfl, rfl, Nat.le_refl _, fun _ _ _ => rfl⟩
theorem Rl.gr_set {w w1 : World} {g : Nat} (h : w.grownBy w1 (some g)) (i : Nat) (v : Value) : w.grownBy (w1.setCell ⟨g, i, none⟩ v) (some g) :=
  ⟨h.os, h.tape, h.output, by simpa using h.size, fun k hk hne => (Below.heap_setCell _ _ _ _ (fun e => hne (by rw [e]))).trans (h.block k hk hne)⟩
theorem Rl.gr_drew {w w1 : World} {r : Option Nat} (h : w.grownBy w1 r) : w.grownBy w1.drew r := ⟨h.os, h.tape, h.output, h.size, h.block⟩

set_option maxHeartbeats 4000000 in
set_option maxRecDepth 100000 in
theorem len_d (w : World) :
    Calls Tryz.prog 76 #[.int .u64 5000000000000000] w fun e w' => e = .returned (.int .i64 53) ∧ w = w' := by
  go_enter Tryz.func76, Tryz.ntmps76
  go_wp2
  go_ret
  exact ⟨by kernel_rfl, rfl⟩

set_option maxHeartbeats 4000000 in
set_option maxRecDepth 100000 in
theorem len_m (w : World) :
    Calls Tryz.prog 76 #[.int .u64 4503599627370496] w fun e w' => e = .returned (.int .i64 53) ∧ w = w' := by
  go_enter Tryz.func76, Tryz.ntmps76
  go_wp2
  go_ret
  exact ⟨by kernel_rfl, rfl⟩

set_option maxHeartbeats 4000000 in
set_option maxRecDepth 100000 in
theorem num_d (w : World) (t2 : w.cell? ⟨4, 15, none⟩ = some (.int .u64 1000000000000000)) (hw : 4 < w.heap.size) :
    Calls Tryz.prog 91 #[.int .u64 5000000000000000] w fun e w' => e = .returned (.int .i64 16) ∧ w = w' := by
  go_enter Tryz.func91, Tryz.ntmps91
  go_wp2_with (first | (go_at_call 76; (with_reducible refine (len_d _).mono ?_); rintro e w2 ⟨rfl, rfl⟩) | (go_at_call 92; go_in) | (go_at_call 115; go_in))
  go_ret
  exact ⟨rfl, rfl⟩

set_option maxHeartbeats 8000000 in
set_option maxRecDepth 100000 in
theorem fmt10_d (w : World) (bb : Nat) (h : w.heap[bb]? = some (.cells #[.int .u8 0, .int .u8 0, .int .u8 0, .int .u8 0, .int .u8 0, .int .u8 0, .int .u8 0, .int .u8 0, .int .u8 0, .int .u8 0, .int .u8 0, .int .u8 0, .int .u8 0, .int .u8 0, .int .u8 0, .int .u8 0, .int .u8 0, .int .u8 0, .int .u8 0, .int .u8 0, .int .u8 0, .int .u8 0, .int .u8 0, .int .u8 0, .int .u8 0, .int .u8 0, .int .u8 0, .int .u8 0, .int .u8 0, .int .u8 0, .int .u8 0, .int .u8 0] 107 (0, 0))) : Calls Tryz.prog 114 #[.slice (some ⟨bb, 0, none⟩) 16 32, .int .u64 5000000000000000] w fun e w' => e = .returned (.tuple #[]) ∧ w'.heap[bb]? = some (.cells #[.int .u8 53, .int .u8 48, .int .u8 48, .int .u8 48, .int .u8 48, .int .u8 48, .int .u8 48, .int .u8 48, .int .u8 48, .int .u8 48, .int .u8 48, .int .u8 48, .int .u8 48, .int .u8 48, .int .u8 48, .int .u8 48, .int .u8 0, .int .u8 0, .int .u8 0, .int .u8 0, .int .u8 0, .int .u8 0, .int .u8 0, .int .u8 0, .int .u8 0, .int .u8 0, .int .u8 0, .int .u8 0, .int .u8 0, .int .u8 0, .int .u8 0, .int .u8 0] 107 (0, 0)) ∧ w.grownBy w' (some bb) := by
  have c0 : w.cell? ⟨bb, 0, none⟩ = some (.int .u8 0) := Rl.blk_cell h 0
  have f0 := Rl.blk_frozen h 0
  have c1 : w.cell? ⟨bb, 1, none⟩ = some (.int .u8 0) := Rl.blk_cell h 1
  have f1 := Rl.blk_frozen h 1
  have c2 : w.cell? ⟨bb, 2, none⟩ = some (.int .u8 0) := Rl.blk_cell h 2
  have f2 := Rl.blk_frozen h 2
  have c3 : w.cell? ⟨bb, 3, none⟩ = some (.int .u8 0) := Rl.blk_cell h 3
  have f3 := Rl.blk_frozen h 3
  have c4 : w.cell? ⟨bb, 4, none⟩ = some (.int .u8 0) := Rl.blk_cell h 4
  have f4 := Rl.blk_frozen h 4
  have c5 : w.cell? ⟨bb, 5, none⟩ = some (.int .u8 0) := Rl.blk_cell h 5
  have f5 := Rl.blk_frozen h 5
  have c6 : w.cell? ⟨bb, 6, none⟩ = some (.int .u8 0) := Rl.blk_cell h 6
  have f6 := Rl.blk_frozen h 6
  have c7 : w.cell? ⟨bb, 7, none⟩ = some (.int .u8 0) := Rl.blk_cell h 7
  have f7 := Rl.blk_frozen h 7
  have c8 : w.cell? ⟨bb, 8, none⟩ = some (.int .u8 0) := Rl.blk_cell h 8
  have f8 := Rl.blk_frozen h 8
  have c9 : w.cell? ⟨bb, 9, none⟩ = some (.int .u8 0) := Rl.blk_cell h 9
  have f9 := Rl.blk_frozen h 9
  have c10 : w.cell? ⟨bb, 10, none⟩ = some (.int .u8 0) := Rl.blk_cell h 10
  have f10 := Rl.blk_frozen h 10
  have c11 : w.cell? ⟨bb, 11, none⟩ = some (.int .u8 0) := Rl.blk_cell h 11
  have f11 := Rl.blk_frozen h 11
  have c12 : w.cell? ⟨bb, 12, none⟩ = some (.int .u8 0) := Rl.blk_cell h 12
  have f12 := Rl.blk_frozen h 12
  have c13 : w.cell? ⟨bb, 13, none⟩ = some (.int .u8 0) := Rl.blk_cell h 13
  have f13 := Rl.blk_frozen h 13
  have c14 : w.cell? ⟨bb, 14, none⟩ = some (.int .u8 0) := Rl.blk_cell h 14
  have f14 := Rl.blk_frozen h 14
  have c15 : w.cell? ⟨bb, 15, none⟩ = some (.int .u8 0) := Rl.blk_cell h 15
  have f15 := Rl.blk_frozen h 15
  have hlt := Rl.blk_lt h
  have H := Lib.hid h
  clear h
  go_enter Tryz.func114, Tryz.ntmps114
  go_wp2
  refine wp_loop_rounds 3 ?_
  rw [rounds_succ]
  go_wp2
  iterate 4 (go_region; go_wp2)
  rw [rounds_succ]
  go_wp2
  iterate 4 (go_region; go_wp2)
  rw [rounds_succ]
  go_wp2
  go_end0
  refine ⟨rfl, ?_, ?_⟩
  · simp only [Rl.drew_heap]
    refine (Rl.blk_set (Rl.blk_set (Rl.blk_set (Rl.blk_set (Rl.blk_set (Rl.blk_set (Rl.blk_set (Rl.blk_set (Rl.blk_set (Rl.blk_set (Rl.blk_set (Rl.blk_set (Rl.blk_set (Rl.blk_set (Rl.blk_set (Rl.blk_set H.out 15 _) 14 _) 13 _) 12 _) 11 _) 10 _) 9 _) 8 _) 7 _) 6 _) 5 _) 4 _) 3 _) 2 _) 1 _) 0 _).trans ?_
    kernel_rfl
  · (repeat (with_reducible refine Rl.gr_drew ?_)); (repeat (with_reducible refine Rl.gr_set ?_ _ _)); exact Rl.gr_refl _ _
end Go.Proofs.YtljmnafmnmmehaaGreatDoor
