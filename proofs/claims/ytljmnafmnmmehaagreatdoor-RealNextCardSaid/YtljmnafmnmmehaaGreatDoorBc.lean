/- Closed contracts: the digits laid, the text of a half. -/
import Derived.Test.YtljmnafmnmmehaaGreatDoorBb
import Derived.WalkKit
import Derived.BigQuiet
import Derived.Deep.QuietTactic
import Derived.BigRegion
import Derived.Below
import Derived.Lib.Hide
import Derived.Outline
import Derived.OwnWalk
import Derived.WalkLawsBesides
import Derived.Handy
namespace Go.Proofs.YtljmnafmnmmehaaGreatDoor
open Go.RowKit
set_option linter.unusedVariables false
set_option linter.unusedSimpArgs false

theorem Rl.blk_alloc {w : World} {g : Nat} {o : Obj} (h : w.heap[g]? = some o) (o' : Obj) : (w.alloc o').heap[g]? = some o := (Below.heap_alloc w o' g (Rl.blk_lt h)).trans h
theorem Rl.gr_alloc {w w1 : World} {r : Option Nat} (h : w.grownBy w1 r) (o : Obj) : w.grownBy (w1.alloc o) r :=
  ⟨h.os, h.tape, h.output, by have := h.size; simp; omega, fun k hk hne => (Below.heap_alloc w1 o k (Nat.lt_of_lt_of_le hk h.size)).trans (h.block k hk hne)⟩

set_option maxHeartbeats 8000000 in
set_option maxRecDepth 100000 in
theorem set_d (w : World) (bb : Nat) (h : w.heap[bb]? = some (.cells #[.int .u8 0, .int .u8 0, .int .u8 0, .int .u8 0, .int .u8 0, .int .u8 0, .int .u8 0, .int .u8 0, .int .u8 0, .int .u8 0, .int .u8 0, .int .u8 0, .int .u8 0, .int .u8 0, .int .u8 0, .int .u8 0, .int .u8 0, .int .u8 0, .int .u8 0, .int .u8 0, .int .u8 0, .int .u8 0, .int .u8 0, .int .u8 0, .int .u8 0, .int .u8 0, .int .u8 0, .int .u8 0, .int .u8 0, .int .u8 0, .int .u8 0, .int .u8 0] 107 (0, 0))) : Calls Tryz.prog 90 #[.slice (some ⟨bb, 0, none⟩) 32 32, .int .u64 5000000000000000, .int .i64 (-16), .int .i64 16] w fun e w' => e = .returned (.tuple #[.int .i64 0, .int .i64 1]) ∧ w'.heap[bb]? = some (.cells #[.int .u8 53, .int .u8 48, .int .u8 48, .int .u8 48, .int .u8 48, .int .u8 48, .int .u8 48, .int .u8 48, .int .u8 48, .int .u8 48, .int .u8 48, .int .u8 48, .int .u8 48, .int .u8 48, .int .u8 48, .int .u8 48, .int .u8 0, .int .u8 0, .int .u8 0, .int .u8 0, .int .u8 0, .int .u8 0, .int .u8 0, .int .u8 0, .int .u8 0, .int .u8 0, .int .u8 0, .int .u8 0, .int .u8 0, .int .u8 0, .int .u8 0, .int .u8 0] 107 (0, 0)) ∧ w.grownBy w' (some bb) := by
  have hf := fmt10_d w bb h
  have HF := Lib.hid hf
  have hlt := Rl.blk_lt h
  clear hf h
  go_enter Tryz.func90, Tryz.ntmps90
  go_wp2_with (go_at_call 114; (with_reducible refine HF.out.mono ?_); rintro e w2 ⟨rfl, h2, hg2⟩; have c0 : w2.cell? ⟨bb, 0, none⟩ = some (.int .u8 53) := Rl.blk_cell h2 0; have c1 : w2.cell? ⟨bb, 1, none⟩ = some (.int .u8 48) := Rl.blk_cell h2 1; have c2 : w2.cell? ⟨bb, 2, none⟩ = some (.int .u8 48) := Rl.blk_cell h2 2; have c3 : w2.cell? ⟨bb, 3, none⟩ = some (.int .u8 48) := Rl.blk_cell h2 3; have c4 : w2.cell? ⟨bb, 4, none⟩ = some (.int .u8 48) := Rl.blk_cell h2 4; have c5 : w2.cell? ⟨bb, 5, none⟩ = some (.int .u8 48) := Rl.blk_cell h2 5; have c6 : w2.cell? ⟨bb, 6, none⟩ = some (.int .u8 48) := Rl.blk_cell h2 6; have c7 : w2.cell? ⟨bb, 7, none⟩ = some (.int .u8 48) := Rl.blk_cell h2 7; have c8 : w2.cell? ⟨bb, 8, none⟩ = some (.int .u8 48) := Rl.blk_cell h2 8; have c9 : w2.cell? ⟨bb, 9, none⟩ = some (.int .u8 48) := Rl.blk_cell h2 9; have c10 : w2.cell? ⟨bb, 10, none⟩ = some (.int .u8 48) := Rl.blk_cell h2 10; have c11 : w2.cell? ⟨bb, 11, none⟩ = some (.int .u8 48) := Rl.blk_cell h2 11; have c12 : w2.cell? ⟨bb, 12, none⟩ = some (.int .u8 48) := Rl.blk_cell h2 12; have c13 : w2.cell? ⟨bb, 13, none⟩ = some (.int .u8 48) := Rl.blk_cell h2 13; have c14 : w2.cell? ⟨bb, 14, none⟩ = some (.int .u8 48) := Rl.blk_cell h2 14; have c15 : w2.cell? ⟨bb, 15, none⟩ = some (.int .u8 48) := Rl.blk_cell h2 15; have hlt2 := Rl.blk_lt h2; have H2 := Lib.hid h2; have G2 := Lib.hid hg2; clear h2 hg2)
  refine wp_loop_rounds 17 ?_
  iterate 16 (rw [rounds_succ]; go_wp2)
  go_ret2
  exact ⟨rfl, H2.out, G2.out⟩
set_option maxHeartbeats 8000000 in
set_option maxRecDepth 100000 in
theorem eg_mz (w : World) (db : Nat) (h : w.heap[db]? = some (.cells #[.int .u8 0, .int .u8 0, .int .u8 0, .int .u8 0, .int .u8 0, .int .u8 0, .int .u8 0, .int .u8 0, .int .u8 0, .int .u8 0, .int .u8 0, .int .u8 0, .int .u8 0, .int .u8 0, .int .u8 0, .int .u8 0, .int .u8 0, .int .u8 0, .int .u8 0, .int .u8 0, .int .u8 0, .int .u8 0, .int .u8 0, .int .u8 0] 5 (0, 0))) : Calls Tryz.prog 88 #[.slice (some ⟨db, 0, none⟩) 0 24, .bool true, .slice none 0 0, .int .i64 0, .int .i64 0, .int .i64 (-1), .int .u8 103, .bool true] w fun e w' => e = .returned (.slice (some ⟨db, 0, none⟩) 2 24) ∧ w'.heap[db]? = some (.cells #[.int .u8 45, .int .u8 48, .int .u8 0, .int .u8 0, .int .u8 0, .int .u8 0, .int .u8 0, .int .u8 0, .int .u8 0, .int .u8 0, .int .u8 0, .int .u8 0, .int .u8 0, .int .u8 0, .int .u8 0, .int .u8 0, .int .u8 0, .int .u8 0, .int .u8 0, .int .u8 0, .int .u8 0, .int .u8 0, .int .u8 0, .int .u8 0] 5 (0, 0)) ∧ w.grownBy w' (some db) := by
  have c0 : w.cell? ⟨db, 0, none⟩ = some (.int .u8 0) := Rl.blk_cell h 0
  have c1 : w.cell? ⟨db, 1, none⟩ = some (.int .u8 0) := Rl.blk_cell h 1
  have f0 := Rl.blk_frozen h 0
  have f1 := Rl.blk_frozen h 1
  have hlt := Rl.blk_lt h
  have H := Lib.hid h
  clear h
  go_enter Tryz.func88, Tryz.ntmps88
  go_wp2
  go_ret
  refine ⟨rfl, (Rl.blk_alloc (Rl.blk_alloc (Rl.blk_set (Rl.blk_set H.out 0 _) 1 _) _) _).trans (by kernel_rfl), ?_⟩
  exact Rl.gr_alloc (Rl.gr_alloc (Rl.gr_set (Rl.gr_set (Rl.gr_refl _ _) _ _) _ _) _) _
set_option maxHeartbeats 8000000 in
set_option maxRecDepth 100000 in
theorem eg_half (w : World) (db bb : Nat) (h : w.heap[db]? = some (.cells #[.int .u8 0, .int .u8 0, .int .u8 0, .int .u8 0, .int .u8 0, .int .u8 0, .int .u8 0, .int .u8 0, .int .u8 0, .int .u8 0, .int .u8 0, .int .u8 0, .int .u8 0, .int .u8 0, .int .u8 0, .int .u8 0, .int .u8 0, .int .u8 0, .int .u8 0, .int .u8 0, .int .u8 0, .int .u8 0, .int .u8 0, .int .u8 0] 5 (0, 0))) (hb : w.heap[bb]? = some (.cells #[.int .u8 53, .int .u8 48, .int .u8 48, .int .u8 48, .int .u8 48, .int .u8 48, .int .u8 48, .int .u8 48, .int .u8 48, .int .u8 48, .int .u8 48, .int .u8 48, .int .u8 48, .int .u8 48, .int .u8 48, .int .u8 48, .int .u8 0, .int .u8 0, .int .u8 0, .int .u8 0, .int .u8 0, .int .u8 0, .int .u8 0, .int .u8 0, .int .u8 0, .int .u8 0, .int .u8 0, .int .u8 0, .int .u8 0, .int .u8 0, .int .u8 0, .int .u8 0] 107 (0, 0))) : Calls Tryz.prog 88 #[.slice (some ⟨db, 0, none⟩) 0 24, .bool false, .slice (some ⟨bb, 0, none⟩) 32 32, .int .i64 0, .int .i64 1, .int .i64 1, .int .u8 103, .bool true] w fun e w' => e = .returned (.slice (some ⟨db, 0, none⟩) 3 24) ∧ w'.heap[db]? = some (.cells #[.int .u8 48, .int .u8 46, .int .u8 53, .int .u8 0, .int .u8 0, .int .u8 0, .int .u8 0, .int .u8 0, .int .u8 0, .int .u8 0, .int .u8 0, .int .u8 0, .int .u8 0, .int .u8 0, .int .u8 0, .int .u8 0, .int .u8 0, .int .u8 0, .int .u8 0, .int .u8 0, .int .u8 0, .int .u8 0, .int .u8 0, .int .u8 0] 5 (0, 0)) ∧ w.grownBy w' (some db) := by
  have c0 : w.cell? ⟨db, 0, none⟩ = some (.int .u8 0) := Rl.blk_cell h 0
  have c1 : w.cell? ⟨db, 1, none⟩ = some (.int .u8 0) := Rl.blk_cell h 1
  have c2 : w.cell? ⟨db, 2, none⟩ = some (.int .u8 0) := Rl.blk_cell h 2
  have d0 : w.cell? ⟨bb, 0, none⟩ = some (.int .u8 53) := Rl.blk_cell hb 0
  have hne : db ≠ bb := by
    rintro rfl
    rw [h] at hb
    injection hb with hb
    injection hb with _ hb _
    cases hb
  have hne2 : bb ≠ db := fun e => hne e.symm
  have f0 := Rl.blk_frozen h 0
  have f1 := Rl.blk_frozen h 1
  have f2 := Rl.blk_frozen h 2
  have hlt := Rl.blk_lt h
  have hltb := Rl.blk_lt hb
  have H := Lib.hid h
  have HB := Lib.hid hb
  clear h hb
  go_enter Tryz.func88, Tryz.ntmps88
  go_wp2
  refine wp_loop_rounds 1 ?_
  rw [rounds_succ]
  go_wp2
  obtain ⟨w3, hw3⟩ : ∃ w3, (((w.setCell ⟨db, 0, none⟩ (.int .u8 48)).setCell ⟨db, 1, none⟩ (.int .u8 46)).alloc (Obj.cells #[.int .u8 48] 5)).alloc (Obj.cells #[.int .u8 46] 5) = w3 := ⟨_, rfl⟩
  have hdb3 : w3.heap[db]? = some (.cells #[.int .u8 48, .int .u8 46, .int .u8 0, .int .u8 0, .int .u8 0, .int .u8 0, .int .u8 0, .int .u8 0, .int .u8 0, .int .u8 0, .int .u8 0, .int .u8 0, .int .u8 0, .int .u8 0, .int .u8 0, .int .u8 0, .int .u8 0, .int .u8 0, .int .u8 0, .int .u8 0, .int .u8 0, .int .u8 0, .int .u8 0, .int .u8 0] 5 (0, 0)) := by
    rw [← hw3]
    exact (Rl.blk_alloc (Rl.blk_alloc (Rl.blk_set (Rl.blk_set H.out 0 _) 1 _) _) _).trans (by kernel_rfl)
  have hg3 : w.grownBy w3 (some db) := by
    rw [← hw3]
    exact Rl.gr_alloc (Rl.gr_alloc (Rl.gr_set (Rl.gr_set (Rl.gr_refl _ _) _ _) _ _) _) _
  have hbb3 := (hg3.block bb hltb (fun e => hne2 (by injection e))).trans HB.out
  rw [hw3]
  have e2 : w3.cell? ⟨db, 2, none⟩ = some (.int .u8 0) := Rl.blk_cell hdb3 2
  have g2 := Rl.blk_frozen hdb3 2
  have e0 : w3.cell? ⟨bb, 0, none⟩ = some (.int .u8 53) := Rl.blk_cell hbb3 0
  have hlt3 := Rl.blk_lt hdb3
  have hltb3 := Rl.blk_lt hbb3
  have H3 := Lib.hid hdb3
  have G3 := Lib.hid hg3
  clear hw3 hdb3 hg3 hbb3 c0 c1 c2 d0 f0 f1 f2 hlt hltb
  refine wp_loop_rounds 2 ?_
  rw [rounds_succ]
  go_wp2
  rw [rounds_succ]
  go_wp2
  refine wp_loop_rounds 1 ?_
  rw [rounds_succ]
  go_wp2
  go_ret
  refine ⟨rfl, (Rl.blk_alloc (Rl.blk_set H3.out 2 _) _).trans (by kernel_rfl), ?_⟩
  exact Rl.gr_alloc (Rl.gr_set G3.out _ _) _
end Go.Proofs.YtljmnafmnmmehaaGreatDoor
