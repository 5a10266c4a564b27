/- Closed contracts: ftoa64 at minus nought and at a half. -/
import Derived.Test.YtljmnafmnmmehaaGreatDoorBc
import Derived.Laws.Externs
import Derived.Deep.RegionWith
import Derived.WalkKit
import Derived.BigQuiet
import Derived.Deep.QuietTactic
import Derived.BigRegion
import Derived.Below
import Derived.Lib.Hide
import Derived.Outline
import Derived.OwnWalk
import Derived.WalkLawsBesides
import Derived.Handy
namespace Go.Proofs.YtljmnafmnmmehaaGreatDoor
open Go.RowKit
set_option linter.unusedVariables false
set_option linter.unusedSimpArgs false

/-- The cells of Go's tables that the call reads. -/
structure Rl.Tab (w : World) : Prop where
  hw : 7 < w.heap.size
  t0 : w.cell? ⟨7, 730, none⟩ = some (.int .u64 12800000000000000000)
  t1 : w.cell? ⟨7, 731, none⟩ = some (.int .u64 0)
  t2 : w.cell? ⟨4, 15, none⟩ = some (.int .u64 1000000000000000)
  t3 : w.cell? ⟨1, 0, none⟩ = some (.bool true)
theorem Rl.Tab.grown {w w' : World} {r : Option Nat} (h : Rl.Tab w) (hg : w.grownBy w' r) (hr : ∀ k, r = some k → 7 < k) : Rl.Tab w' := by
  have e : ∀ g j, g ≤ 7 → w'.cell? ⟨g, j, none⟩ = w.cell? ⟨g, j, none⟩ := fun g j hj => World.cell?_of_block (hg.block g (Nat.lt_of_le_of_lt hj h.hw) (fun e => by have := hr g e.symm; omega))
  exact ⟨Nat.lt_of_lt_of_le h.hw hg.size, (e _ _ (by omega)).trans h.t0, (e _ _ (by omega)).trans h.t1, (e _ _ (by omega)).trans h.t2, (e _ _ (by omega)).trans h.t3⟩
theorem Rl.gr_below {w w' : World} (h : Below w.heap.size w w') : w.grownBy w' none := ⟨h.os, h.tape, h.output, h.size, fun i hi _ => h.block i hi⟩
theorem Rl.gr_mono {w w' : World} {r : Option Nat} (h : w.grownBy w' none) : w.grownBy w' r := ⟨h.os, h.tape, h.output, h.size, fun i hi _ => h.block i hi (by simp)⟩
theorem Rl.gr_undrew {w w' : World} {r : Option Nat} (h : w.drew.grownBy w' r) : w.grownBy w' r := ⟨h.os, h.tape, h.output, h.size, h.block⟩
theorem Rl.gr_trans {w w1 w2 : World} {r : Option Nat} (h : w.grownBy w1 r) (k : w1.grownBy w2 r) : w.grownBy w2 r :=
  ⟨k.os.trans h.os, k.tape.trans h.tape, k.output.trans h.output, Nat.le_trans h.size k.size, fun i hi hne => (k.block i (Nat.lt_of_lt_of_le hi h.size) hne).trans (h.block i hi hne)⟩
theorem Rl.gr_new {w w1 w2 : World} {g : Nat} {r : Option Nat} (h : w.grownBy w1 r) (k : w1.grownBy w2 (some g)) (hg : w.heap.size ≤ g) : w.grownBy w2 r :=
  ⟨k.os.trans h.os, k.tape.trans h.tape, k.output.trans h.output, Nat.le_trans h.size k.size, fun i hi hne => (k.block i (Nat.lt_of_lt_of_le hi h.size) (fun e => by injection e with e; omega)).trans (h.block i hi hne)⟩
theorem Rl.blk_grown {w w1 : World} {g : Nat} {o : Obj} {r : Option Nat} (h : w.heap[g]? = some o) (hg : w.grownBy w1 r) (hne : some g ≠ r) : w1.heap[g]? = some o := (hg.block g (Rl.blk_lt h) hne).trans h
theorem Rl.run55 (b : Nat) (w : World) : Sem.run Tryz.prog (callFunc 55 #[.float .f64 b]) w = .ok (.value (.int .u64 b)) w := by
  have h := run_callFunc_extern (P := Tryz.prog) Tryz.func55 (by kernel_rfl) (by kernel_rfl) (by kernel_rfl) (e := Extern.MathFloatBits.float64bits) (by kernel_rfl) #[.float .f64 b] w
  exact h
theorem Rl.run85 (b : Nat) (w : World) : Sem.run Tryz.prog (callFunc 85 #[.float .f64 b]) w = .ok (.value (.int .u64 b)) w := by
  have h := run_callFunc_extern (P := Tryz.prog) Tryz.func85 (by kernel_rfl) (by kernel_rfl) (by kernel_rfl) (e := Extern.MathFloatBits.float64bits) (by kernel_rfl) #[.float .f64 b] w
  exact h
theorem Rl.run27 (n : Int) (w : World) : Sem.run Tryz.prog (callFunc 27 #[.int .u64 n]) w = .ok (.value (.float .f64 n.toNat)) w := by
  have h := run_callFunc_extern (P := Tryz.prog) Tryz.func27 (by kernel_rfl) (by kernel_rfl) (by kernel_rfl) (e := Extern.MathFloatBits.float64frombits) (by kernel_rfl) #[.int .u64 n] w
  exact h
theorem Rl.run134 (n : Int) (w : World) : Sem.run Tryz.prog (callFunc 134 #[.int .u64 n]) w = .ok (.value (.float .f64 n.toNat)) w := by
  have h := run_callFunc_extern (P := Tryz.prog) Tryz.func134 (by kernel_rfl) (by kernel_rfl) (by kernel_rfl) (e := Extern.MathFloatBits.float64frombits) (by kernel_rfl) #[.int .u64 n] w
  exact h

set_option maxHeartbeats 8000000 in
set_option maxRecDepth 100000 in
theorem ft_mz (w : World) (db : Nat) (h : w.heap[db]? = some (.cells #[.int .u8 0, .int .u8 0, .int .u8 0, .int .u8 0, .int .u8 0, .int .u8 0, .int .u8 0, .int .u8 0, .int .u8 0, .int .u8 0, .int .u8 0, .int .u8 0, .int .u8 0, .int .u8 0, .int .u8 0, .int .u8 0, .int .u8 0, .int .u8 0, .int .u8 0, .int .u8 0, .int .u8 0, .int .u8 0, .int .u8 0, .int .u8 0] 5 (0, 0))) : Calls Tryz.prog 78 #[.slice (some ⟨db, 0, none⟩) 0 24, .float .f64 9223372036854775808, .int .u8 103, .int .i64 (-1)] w fun e w' => e = .returned (.slice (some ⟨db, 0, none⟩) 2 24) ∧ w'.heap[db]? = some (.cells #[.int .u8 45, .int .u8 48, .int .u8 0, .int .u8 0, .int .u8 0, .int .u8 0, .int .u8 0, .int .u8 0, .int .u8 0, .int .u8 0, .int .u8 0, .int .u8 0, .int .u8 0, .int .u8 0, .int .u8 0, .int .u8 0, .int .u8 0, .int .u8 0, .int .u8 0, .int .u8 0, .int .u8 0, .int .u8 0, .int .u8 0, .int .u8 0] 5 (0, 0)) ∧ w.grownBy w' (some db) := by
  have k1 : bits BinOp.and IntKind.u64 9223372036854775808 4503599627370495 = 0 := by decide +kernel
  have k2 : bits BinOp.and IntKind.i64 2048 2047 = 0 := by decide +kernel
  have H := Lib.hid h
  have kb := Rl.run85
  clear h
  go_enter Tryz.func78, Tryz.ntmps78
  go_wp2_with fail
  go_region
  go_wp2_with (go_at_call 88; (with_reducible refine (eg_mz _ db (Rl.blk_drew H.out)).mono ?_); rintro e w2 ⟨rfl, h2, hg2⟩)
  go_ret
  exact ⟨rfl, h2, Rl.gr_undrew hg2⟩

set_option maxHeartbeats 8000000 in
set_option maxRecDepth 100000 in
theorem ft_half (w : World) (db : Nat) (h : w.heap[db]? = some (.cells #[.int .u8 0, .int .u8 0, .int .u8 0, .int .u8 0, .int .u8 0, .int .u8 0, .int .u8 0, .int .u8 0, .int .u8 0, .int .u8 0, .int .u8 0, .int .u8 0, .int .u8 0, .int .u8 0, .int .u8 0, .int .u8 0, .int .u8 0, .int .u8 0, .int .u8 0, .int .u8 0, .int .u8 0, .int .u8 0, .int .u8 0, .int .u8 0] 5 (0, 0))) (ht : Rl.Tab w) :
    Calls Tryz.prog 78 #[.slice (some ⟨db, 0, none⟩) 0 24, .float .f64 4602678819172646912, .int .u8 103, .int .i64 (-1)] w fun e w' => e = .returned (.slice (some ⟨db, 0, none⟩) 3 24) ∧ w'.heap[db]? = some (.cells #[.int .u8 48, .int .u8 46, .int .u8 53, .int .u8 0, .int .u8 0, .int .u8 0, .int .u8 0, .int .u8 0, .int .u8 0, .int .u8 0, .int .u8 0, .int .u8 0, .int .u8 0, .int .u8 0, .int .u8 0, .int .u8 0, .int .u8 0, .int .u8 0, .int .u8 0, .int .u8 0, .int .u8 0, .int .u8 0, .int .u8 0, .int .u8 0] 5 (0, 0)) ∧ w.grownBy w' (some db) := by
  have k3 : bits BinOp.and IntKind.u64 4602678819172646912 4503599627370495 = 0 := by decide +kernel
  have k4 : bits BinOp.and IntKind.i64 1022 2047 = 1022 := by decide +kernel
  have k5 : bits BinOp.or IntKind.u64 0 4503599627370496 = 4503599627370496 := by decide +kernel
  have kb := Rl.run85
  have H := Lib.hid h
  have HT := Lib.hid ht
  have hltdb := Rl.blk_lt h
  clear h ht
  go_enter Tryz.func78, Tryz.ntmps78
  go_wp2_with fail
  go_region
  go_wp2_with (first
    | (go_at_call 76; (with_reducible refine (len_m _).mono ?_); rintro e w2 ⟨rfl, rfl⟩)
    | (go_at_call 97; obtain ⟨w2, hw2⟩ : ∃ w2, (w.alloc (Obj.cells #[.int .u8 0, .int .u8 0, .int .u8 0, .int .u8 0, .int .u8 0, .int .u8 0, .int .u8 0, .int .u8 0, .int .u8 0, .int .u8 0, .int .u8 0, .int .u8 0, .int .u8 0, .int .u8 0, .int .u8 0, .int .u8 0, .int .u8 0, .int .u8 0, .int .u8 0, .int .u8 0, .int .u8 0, .int .u8 0, .int .u8 0, .int .u8 0, .int .u8 0, .int .u8 0, .int .u8 0, .int .u8 0, .int .u8 0, .int .u8 0, .int .u8 0, .int .u8 0] 107)).drew = w2 := ⟨_, rfl⟩; rw [hw2]; have hg2 : w.grownBy w2 none := (by rw [← hw2]; exact Rl.gr_drew (Rl.gr_alloc (Rl.gr_refl _ _) _)); have hz2 : w2.heap[w.heap.size]? = some (.cells #[.int .u8 0, .int .u8 0, .int .u8 0, .int .u8 0, .int .u8 0, .int .u8 0, .int .u8 0, .int .u8 0, .int .u8 0, .int .u8 0, .int .u8 0, .int .u8 0, .int .u8 0, .int .u8 0, .int .u8 0, .int .u8 0, .int .u8 0, .int .u8 0, .int .u8 0, .int .u8 0, .int .u8 0, .int .u8 0, .int .u8 0, .int .u8 0, .int .u8 0, .int .u8 0, .int .u8 0, .int .u8 0, .int .u8 0, .int .u8 0, .int .u8 0, .int .u8 0] 107 (0, 0)) := (by rw [← hw2]; exact heap_alloc_new w _); have ht2 := HT.out.grown hg2 (by simp); clear hw2; (with_reducible refine (short_half w2 ht2.t0 ht2.t1 ht2.hw).mono ?_); rintro e w3 ⟨rfl, hb3⟩; have HG3 := Lib.hid (Rl.gr_trans hg2 (Rl.gr_below hb3)); have hz3 := Rl.blk_grown hz2 (Rl.gr_below hb3) (by simp); have HT3 := Lib.hid (ht2.grown (Rl.gr_below hb3) (by simp)); have hlt3 := Rl.blk_lt hz3; have HZ3 := Lib.hid hz3; have hlt4 : 4 < w3.heap.size := (by have := HT3.out.hw; omega); clear hg2 hz2 ht2 hb3 hz3))
  have HN := Lib.hid (num_d w3.drew HT3.out.t2 hlt4)
  have HS := Lib.hid (set_d w3.drew _ HZ3.out)
  go_region_with (first
    | (go_at_call 91; (with_reducible refine HN.out.mono ?_); rintro e w4 ⟨rfl, rfl⟩)
    | (go_at_call 90; (with_reducible refine HS.out.mono ?_); rintro e w5 ⟨rfl, h5, hg5⟩))
  have hdb5 := Rl.blk_grown (Rl.blk_grown H.out HG3.out (by simp)) (Rl.gr_undrew hg5) (fun e => by injection e with e; omega)
  have hg05 : w.grownBy w5 none := Rl.gr_new HG3.out (Rl.gr_undrew hg5) (Nat.le_refl _)
  have hlt5 := Rl.blk_lt h5
  have HE := Lib.hid (eg_half w5 db _ hdb5 h5)
  have HG5 := Lib.hid hg05
  clear hdb5 hg05 h5 hg5
  go_wp2_with (go_at_call 88; (with_reducible refine HE.out.mono ?_); rintro e w6 ⟨rfl, h6, hg6⟩)
  go_ret
  exact ⟨rfl, h6, Rl.gr_trans (Rl.gr_mono HG5.out) hg6⟩
end Go.Proofs.YtljmnafmnmmehaaGreatDoor
