/- Closed contracts: shortFloat at a half. -/
import Derived.Test.YtljmnafmnmmehaaGreatDoorProg
import Derived.WalkKit
import Derived.BigQuiet
import Derived.Deep.QuietTactic
import Derived.BigRegion
import Derived.Below
import Derived.Lib.Hide
import Derived.Outline
import Derived.OwnWalk
import Derived.WalkLawsBesides
import Derived.Handy
namespace Go.Proofs.YtljmnafmnmmehaaGreatDoor
open Go.RowKit
set_option linter.unusedVariables false
set_option linter.unusedSimpArgs false

set_option maxHeartbeats 4000000 in
set_option maxRecDepth 100000 in
theorem pre_half (w : World) (t0 : w.cell? ⟨7, 730, none⟩ = some (.int .u64 12800000000000000000)) (t1 : w.cell? ⟨7, 731, none⟩ = some (.int .u64 0)) (hw : 7 < w.heap.size) :
    Calls Tryz.prog 107 #[.pointer (some ⟨w.heap.size, 0, none⟩), .int .i64 (-64), .int .i64 17, .int .i64 56] (w.alloc (Obj.cells #[.int .u64 0, .int .u64 0, .int .i64 0] 133)) fun e w' => e = .returned (.tuple #[]) ∧ (w.alloc (Obj.cells #[.int .u64 12800000000000000000, .int .u64 0, .int .i64 5] 133)) = w' := by
  go_enter Tryz.func107, Tryz.ntmps107
  go_wp2
  go_end0
  exact ⟨rfl, rfl⟩

set_option maxHeartbeats 4000000 in
set_option maxRecDepth 100000 in
theorem us_a (w : World) :
    Calls Tryz.prog 109 #[.int .u64 9223372036854775296, .pointer (some ⟨w.heap.size, 0, none⟩)] (w.alloc (Obj.cells #[.int .u64 12800000000000000000, .int .u64 0, .int .i64 5] 133)) fun e w' => e = .returned (.int .u64 199999999999999989) ∧ (w.alloc (Obj.cells #[.int .u64 12800000000000000000, .int .u64 0, .int .i64 5] 133)) = w' := by
  have k3 : bits BinOp.and IntKind.u64 9223372036854775296 4294967295 = 4294966784 := by decide +kernel
  have k4 : bits BinOp.and IntKind.u64 12800000000000000000 4294967295 = 3305111552 := by decide +kernel
  have k5 : bits BinOp.and IntKind.u64 7097673012735901302 4294967295 = 4294966902 := by decide +kernel
  have k6 : IntKind.u64.wrap 118059162071741123788800000000000000000 = 13440890240600375296 := by decide +kernel
  have k1 : bits BinOp.and IntKind.i64 5 63 = 5 := by decide +kernel
  have k2 : bits BinOp.or IntKind.u64 199999999999999988 1 = 199999999999999989 := by decide +kernel
  go_enter Tryz.func109, Tryz.ntmps109
  go_wp2
  go_ret
  exact ⟨rfl, rfl⟩

set_option maxHeartbeats 4000000 in
set_option maxRecDepth 100000 in
theorem us_b (w : World) :
    Calls Tryz.prog 109 #[.int .u64 9223372036854776832, .pointer (some ⟨w.heap.size, 0, none⟩)] (w.alloc (Obj.cells #[.int .u64 12800000000000000000, .int .u64 0, .int .i64 5] 133)) fun e w' => e = .returned (.int .u64 200000000000000023) ∧ (w.alloc (Obj.cells #[.int .u64 12800000000000000000, .int .u64 0, .int .i64 5] 133)) = w' := by
  have k9 : bits BinOp.and IntKind.u64 9223372036854776832 4294967295 = 1024 := by decide +kernel
  have k10 : bits BinOp.and IntKind.u64 12800000000000000000 4294967295 = 3305111552 := by decide +kernel
  have k11 : bits BinOp.and IntKind.u64 7097673012735902484 4294967295 = 788 := by decide +kernel
  have k12 : IntKind.u64.wrap 118059162071741143449600000000000000000 = 10011707666218352640 := by decide +kernel
  have k7 : bits BinOp.and IntKind.i64 5 63 = 5 := by decide +kernel
  have k8 : bits BinOp.or IntKind.u64 200000000000000022 1 = 200000000000000023 := by decide +kernel
  go_enter Tryz.func109, Tryz.ntmps109
  go_wp2
  go_ret
  exact ⟨rfl, rfl⟩

set_option maxHeartbeats 4000000 in
set_option maxRecDepth 100000 in
theorem short_half (w : World) (t0 : w.cell? ⟨7, 730, none⟩ = some (.int .u64 12800000000000000000)) (t1 : w.cell? ⟨7, 731, none⟩ = some (.int .u64 0)) (hw : 7 < w.heap.size) :
    Calls Tryz.prog 97 #[.int .u64 9223372036854775808, .int .i64 (-64)] w fun e w' => e = .returned (.tuple #[.int .u64 5000000000000000, .int .i64 (-16)]) ∧ Below w.heap.size w w' := by
  have hp := pre_half w t0 t1 hw
  have HP := Lib.hid hp
  clear hp
  have k13 : bits BinOp.and IntKind.i64 4503599627370496 1 = 0 := by decide +kernel
  go_enter Tryz.func97, Tryz.ntmps97
  go_wp2_with (first | (go_at_call 107; (with_reducible refine HP.out.mono ?_); rintro e w2 ⟨rfl, rfl⟩) | (go_at_call 109; first | ((with_reducible refine (us_a _).mono ?_); rintro e w2 ⟨rfl, rfl⟩) | ((with_reducible refine (us_b _).mono ?_); rintro e w2 ⟨rfl, rfl⟩)) | (go_at_call 106; go_in) | (go_at_call 108; go_in) | (go_at_call 110; go_in) | (go_at_call 111; go_in) | (go_at_call 112; go_in) | (go_at_call 92; go_in))
  go_ret2
  exact ⟨rfl, (Below.refl _ _).alloc (Nat.le_refl _) _⟩

end Go.Proofs.YtljmnafmnmmehaaGreatDoor
