/- Read at the text '-0'. -/
import Derived.Test.YtljmnafmnmmehaaGreatDoorBe
import Derived.Lib.Strings
import Derived.WalkMore
import Derived.WalkKit
import Derived.BigQuiet
import Derived.Deep.QuietTactic
import Derived.BigRegion
import Derived.Below
import Derived.Lib.Hide
import Derived.Outline
import Derived.OwnWalk
import Derived.WalkLawsBesides
import Derived.Handy
namespace Go.Proofs.YtljmnafmnmmehaaGreatDoor
open Go.RowKit
set_option linter.unusedVariables false
set_option linter.unusedSimpArgs false

set_option maxHeartbeats 8000000 in
set_option maxRecDepth 1000000 in
theorem special_mz (w : World) : Calls Tryz.prog 124 #[.string ⟨#[45, 48]⟩] w fun e w' => e = .returned (.tuple #[.float .f64 0, .int .i64 0, .bool false]) ∧ w = w' := by
  go_enter Tryz.func124, Tryz.ntmps124
  go_wp2
  refine wp_loop_rounds 2 ?_
  rw [rounds_succ]
  go_wp2
  go_ret3
  exact ⟨rfl, rfl⟩
set_option maxHeartbeats 8000000 in
set_option maxRecDepth 1000000 in
theorem readf_mz (w : World) : Calls Tryz.prog 125 #[.string ⟨#[45, 48]⟩] w fun e w' => e = .returned (.tuple #[.int .u64 0, .int .i64 0, .bool true, .bool false, .bool false, .int .i64 2, .bool true]) ∧ w = w' := by
  go_enter Tryz.func125, Tryz.ntmps125
  go_wp2
  go_step3
  go_wp2
  go_step3
  go_wp2
  refine wp_loop_rounds 3 ?_
  rw [rounds_succ]
  go_wp2
  rw [rounds_succ]
  go_wp2
  rw [Exit.noGoto_ret]
  change bodyPost Tryz.prog Tryz.f125 _ Exit.ret _ _
  go_returns
  exact ⟨rfl, rfl⟩
set_option maxHeartbeats 8000000 in
set_option maxRecDepth 1000000 in
theorem atof_mz (w : World) (ht : Rl.Tab w) : Calls Tryz.prog 99 #[.string ⟨#[45, 48]⟩] w fun e w' => e = .returned (.tuple #[.float .f64 9223372036854775808, .int .i64 2, .nilIface]) ∧ w = w' := by
  have t3 := ht.t3
  have hw := ht.hw
  have kr := Rl.run134
  have k1 : bits BinOp.or IntKind.u64 9223372036854775808 0 = 9223372036854775808 := by decide +kernel
  clear ht
  go_enter Tryz.func99, Tryz.ntmps99
  go_wp2_with (first
    | (go_at_call 124; (with_reducible refine (special_mz _).mono ?_); rintro e w2 ⟨rfl, rfl⟩)
    | (go_at_call 125; (with_reducible refine (readf_mz _).mono ?_); rintro e w2 ⟨rfl, rfl⟩)
    | (go_at_call 133; go_in))
  go_ret3
  exact ⟨rfl, rfl⟩
set_option maxHeartbeats 8000000 in
set_option maxRecDepth 1000000 in
theorem parse_mz (w : World) (ht : Rl.Tab w) : Calls Tryz.prog 62 #[.string ⟨#[45, 48]⟩, .int .i64 64] w fun e w' => e = .returned (.tuple #[.float .f64 9223372036854775808, .nilIface]) ∧ w = w' := by
  have HA := Lib.hid (atof_mz w ht)
  clear ht
  go_enter Tryz.func62, Tryz.ntmps62
  go_wp2_with (first
    | (go_at_call 99; (with_reducible refine HA.out.mono ?_); rintro e w2 ⟨rfl, rfl⟩)
    | (go_at_call 73; go_in)
    | (go_at_call 79; go_in))
  go_ret2
  exact ⟨rfl, rfl⟩
set_option maxHeartbeats 8000000 in
set_option maxRecDepth 1000000 in
theorem read_mz (w : World) (ht : Rl.Tab w) : Calls Tryz.prog 21 #[.string ⟨#[45, 48]⟩] w fun e w' => e = .returned (.tuple #[.float .f64 9223372036854775808, .int .i64 0]) ∧ Below w.heap.size w w' := by
  have HA := Lib.hid (parse_mz w ht)
  have HT := Lib.hid (text_mz w)
  clear ht
  go_enter Tryz.func21, Tryz.ntmps21
  go_wp2_with (first
    | (go_at_call 62; (with_reducible refine HA.out.mono ?_); rintro e w2 ⟨rfl, rfl⟩)
    | (go_at_call 20; (with_reducible refine HT.out.mono ?_); rintro e w3 ⟨rfl, hb3⟩))
  go_ret2
  exact ⟨rfl, hb3⟩
end Go.Proofs.YtljmnafmnmmehaaGreatDoor
