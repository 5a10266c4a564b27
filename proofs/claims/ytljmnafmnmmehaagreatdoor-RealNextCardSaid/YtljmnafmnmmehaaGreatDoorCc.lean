/- The witness's world: the listed variables laid. -/
import Derived.Test.YtljmnafmnmmehaaGreatDoorCa
namespace Go.Proofs.YtljmnafmnmmehaaGreatDoor
open Go.ChangeShapes Go.WideShapes Go.ChangeAt Go.RowKit
set_option maxRecDepth 100000
set_option maxHeartbeats 4000000
theorem Rl.wit_fits (os : Os) : (World.holding Tryz.prog os ⟨#[], #[], []⟩).layFits Tryz.prog Rl.laid [] = true := by kernel_rfl
theorem Rl.wit_ifaces (os : Os) : (World.holding Tryz.prog os ⟨#[], #[], []⟩).layIfaces Tryz.prog Rl.laid (World.laidAll Tryz.prog os Rl.laid) = true := by kernel_rfl
theorem Rl.wit_met (os : Os) (args : Array Value) : laidMetH Tryz.prog Rl.laid ((World.laidAll Tryz.prog os Rl.laid).forCall (fun _ _ => 0) ⟨#[], args, []⟩).memory := by
  rw [MakeChecks.laidMetH_plain _ _ _ (by kernel_rfl)]
  exact laidMet_laidAll args (Rl.wit_fits os) (Rl.wit_ifaces os)
theorem Rl.u64_nat {a : Int} (h : (Lit.int .u64 a).wf = true) : ∃ n : Nat, a = n ∧ n < 18446744073709551616 := by
  have h' : (decide (IntKind.u64.min ≤ a) && decide (a ≤ IntKind.u64.max)) = true := h
  rw [Bool.and_eq_true, decide_eq_true_eq, decide_eq_true_eq] at h'
  have e1 : IntKind.u64.min = 0 := by decide
  have e2 : IntKind.u64.max = 18446744073709551615 := by decide
  rw [e1, e2] at h'
  exact ⟨a.toNat, by omega, by omega⟩
theorem Rl.laidOut : laidOutB Tryz.prog = true := by kernel_rfl
#print axioms Rl.wit_met
end Go.Proofs.YtljmnafmnmmehaaGreatDoor
