/- Unkey. -/
import Derived.Test.YtljmnafmnmmehaaGreatDoorBf
import Derived.WalkKit
import Derived.BigQuiet
import Derived.Deep.QuietTactic
import Derived.BigRegion
import Derived.Below
import Derived.Lib.Hide
import Derived.Outline
import Derived.OwnWalk
import Derived.WalkLawsBesides
import Derived.Handy
namespace Go.Proofs.YtljmnafmnmmehaaGreatDoor
open Go.RowKit
set_option linter.unusedVariables false
set_option linter.unusedSimpArgs false

/-- The number's word that a key leads back to. -/
def Rl.backF (k : Nat) : Nat := if 9223372036854775808 ≤ k then k % 9223372036854775808 else 18446744073709551615 - k
def Rl.unkV (k : Nat) : Nat := if k = 18446744073709551615 then 9221120237041090561 else if Rl.isN (Rl.backF k) then 0 else Rl.backF k
def Rl.unkB (k : Nat) : Bool := decide (k = 18446744073709551615) || !decide (Rl.isN (Rl.backF k))
theorem Rl.unk_key (a : Nat) (ha : a < 18446744073709551616) : Rl.unkV (Rl.keyF a) = (if Rl.isN a then 9221120237041090561 else a) ∧ Rl.unkB (Rl.keyF a) = true := by
  unfold Rl.unkV Rl.unkB Rl.keyF
  by_cases h : Rl.isN a
  · rw [if_pos h, if_pos h, if_pos rfl]
    exact ⟨rfl, by rw [decide_eq_true rfl]; rfl⟩
  · rw [if_neg h, if_neg h]
    have h' := h
    unfold Rl.isN at h'
    by_cases h2 : 9223372036854775808 ≤ a
    · rw [if_pos h2]
      have e : Rl.backF (18446744073709551615 - a) = a := by
        unfold Rl.backF
        rw [if_neg (by omega)]
        omega
      rw [e, if_neg (by omega), if_neg h, decide_eq_false h]
      exact ⟨rfl, by simp⟩
    · rw [if_neg h2]
      have e : Rl.backF (a + 9223372036854775808) = a := by
        unfold Rl.backF
        rw [if_pos (by omega)]
        omega
      rw [e, if_neg (by omega), if_neg h, decide_eq_false h]
      exact ⟨rfl, by simp⟩
set_option maxHeartbeats 8000000 in
set_option maxRecDepth 100000 in
theorem unkey_any (k : Nat) (hk : k < 18446744073709551616) (w : World) : Calls Tryz.prog 31 #[.int .u64 (k : Nat)] w fun e w' => e = .returned (.tuple #[.float .f64 (Rl.unkV k), .bool (Rl.unkB k)]) ∧ w = w' := by
  have kr := Rl.run27
  have HN := Lib.hid none_any
  unfold Rl.unkV Rl.unkB
  by_cases h0 : k = 18446744073709551615
  · rw [if_pos h0, decide_eq_true h0]
    have e0 : ((k : Int) == 18446744073709551615) = true := by rw [beq_iff_eq]; omega
    clear h0 hk
    go_enter Tryz.func31, Tryz.ntmps31
    go_wp2_with (first
      | (go_at_call 51; (with_reducible refine (HN.out _).mono ?_); rintro e w2 ⟨rfl, rfl⟩))
    go_ret2
    exact ⟨rfl, rfl⟩
  · have e0 : ((k : Int) == 18446744073709551615) = false := by rw [beq_eq_false_iff_ne]; omega
    rw [if_neg h0, decide_eq_false h0]
    have ka := Rl.andnot_top k hk
    by_cases h1 : 9223372036854775808 ≤ k
    · have eb : Rl.backF k = k % 9223372036854775808 := by unfold Rl.backF; rw [if_pos h1]
      have e1 : decide ((k : Int) < 9223372036854775808) = false := decide_eq_false (by omega)
      have hr : k % 9223372036854775808 < 18446744073709551616 := by omega
      rw [eb]
      have kb := Rl.andnot_top (k % 9223372036854775808) hr
      rw [show k % 9223372036854775808 % 9223372036854775808 = k % 9223372036854775808 by omega] at kb
      by_cases h2 : Rl.isN (k % 9223372036854775808)
      · have e2 : decide ((9218868437227405312 : Int) < ((k % 9223372036854775808 : Nat) : Int)) = true := decide_eq_true (by unfold Rl.isN at h2; omega)
        rw [if_pos h2, decide_eq_true h2]
        generalize k % 9223372036854775808 = r at *
        clear h0 hk h1 h2 hr eb
        go_enter Tryz.func31, Tryz.ntmps31
        go_wp2
        go_ret2
        exact ⟨rfl, rfl⟩
      · have e2 : decide ((9218868437227405312 : Int) < ((k % 9223372036854775808 : Nat) : Int)) = false := decide_eq_false (by unfold Rl.isN at h2; omega)
        rw [if_neg h2, decide_eq_false h2]
        generalize k % 9223372036854775808 = r at *
        clear h0 hk h1 h2 hr eb
        go_enter Tryz.func31, Tryz.ntmps31
        go_wp2
        go_ret2
        exact ⟨rfl, rfl⟩
    · have eb : Rl.backF k = 18446744073709551615 - k := by unfold Rl.backF; rw [if_neg h1]
      have e1 : decide ((k : Int) < 9223372036854775808) = true := decide_eq_true (by omega)
      have hr : 18446744073709551615 - k < 18446744073709551616 := by omega
      rw [eb]
      have kx0 := Rl.xor_all k hk
      have kx : bits BinOp.xor IntKind.u64 (if IntKind.u64.signed = true then -1 else IntKind.u64.max) (k : Int) = ((18446744073709551615 - k : Nat) : Int) := kx0
      have kb := Rl.andnot_top (18446744073709551615 - k) hr
      by_cases h2 : Rl.isN (18446744073709551615 - k)
      · have e2 : decide ((9218868437227405312 : Int) < (((18446744073709551615 - k) % 9223372036854775808 : Nat) : Int)) = true := decide_eq_true (by unfold Rl.isN at h2; omega)
        rw [if_pos h2, decide_eq_true h2]
        generalize (18446744073709551615 - k) % 9223372036854775808 = q at *
        generalize 18446744073709551615 - k = r at *
        generalize k % 9223372036854775808 = r2 at *
        clear h0 hk h1 h2 hr eb
        generalize (k : Int) = K at *
        clear k ka kx0
        go_enter Tryz.func31, Tryz.ntmps31
        go_wp2
        go_ret2
        exact ⟨rfl, rfl⟩
      · have e2 : decide ((9218868437227405312 : Int) < (((18446744073709551615 - k) % 9223372036854775808 : Nat) : Int)) = false := decide_eq_false (by unfold Rl.isN at h2; omega)
        rw [if_neg h2, decide_eq_false h2]
        generalize (18446744073709551615 - k) % 9223372036854775808 = q at *
        generalize 18446744073709551615 - k = r at *
        generalize k % 9223372036854775808 = r2 at *
        clear h0 hk h1 h2 hr eb
        generalize (k : Int) = K at *
        clear k ka kx0
        go_enter Tryz.func31, Tryz.ntmps31
        go_wp2
        go_ret2
        exact ⟨rfl, rfl⟩
end Go.Proofs.YtljmnafmnmmehaaGreatDoor
