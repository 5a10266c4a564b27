/- Key, Canon and their like. -/
import Derived.Test.YtljmnafmnmmehaaGreatDoorBe
import Derived.Test.YtljmnafmnmmehaaGreatDoorPa
import Derived.WalkKit
import Derived.BigQuiet
import Derived.Deep.QuietTactic
import Derived.BigRegion
import Derived.Below
import Derived.Lib.Hide
import Derived.Outline
import Derived.OwnWalk
import Derived.WalkLawsBesides
import Derived.Handy
namespace Go.Proofs.YtljmnafmnmmehaaGreatDoor
open Go.RowKit
set_option linter.unusedVariables false
set_option linter.unusedSimpArgs false

/-- The key of a number. -/
def Rl.keyF (b : Nat) : Nat := if Rl.isN b then 18446744073709551615 else if 9223372036854775808 ≤ b then 18446744073709551615 - b else b + 9223372036854775808
theorem Rl.beq_nat (x y : Nat) : ((x : Int) == (y : Int)) = decide (x = y) := by
  rw [Bool.eq_iff_iff, beq_iff_eq, decide_eq_true_iff]
  omega
theorem Rl.or_top (b : Nat) (h : b < 9223372036854775808) : bits .or .u64 (b : Int) 9223372036854775808 = ((b + 9223372036854775808 : Nat) : Int) := by
  have h1 := u64_or_nat b 9223372036854775808 (by omega) (by decide)
  have h2 : b ||| 9223372036854775808 = b + 9223372036854775808 := by
    have := Nat.two_pow_add_eq_or_of_lt (i := 63) (b := b) (by omega) 1
    rw [Nat.or_comm, Nat.add_comm]
    simpa using this.symm
  rw [h2] at h1
  exact h1
theorem Rl.xor_all (b : Nat) (h : b < 18446744073709551616) : bits .xor .u64 IntKind.u64.max (b : Int) = ((18446744073709551615 - b : Nat) : Int) := by
  have h1 := u64_xor_nat 18446744073709551615 b (by decide) h
  have h2 : 18446744073709551615 ^^^ b = 18446744073709551615 - b := by
    have e1 : (BitVec.allOnes 64 ^^^ BitVec.ofNat 64 b).toNat = (~~~ (BitVec.ofNat 64 b)).toNat := by rw [BitVec.allOnes_xor]
    rw [BitVec.toNat_xor, BitVec.toNat_not, BitVec.toNat_allOnes, BitVec.toNat_ofNat, Nat.mod_eq_of_lt (by omega)] at e1
    exact e1
  rw [h2] at h1
  exact h1
set_option maxHeartbeats 8000000 in
set_option maxRecDepth 100000 in
theorem none_any (w : World) : Calls Tryz.prog 51 #[] w fun e w' => e = .returned (.float .f64 9221120237041090561) ∧ w = w' := by
  have kr := Rl.run27
  go_enter Tryz.func51, Tryz.ntmps51
  go_wp2
  go_ret
  exact ⟨rfl, rfl⟩
set_option maxHeartbeats 8000000 in
set_option maxRecDepth 100000 in
theorem canon_any (b : Nat) (h : b < 18446744073709551616) (w : World) : Calls Tryz.prog 23 #[.float .f64 b] w fun e w' => e = .returned (.float .f64 (if Rl.isN b then 9221120237041090561 else b)) ∧ w = w' := by
  have ko := Rl.ord_self b h
  by_cases hn : Rl.isN b
  · rw [decide_eq_true hn] at ko
    rw [if_pos hn]
    clear h hn
    go_enter Tryz.func23, Tryz.ntmps23
    go_wp2_with (go_at_call 51; (with_reducible refine (none_any _).mono ?_); rintro e w2 ⟨rfl, rfl⟩)
    go_ret
    exact ⟨rfl, rfl⟩
  · rw [decide_eq_false hn] at ko
    rw [if_neg hn]
    clear h hn
    go_enter Tryz.func23, Tryz.ntmps23
    go_wp2
    go_ret
    exact ⟨rfl, rfl⟩
set_option maxHeartbeats 8000000 in
set_option maxRecDepth 100000 in
theorem key_any (b : Nat) (h : b < 18446744073709551616) (w : World) : Calls Tryz.prog 29 #[.float .f64 b] w fun e w' => e = .returned (.int .u64 (Rl.keyF b : Nat)) ∧ w = w' := by
  have ko := Rl.ord_self b h
  have kr := Rl.run55
  unfold Rl.keyF
  by_cases hn : Rl.isN b
  · rw [decide_eq_true hn] at ko
    rw [if_pos hn]
    clear h hn
    go_enter Tryz.func29, Tryz.ntmps29
    go_wp2
    go_ret
    exact ⟨rfl, rfl⟩
  · rw [decide_eq_false hn] at ko
    rw [if_neg hn]
    by_cases hs : 9223372036854775808 ≤ b
    · rw [if_pos hs]
      have e1 : decide ((9223372036854775808 : Int) ≤ (b : Int)) = true := decide_eq_true (by omega)
      have ex := Rl.xor_all b h
      clear hs hn h
      go_enter Tryz.func29, Tryz.ntmps29
      go_wp2
      go_ret
      exact ⟨rfl, rfl⟩
    · rw [if_neg hs]
      have e1 : decide ((9223372036854775808 : Int) ≤ (b : Int)) = false := decide_eq_false (by omega)
      have e2 := Rl.or_top b (by omega)
      clear hs hn h
      go_enter Tryz.func29, Tryz.ntmps29
      go_wp2
      go_ret
      exact ⟨rfl, rfl⟩

/-- How two numbers stand to each other. -/
def Rl.cmpN (a b : Nat) : Int := if a < b then -1 else if b < a then 1 else 0
def Rl.cmpF (a b : Nat) : Int := Rl.cmpN (Rl.keyF a) (Rl.keyF b)
set_option maxHeartbeats 8000000 in
set_option maxRecDepth 100000 in
theorem cmp_any (x y : Nat) (w : World) : Calls Tryz.prog 63 #[.int .u64 (x : Nat), .int .u64 (y : Nat)] w fun e w' => e = .returned (.int .i64 (Rl.cmpN x y)) ∧ w = w' := by
  unfold Rl.cmpN
  by_cases h1 : x < y
  · rw [if_pos h1]
    go_enter Tryz.func63, Tryz.ntmps63
    go_wp2
    go_ret
    exact ⟨rfl, rfl⟩
  · rw [if_neg h1]
    by_cases h2 : y < x
    · rw [if_pos h2]
      go_enter Tryz.func63, Tryz.ntmps63
      go_wp2
      go_ret
      exact ⟨rfl, rfl⟩
    · rw [if_neg h2]
      go_enter Tryz.func63, Tryz.ntmps63
      go_wp2
      go_ret
      exact ⟨rfl, rfl⟩
set_option maxHeartbeats 8000000 in
set_option maxRecDepth 100000 in
theorem compare_any (a b : Nat) (ha : a < 18446744073709551616) (hb : b < 18446744073709551616) (w : World) : Calls Tryz.prog 26 #[.float .f64 a, .float .f64 b] w fun e w' => e = .returned (.int .i64 (Rl.cmpF a b)) ∧ w = w' := by
  have HA := Lib.hid (key_any a ha w)
  have HB := Lib.hid (key_any b hb w)
  clear ha hb
  go_enter Tryz.func26, Tryz.ntmps26
  go_wp2_with (first
    | (go_at_call 29; (with_reducible refine HA.out.mono ?_); rintro e w2 ⟨rfl, rfl⟩)
    | (go_at_call 29; (with_reducible refine HB.out.mono ?_); rintro e w2 ⟨rfl, rfl⟩)
    | (go_at_call 63; (with_reducible refine (cmp_any _ _ _).mono ?_); rintro e w2 ⟨rfl, rfl⟩))
  go_ret
  exact ⟨rfl, rfl⟩
set_option maxHeartbeats 8000000 in
set_option maxRecDepth 100000 in
theorem same_any (a b : Nat) (ha : a < 18446744073709551616) (hb : b < 18446744073709551616) (w : World) : Calls Tryz.prog 30 #[.float .f64 a, .float .f64 b] w fun e w' => e = .returned (.bool (decide (Rl.keyF a = Rl.keyF b))) ∧ w = w' := by
  have HA := Lib.hid (key_any a ha w)
  have HB := Lib.hid (key_any b hb w)
  clear ha hb
  go_enter Tryz.func30, Tryz.ntmps30
  go_wp2_with (first
    | (go_at_call 29; (with_reducible refine HA.out.mono ?_); rintro e w2 ⟨rfl, rfl⟩)
    | (go_at_call 29; (with_reducible refine HB.out.mono ?_); rintro e w2 ⟨rfl, rfl⟩))
  go_ret
  exact ⟨by show Ending.returned (Value.bool (((Rl.keyF a : Nat) : Int) == ((Rl.keyF b : Nat) : Int))) = _; rw [Rl.beq_nat], rfl⟩
set_option maxHeartbeats 8000000 in
set_option maxRecDepth 100000 in
theorem isnan_any (b : Nat) (h : b < 18446744073709551616) (w : World) : Calls Tryz.prog 25 #[.float .f64 b] w fun e w' => e = .returned (.bool (decide (Rl.isN b))) ∧ w = w' := by
  have ko := Rl.ord_self b h
  clear h
  go_enter Tryz.func25, Tryz.ntmps25
  go_wp2
  go_ret
  exact ⟨rfl, rfl⟩
set_option maxHeartbeats 8000000 in
set_option maxRecDepth 100000 in
theorem bits_any (a b : Nat) (w : World) : Calls Tryz.prog 18 #[.float .f64 a, .float .f64 b] w fun e w' => e = .returned (.bool (decide (a = b))) ∧ w = w' := by
  have kr := Rl.run55
  go_enter Tryz.func18, Tryz.ntmps18
  go_wp2
  go_ret
  exact ⟨by show Ending.returned (Value.bool (((a : Nat) : Int) == ((b : Nat) : Int))) = _; rw [Rl.beq_nat], rfl⟩
set_option maxHeartbeats 8000000 in
set_option maxRecDepth 100000 in
theorem nan_any (w : World) : Calls Tryz.prog 45 #[] w fun e w' => e = .returned (.float .f64 9221120237041090561) ∧ w = w' := by
  have kr := Rl.run27
  go_enter Tryz.func45, Tryz.ntmps45
  go_wp2
  go_ret
  exact ⟨rfl, rfl⟩
set_option maxHeartbeats 8000000 in
set_option maxRecDepth 100000 in
theorem copysign_c (w : World) : Calls Tryz.prog 46 #[.float .f64 0, .float .f64 13830554455654793216] w fun e w' => e = .returned (.float .f64 9223372036854775808) ∧ w = w' := by
  have kr := Rl.run27
  have kb := Rl.run55
  have k1 : bits BinOp.andNot IntKind.u64 0 9223372036854775808 = 0 := by decide +kernel
  have k2 : bits BinOp.and IntKind.u64 13830554455654793216 9223372036854775808 = 9223372036854775808 := by decide +kernel
  have k3 : bits BinOp.or IntKind.u64 0 9223372036854775808 = 9223372036854775808 := by decide +kernel
  go_enter Tryz.func46, Tryz.ntmps46
  go_wp2
  go_ret
  exact ⟨rfl, rfl⟩

end Go.Proofs.YtljmnafmnmmehaaGreatDoor
