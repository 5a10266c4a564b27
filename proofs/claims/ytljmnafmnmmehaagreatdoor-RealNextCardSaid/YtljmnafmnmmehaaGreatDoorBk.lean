/- A finite number added; a number counted; the size. -/
import Derived.Test.YtljmnafmnmmehaaGreatDoorBj
import Derived.WalkKit
import Derived.BigQuiet
import Derived.Deep.QuietTactic
import Derived.BigRegion
import Derived.Below
import Derived.Lib.Hide
import Derived.Outline
import Derived.OwnWalk
import Derived.WalkLawsBesides
import Derived.Handy
namespace Go.Proofs.YtljmnafmnmmehaaGreatDoor
open Go.RowKit
set_option linter.unusedVariables false
set_option linter.unusedSimpArgs false

def Rl.pwF (b : Nat) : Nat := b / 4503599627370496 % 2048
def Rl.dgF (b : Nat) : Nat := b % 4503599627370496
/-- The words behind a finite number. -/
def Rl.addF (ws : List Nat) (b : Nat) : List Nat :=
  if Rl.pwF b = 0 then Rl.putF (decide (9223372036854775808 ≤ b)) ws 0 (Rl.dgF b) 0
  else Rl.putF (decide (9223372036854775808 ≤ b)) ws ((Rl.pwF b - 1) / 64) ((Rl.dgF b + 4503599627370496) * 2 ^ ((Rl.pwF b - 1) % 64) % 18446744073709551616) ((Rl.dgF b + 4503599627370496) / 2 ^ (64 - (Rl.pwF b - 1) % 64))
theorem Rl.and_pw (b : Nat) (hb : b < 18446744073709551616) : bits .and .i64 ((b : Int) / 4503599627370496) 2047 = (Rl.pwF b : Int) := by
  have h1 : bits .and .i64 ((b / 4503599627370496 : Nat) : Int) 2047 = ((b / 4503599627370496 &&& 2047 : Nat) : Int) := by
    have hx : b / 4503599627370496 < 4096 := by omega
    generalize b / 4503599627370496 = x at hx
    have e1 : (BitVec.ofInt 64 (x : Int)).toNat = x := by rw [BitVec.ofInt_natCast, BitVec.toNat_ofNat]; exact Nat.mod_eq_of_lt (by omega)
    show IntKind.i64.wrap ((BitVec.ofInt 64 (x : Int) &&& BitVec.ofInt 64 2047).toNat : Int) = _
    rw [BitVec.toNat_and, e1, show (BitVec.ofInt 64 2047).toNat = 2047 from by decide]
    have hy : x &&& 2047 ≤ 2047 := Nat.and_le_right
    rw [IntKind.wrap_i64]
    omega
  have h2 : b / 4503599627370496 &&& 2047 = b / 4503599627370496 % 2048 := Nat.and_two_pow_sub_one_eq_mod _ 11
  rw [h2] at h1
  exact h1
theorem Rl.and_dg (b : Nat) (hb : b < 18446744073709551616) : bits .and .u64 (b : Int) 4503599627370495 = (Rl.dgF b : Int) := by
  have h1 := u64_and_nat b 4503599627370495 hb (by decide)
  have h2 : b &&& 4503599627370495 = b % 4503599627370496 := Nat.and_two_pow_sub_one_eq_mod b 52
  rw [h2] at h1
  exact h1
theorem Rl.or_dg (d : Nat) (hd : d < 4503599627370496) : bits .or .u64 (d : Int) 4503599627370496 = ((d + 4503599627370496 : Nat) : Int) := by
  have h1 := u64_or_nat d 4503599627370496 (by omega) (by decide)
  have h2 : d ||| 4503599627370496 = d + 4503599627370496 := by
    have := Nat.two_pow_add_eq_or_of_lt (i := 52) (b := d) (by omega) 1
    rw [Nat.or_comm, Nat.add_comm]
    simpa using this.symm
  rw [h2] at h1
  exact h1
theorem add_any (w : World) (wb : Nat) (ws : List Nat) (h : Rl.Wd w wb ws) (b : Nat) (hb : b < 18446744073709551616) (hf : Rl.pwF b < 2047) :
    Calls Tryz.prog 50 #[.pointer (some ⟨wb, 0, none⟩), .float .f64 b] w fun e w' => e = .returned (.tuple #[]) ∧ Rl.Wd w' wb (Rl.addF ws b) ∧ w.grownBy w' (some wb) := by
  have hd : Rl.dgF b < 4503599627370496 := Nat.mod_lt _ (by decide)
  have k1 := Rl.and_pw b hb
  have k2 := Rl.and_dg b hb
  unfold Rl.addF
  by_cases h0 : Rl.pwF b = 0
  · rw [if_pos h0]
    rw [h0] at k1
    have k5 : IntKind.u64.wrap (Rl.dgF b : Int) = (Rl.dgF b : Int) := by rw [IntKind.wrap_u64]; omega
    have k6 : (Rl.dgF b : Int) / 18446744073709551616 = 0 := by omega
    by_cases hs : 9223372036854775808 ≤ b
    · rw [decide_eq_true hs]
      exact add_s1 w wb ws h b _ hb (decide_eq_true (by omega)) (by omega) k2 k1 k5 k6
    · rw [decide_eq_false hs]
      exact add_s0 w wb ws h b _ hb (decide_eq_false (by omega)) (by omega) k2 k1 k5 k6
  · rw [if_neg h0]
    have hP : (Rl.pwF b - 1) % 64 < 64 := Nat.mod_lt _ (by decide)
    have k3 := Rl.or_dg (Rl.dgF b) hd
    have k4 : (Rl.pwF b : Int) - 1 = ((Rl.pwF b - 1 : Nat) : Int) := by omega
    have hq : ((Rl.pwF b - 1 : Nat) : Int) / 64 = (((Rl.pwF b - 1) / 64 : Nat) : Int) := by omega
    have k5 : IntKind.u64.wrap (((Rl.dgF b + 4503599627370496 : Nat) : Int) * 2 ^ ((Rl.pwF b - 1) % 64)) = (((Rl.dgF b + 4503599627370496) * 2 ^ ((Rl.pwF b - 1) % 64) % 18446744073709551616 : Nat) : Int) := by
      rw [IntKind.wrap_u64]
      simp
    have k6 : ((Rl.dgF b + 4503599627370496 : Nat) : Int) / 2 ^ (64 - (Rl.pwF b - 1) % 64) = (((Rl.dgF b + 4503599627370496) / 2 ^ (64 - (Rl.pwF b - 1) % 64) : Nat) : Int) := by simp
    have hhi : (Rl.dgF b + 4503599627370496) / 2 ^ (64 - (Rl.pwF b - 1) % 64) < 18446744073709551616 := Nat.lt_of_le_of_lt (Nat.div_le_self _ _) (by omega)
    by_cases hs : 9223372036854775808 ≤ b
    · rw [decide_eq_true hs]
      exact add_n1 w wb ws h b _ _ _ _ _ _ _ hb (decide_eq_true (by omega)) (Nat.mod_lt _ (by decide)) hhi k2 k1 (by omega) hf k3 (by omega) k4 hq (by omega) (by omega) k5 k6
    · rw [decide_eq_false hs]
      exact add_n0 w wb ws h b _ _ _ _ _ _ _ hb (decide_eq_false (by omega)) (Nat.mod_lt _ (by decide)) hhi k2 k1 (by omega) hf k3 (by omega) k4 hq (by omega) (by omega) k5 k6
/-- Which kinds of numbers there were. -/
structure Rl.Cnt where
  n : Nat
  l : Nat
  g : Nat
  o : Nat
  z : Nat
def Rl.cenc (c : Rl.Cnt) : Array Value := #[.int .i64 (c.n : Int), .int .i64 (c.l : Int), .int .i64 (c.g : Int), .int .i64 (c.o : Int), .int .i64 (c.z : Int)]
def Rl.finB (b : Nat) : Bool := !(decide (Rl.classF b = 1) || decide (Rl.classF b = 2) || decide (Rl.classF b = 9) || decide (Rl.classF b = 5))
def Rl.cntF (c : Rl.Cnt) (b : Nat) : Rl.Cnt :=
  if Rl.classF b = 1 then { c with n := c.n + 1 } else if Rl.classF b = 2 then { c with l := c.l + 1 } else if Rl.classF b = 9 then { c with g := c.g + 1 } else if Rl.classF b = 5 then { c with z := c.z + 1 } else { c with o := c.o + 1 }
set_option maxHeartbeats 8000000 in
set_option maxRecDepth 100000 in
theorem count_any (w : World) (sb : Nat) (c : Rl.Cnt) (h : w.heap[sb]? = some (.cells (Rl.cenc c) 63 (0, 0))) (hc : c.n ≤ 2147483647 ∧ c.l ≤ 2147483647 ∧ c.g ≤ 2147483647 ∧ c.o ≤ 2147483647 ∧ c.z ≤ 2147483647) (b : Nat) (hb : b < 18446744073709551616) :
    Calls Tryz.prog 49 #[.pointer (some ⟨sb, 0, none⟩), .float .f64 b] w fun e w' => e = .returned (.bool (Rl.finB b)) ∧ w'.heap[sb]? = some (.cells (Rl.cenc (Rl.cntF c b)) 63 (0, 0)) ∧ w.grownBy w' (some sb) := by
  have HC := Lib.hid (class_any b hb w)
  obtain ⟨a0, a1, a2, a3, a4⟩ := c
  obtain ⟨c0, c1, c2, c3, c4⟩ := hc
  dsimp only at c0 c1 c2 c3 c4
  have x0 : w.cell? ⟨sb, 0, none⟩ = some (.int .i64 (a0 : Int)) := Rl.blk_cell h 0
  have x1 : w.cell? ⟨sb, 1, none⟩ = some (.int .i64 (a1 : Int)) := Rl.blk_cell h 1
  have x2 : w.cell? ⟨sb, 2, none⟩ = some (.int .i64 (a2 : Int)) := Rl.blk_cell h 2
  have x3 : w.cell? ⟨sb, 3, none⟩ = some (.int .i64 (a3 : Int)) := Rl.blk_cell h 3
  have x4 : w.cell? ⟨sb, 4, none⟩ = some (.int .i64 (a4 : Int)) := Rl.blk_cell h 4
  have f0 := Rl.blk_frozen h 0
  have f1 := Rl.blk_frozen h 1
  have f2 := Rl.blk_frozen h 2
  have f3 := Rl.blk_frozen h 3
  have f4 := Rl.blk_frozen h 4
  have hlt := Rl.blk_lt h
  have H := Lib.hid h
  unfold Rl.finB Rl.cntF
  generalize Rl.classF b = k at HC ⊢
  clear h hb
  by_cases k1 : k = 1
  · subst k1
    go_enter Tryz.func49, Tryz.ntmps49
    go_wp2_with (go_at_call 28; (with_reducible refine HC.out.mono ?_); rintro e w2 ⟨rfl, rfl⟩)
    go_ret
    exact ⟨rfl, (Rl.blk_set H.out 0 _).trans rfl, Rl.gr_set (Rl.gr_refl _ _) _ _⟩
  by_cases k2 : k = 2
  · subst k2
    go_enter Tryz.func49, Tryz.ntmps49
    go_wp2_with (go_at_call 28; (with_reducible refine HC.out.mono ?_); rintro e w2 ⟨rfl, rfl⟩)
    go_ret
    exact ⟨rfl, (Rl.blk_set H.out 1 _).trans rfl, Rl.gr_set (Rl.gr_refl _ _) _ _⟩
  by_cases k9 : k = 9
  · subst k9
    go_enter Tryz.func49, Tryz.ntmps49
    go_wp2_with (go_at_call 28; (with_reducible refine HC.out.mono ?_); rintro e w2 ⟨rfl, rfl⟩)
    go_ret
    exact ⟨rfl, (Rl.blk_set H.out 2 _).trans rfl, Rl.gr_set (Rl.gr_refl _ _) _ _⟩
  by_cases k5 : k = 5
  · subst k5
    go_enter Tryz.func49, Tryz.ntmps49
    go_wp2_with (go_at_call 28; (with_reducible refine HC.out.mono ?_); rintro e w2 ⟨rfl, rfl⟩)
    go_ret
    exact ⟨rfl, (Rl.blk_set H.out 4 _).trans rfl, Rl.gr_set (Rl.gr_refl _ _) _ _⟩
  rw [if_neg k1, if_neg k2, if_neg k9, if_neg k5, decide_eq_false k1, decide_eq_false k2, decide_eq_false k9, decide_eq_false k5]
  have e1 : (k == 1) = false := beq_eq_false_iff_ne.2 k1
  have e2 : (k == 2) = false := beq_eq_false_iff_ne.2 k2
  have e9 : (k == 9) = false := beq_eq_false_iff_ne.2 k9
  have e5 : (k == 5) = false := beq_eq_false_iff_ne.2 k5
  clear k1 k2 k9 k5
  go_enter Tryz.func49, Tryz.ntmps49
  go_wp2_with (go_at_call 28; (with_reducible refine HC.out.mono ?_); rintro e w2 ⟨rfl, rfl⟩)
  go_ret
  exact ⟨rfl, (Rl.blk_set H.out 3 _).trans rfl, Rl.gr_set (Rl.gr_refl _ _) _ _⟩
end Go.Proofs.YtljmnafmnmmehaaGreatDoor
