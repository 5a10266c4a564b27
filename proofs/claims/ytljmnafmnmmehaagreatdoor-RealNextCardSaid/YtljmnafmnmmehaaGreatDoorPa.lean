/- Plain law: how two float64 words stand to each other, by their bits. -/
import Derived.Laws.FloatBits
import GoSem.Core.Float
namespace Go.Proofs.YtljmnafmnmmehaaGreatDoor
open Ieee
set_option linter.unusedVariables false
set_option linter.unusedSimpArgs false

def Rl.isN (b : Nat) : Prop := 9218868437227405312 < b % 9223372036854775808
instance (b : Nat) : Decidable (Rl.isN b) := by unfold Rl.isN; infer_instance
/-- A number's place in the order, zeros being one. -/
def Rl.sgn (b : Nat) : Int := if b < 9223372036854775808 then (b : Int) else 9223372036854775808 - (b : Int)
/-- What a rung weighs, in units of the least number. -/
def Rl.V (r : Nat) : Nat := if r < 4503599627370496 then r else (4503599627370496 + r % 4503599627370496) * 2 ^ (r / 4503599627370496 - 1)
theorem Rl.V_up (r : Nat) : Rl.V r < 4503599627370496 * 2 ^ (r / 4503599627370496) := by
  unfold Rl.V
  by_cases h : r < 4503599627370496
  · rw [if_pos h, Nat.div_eq_of_lt h]; omega
  · rw [if_neg h]
    have hq : 1 ≤ r / 4503599627370496 := (Nat.one_le_div_iff (by decide)).2 (by omega)
    have e : 2 ^ (r / 4503599627370496) = 2 * 2 ^ (r / 4503599627370496 - 1) := by
      rw [← Nat.pow_succ']
      congr 1
      omega
    rw [e, show 4503599627370496 * (2 * 2 ^ (r / 4503599627370496 - 1)) = (4503599627370496 + 4503599627370496) * 2 ^ (r / 4503599627370496 - 1) by rw [← Nat.mul_assoc]]
    exact Nat.mul_lt_mul_of_pos_right (by have := Nat.mod_lt r (show 0 < 4503599627370496 by decide); omega) (Nat.two_pow_pos _)
theorem Rl.V_low (r : Nat) (h : 1 ≤ r / 4503599627370496) : 4503599627370496 * 2 ^ (r / 4503599627370496 - 1) ≤ Rl.V r := by
  have h2 : ¬ r < 4503599627370496 := fun h3 => by rw [Nat.div_eq_of_lt h3] at h; omega
  unfold Rl.V
  rw [if_neg h2]
  exact Nat.mul_le_mul_right _ (by omega)
theorem Rl.V_mono {r s : Nat} (h : r < s) : Rl.V r < Rl.V s := by
  by_cases hq : r / 4503599627370496 = s / 4503599627370496
  · unfold Rl.V
    by_cases h1 : r < 4503599627370496
    · have h2 : s < 4503599627370496 := by
        rw [Nat.div_eq_of_lt h1] at hq
        exact (Nat.div_eq_zero_iff_lt (by decide)).1 hq.symm
      rw [if_pos h1, if_pos h2]; exact h
    · rw [if_neg h1, if_neg (by omega), hq]
      refine Nat.mul_lt_mul_of_pos_right ?_ (Nat.two_pow_pos _)
      have e1 := Nat.div_add_mod r 4503599627370496
      have e2 := Nat.div_add_mod s 4503599627370496
      rw [hq] at e1
      omega
  · have hlt : r / 4503599627370496 < s / 4503599627370496 := by
      have := Nat.div_le_div_right (c := 4503599627370496) (Nat.le_of_lt h)
      omega
    have a := Rl.V_up r
    have b := Rl.V_low s (by omega)
    have c : 2 ^ (r / 4503599627370496) ≤ 2 ^ (s / 4503599627370496 - 1) := Nat.pow_le_pow_right (by decide) (by omega)
    have d := Nat.mul_le_mul_left 4503599627370496 c
    omega
theorem Rl.V_zero : Rl.V 0 = 0 := rfl
theorem Rl.V_iff {r s : Nat} : Rl.V r < Rl.V s ↔ r < s :=
  ⟨fun h => by
    by_cases h2 : r < s
    · exact h2
    · by_cases h3 : r = s
      · subst h3; omega
      · have := Rl.V_mono (show s < r by omega); omega, Rl.V_mono⟩
theorem Rl.V_eq {r s : Nat} : Rl.V r = Rl.V s ↔ r = s :=
  ⟨fun h => by
    by_cases h2 : r = s
    · exact h2
    · rcases Nat.lt_or_gt_of_ne h2 with h3 | h3 <;> have := Rl.V_mono h3 <;> omega, fun h => by rw [h]⟩
/-- The read of a finite word. -/
theorem Rl.read_fin (b : Nat) (h : b % 9223372036854775808 < 9218868437227405312) :
    ∃ (m : Nat) (e : Nat), FloatKind.f64.format.read b = .number (b / 9223372036854775808 % 2 == 1) m (-1074 + (e : Int)) ∧ m * 2 ^ e = Rl.V (b % 9223372036854775808) := by
  have e0 : FloatKind.f64.format = Ieee.double := rfl
  have e1 : Ieee.double.signWeight = 9223372036854775808 := by decide
  have e2 : Ieee.double.binade = 4503599627370496 := by decide
  have e3 : Ieee.double.infRung = 9218868437227405312 := by decide
  have e4 : Ieee.double.leastPlace = -1074 := by decide
  unfold Format.read
  rw [e0, e1, e2, e3, e4]
  dsimp only
  unfold Rl.V
  by_cases h1 : b % 9223372036854775808 < 4503599627370496
  · rw [if_pos h1, if_pos h1]
    exact ⟨b % 9223372036854775808, 0, by simp, by simp⟩
  · rw [if_neg h1, if_pos h, if_neg h1]
    exact ⟨4503599627370496 + b % 9223372036854775808 % 4503599627370496, b % 9223372036854775808 / 4503599627370496 - 1, rfl, rfl⟩
theorem Rl.read_inf (b : Nat) (h : b % 9223372036854775808 = 9218868437227405312) : FloatKind.f64.format.read b = .infinity (b / 9223372036854775808 % 2 == 1) := by
  have e0 : FloatKind.f64.format = Ieee.double := rfl
  have e1 : Ieee.double.signWeight = 9223372036854775808 := by decide
  have e2 : Ieee.double.binade = 4503599627370496 := by decide
  have e3 : Ieee.double.infRung = 9218868437227405312 := by decide
  unfold Format.read
  rw [e0, e1, e2, e3]
  dsimp only
  rw [if_neg (by omega), if_neg (by omega), if_pos h]
theorem Rl.read_nan (b : Nat) (h : Rl.isN b) : ∃ f, FloatKind.f64.format.read b = .nan (b / 9223372036854775808 % 2 == 1) f := by
  have e0 : FloatKind.f64.format = Ieee.double := rfl
  have e1 : Ieee.double.signWeight = 9223372036854775808 := by decide
  have e2 : Ieee.double.binade = 4503599627370496 := by decide
  have e3 : Ieee.double.infRung = 9218868437227405312 := by decide
  unfold Rl.isN at h
  unfold Format.read
  rw [e0, e1, e2, e3]
  dsimp only
  rw [if_neg (by omega), if_neg (by omega), if_neg (by omega)]
  exact ⟨_, rfl⟩
theorem Rl.ord_nan1 (a b : Nat) (h : Rl.isN a) : FloatKind.f64.format.order a b = none := by
  obtain ⟨f, e⟩ := Rl.read_nan a h
  unfold Format.order
  rw [e]
  rfl
theorem Rl.ord_nan2 (a b : Nat) (h : Rl.isN b) : FloatKind.f64.format.order a b = none := by
  obtain ⟨f, e⟩ := Rl.read_nan b h
  unfold Format.order
  rw [e]
  cases FloatKind.f64.format.read a <;> rfl
theorem Rl.signed_eq (s : Bool) (m e : Nat) : signed s m e = (if s then -1 else 1) * ((m * 2 ^ e : Nat) : Int) := by
  unfold signed
  rw [Nat.shiftLeft_eq]
  cases s <;> simp
theorem Rl.cmp_mul (x y : Int) (k : Nat) (hk : 0 < k) : compare x y = compare (x * k) (y * k) := by
  have hk' : (0 : Int) < k := by omega
  simp only [compare, compareOfLessAndEq]
  have h1 : x < y ↔ x * k < y * k := (Int.mul_lt_mul_right hk').symm
  have h2 : x = y ↔ x * k = y * k := ⟨fun h => by rw [h], fun h => Int.eq_of_mul_eq_mul_right (by omega) h⟩
  by_cases a : x < y
  · rw [if_pos a, if_pos (h1.1 a)]
  · rw [if_neg a, if_neg (fun h => a (h1.2 h))]
    by_cases b : x = y
    · rw [if_pos b, if_pos (h2.1 b)]
    · rw [if_neg b, if_neg (fun h => b (h2.2 h))]
theorem Rl.cmp_eq {x y u v : Int} (h1 : x < y ↔ u < v) (h2 : x = y ↔ u = v) : compare x y = compare u v := by
  simp only [compare, compareOfLessAndEq]
  by_cases a : x < y
  · rw [if_pos a, if_pos (h1.1 a)]
  · rw [if_neg a, if_neg (fun h => a (h1.2 h))]
    by_cases b : x = y
    · rw [if_pos b, if_pos (h2.1 b)]
    · rw [if_neg b, if_neg (fun h => b (h2.2 h))]
theorem Rl.ord_fin (s t : Bool) (m n d e : Nat) : Datum.order (.number s m (-1074 + (d : Int))) (.number t n (-1074 + (e : Int))) =
    some (compare ((if s then -1 else 1) * ((m * 2 ^ d : Nat) : Int)) ((if t then -1 else 1) * ((n * 2 ^ e : Nat) : Int))) := by
  simp only [Datum.order]
  congr 1
  rw [Rl.signed_eq, Rl.signed_eq]
  rw [Rl.cmp_mul _ _ (2 ^ (min d e)) (Nat.two_pow_pos _)]
  have key : ∀ (a b c : Nat) (k : Nat), (min (-1074 + (b : Int)) (-1074 + (c : Int))) = -1074 + ((min b c : Nat) : Int) := fun a b c k => by omega
  rw [key 0 d e 0]
  have h1 : (-1074 + (d : Int) - (-1074 + ((min d e : Nat) : Int))).toNat = d - min d e := by omega
  have h2 : (-1074 + (e : Int) - (-1074 + ((min d e : Nat) : Int))).toNat = e - min d e := by omega
  rw [h1, h2]
  have p1 : m * 2 ^ (d - min d e) * 2 ^ min d e = m * 2 ^ d := by rw [Nat.mul_assoc, ← Nat.pow_add]; congr 2; omega
  have p2 : n * 2 ^ (e - min d e) * 2 ^ min d e = n * 2 ^ e := by rw [Nat.mul_assoc, ← Nat.pow_add]; congr 2; omega
  rw [Int.mul_assoc, Int.mul_assoc, ← Int.natCast_mul, ← Int.natCast_mul, p1, p2]
theorem Rl.ord_num (a b : Nat) (ha : a < 18446744073709551616) (hb : b < 18446744073709551616) (na : ¬ Rl.isN a) (nb : ¬ Rl.isN b) :
    FloatKind.f64.format.order a b = some (compare (Rl.sgn a) (Rl.sgn b)) := by
  unfold Rl.isN at na nb
  have sa : (a / 9223372036854775808 % 2 == 1) = decide (9223372036854775808 ≤ a) := by
    by_cases h : 9223372036854775808 ≤ a
    · rw [decide_eq_true h, beq_iff_eq]; omega
    · rw [decide_eq_false h, beq_eq_false_iff_ne]; omega
  have sb : (b / 9223372036854775808 % 2 == 1) = decide (9223372036854775808 ≤ b) := by
    by_cases h : 9223372036854775808 ≤ b
    · rw [decide_eq_true h, beq_iff_eq]; omega
    · rw [decide_eq_false h, beq_eq_false_iff_ne]; omega
  unfold Format.order
  by_cases ia : a % 9223372036854775808 = 9218868437227405312
  · rw [Rl.read_inf a ia, sa]
    by_cases ib : b % 9223372036854775808 = 9218868437227405312
    · rw [Rl.read_inf b ib, sb]
      simp only [Datum.order]
      congr 1
      unfold Rl.sgn
      by_cases h1 : 9223372036854775808 ≤ a <;> by_cases h2 : 9223372036854775808 ≤ b
      · have e1 : a = 18442240474082181120 := by omega
        have e2 : b = 18442240474082181120 := by omega
        subst e1 e2; decide
      · have e1 : a = 18442240474082181120 := by omega
        have e2 : b = 9218868437227405312 := by omega
        subst e1 e2; decide
      · have e1 : a = 9218868437227405312 := by omega
        have e2 : b = 18442240474082181120 := by omega
        subst e1 e2; decide
      · have e1 : a = 9218868437227405312 := by omega
        have e2 : b = 9218868437227405312 := by omega
        subst e1 e2; decide
    · obtain ⟨m, e, hr, _⟩ := Rl.read_fin b (by omega)
      rw [hr]
      simp only [Datum.order]
      congr 1
      unfold Rl.sgn
      by_cases h1 : 9223372036854775808 ≤ a
      · rw [decide_eq_true h1, if_pos rfl, if_neg (show ¬ a < 9223372036854775808 by omega)]
        symm
        simp only [compare, compareOfLessAndEq]
        rw [if_pos]
        split <;> omega
      · rw [decide_eq_false h1, if_neg (by decide), if_pos (show a < 9223372036854775808 by omega)]
        symm
        simp only [compare, compareOfLessAndEq]
        rw [if_neg, if_neg] <;> split <;> omega
  · obtain ⟨m, e, hr, hv⟩ := Rl.read_fin a (by omega)
    rw [hr, sa]
    by_cases ib : b % 9223372036854775808 = 9218868437227405312
    · rw [Rl.read_inf b ib, sb]
      simp only [Datum.order]
      congr 1
      unfold Rl.sgn
      by_cases h1 : 9223372036854775808 ≤ b
      · rw [decide_eq_true h1, if_pos rfl, if_neg (show ¬ b < 9223372036854775808 by omega)]
        symm
        simp only [compare, compareOfLessAndEq]
        rw [if_neg, if_neg] <;> split <;> omega
      · rw [decide_eq_false h1, if_neg (by decide), if_pos (show b < 9223372036854775808 by omega)]
        symm
        simp only [compare, compareOfLessAndEq]
        rw [if_pos]
        split <;> omega
    · obtain ⟨n, d, hr2, hv2⟩ := Rl.read_fin b (by omega)
      rw [hr2, sb, Rl.ord_fin, hv, hv2]
      congr 1
      have v0 := Rl.V_zero
      have i1 := @Rl.V_iff (a % 9223372036854775808) (b % 9223372036854775808)
      have i2 := @Rl.V_iff (b % 9223372036854775808) (a % 9223372036854775808)
      have i3 := @Rl.V_iff 0 (a % 9223372036854775808)
      have i4 := @Rl.V_iff 0 (b % 9223372036854775808)
      have i5 := @Rl.V_eq (a % 9223372036854775808) (b % 9223372036854775808)
      rw [v0] at i3 i4
      generalize Rl.V (a % 9223372036854775808) = va at *
      generalize Rl.V (b % 9223372036854775808) = vb at *
      unfold Rl.sgn
      by_cases h1 : 9223372036854775808 ≤ a <;> by_cases h2 : 9223372036854775808 ≤ b
      · rw [decide_eq_true h1, decide_eq_true h2, if_neg (show ¬ a < 9223372036854775808 by omega), if_neg (show ¬ b < 9223372036854775808 by omega)]
        simp only [reduceIte, Bool.false_eq_true]
        refine Rl.cmp_eq ?_ ?_ <;> omega
      · rw [decide_eq_true h1, decide_eq_false h2, if_neg (show ¬ a < 9223372036854775808 by omega), if_pos (show b < 9223372036854775808 by omega)]
        simp only [reduceIte, Bool.false_eq_true]
        refine Rl.cmp_eq ?_ ?_ <;> omega
      · rw [decide_eq_false h1, decide_eq_true h2, if_pos (show a < 9223372036854775808 by omega), if_neg (show ¬ b < 9223372036854775808 by omega)]
        simp only [reduceIte, Bool.false_eq_true]
        refine Rl.cmp_eq ?_ ?_ <;> omega
      · rw [decide_eq_false h1, decide_eq_false h2, if_pos (show a < 9223372036854775808 by omega), if_pos (show b < 9223372036854775808 by omega)]
        simp only [reduceIte, Bool.false_eq_true]
        refine Rl.cmp_eq ?_ ?_ <;> omega
theorem Rl.ord_self (b : Nat) (hb : b < 18446744073709551616) : (FloatKind.f64.format.order b b != some Ordering.eq) = decide (Rl.isN b) := by
  by_cases h : Rl.isN b
  · rw [Rl.ord_nan1 b b h, decide_eq_true h]; rfl
  · rw [Rl.ord_num b b hb hb h h, decide_eq_false h]
    have : compare (Rl.sgn b) (Rl.sgn b) = .eq := by simp [compare, compareOfLessAndEq]
    rw [this]
    rfl
end Go.Proofs.YtljmnafmnmmehaaGreatDoor
