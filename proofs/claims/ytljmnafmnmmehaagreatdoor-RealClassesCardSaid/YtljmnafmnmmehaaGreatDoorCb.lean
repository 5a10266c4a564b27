/- The walk of RealClasses. -/
import Derived.Test.YtljmnafmnmmehaaGreatDoorBo
import Derived.Laws.Cover2
import Derived.WalkKit
import Derived.BigQuiet
import Derived.Deep.QuietTactic
import Derived.BigRegion
import Derived.Below
import Derived.Lib.Hide
import Derived.Outline
import Derived.OwnWalk
import Derived.WalkLawsBesides
import Derived.Handy
namespace Go.Proofs.YtljmnafmnmmehaaGreatDoor
open Go.RowKit
set_option linter.unusedVariables false
set_option linter.unusedSimpArgs false

theorem Rl.class_nan (a : Nat) (h : Rl.isN a) : Rl.classF a = 1 := by
  unfold Rl.classF
  unfold Rl.isN at h
  rw [if_pos h]
theorem Rl.class_range (a : Nat) (h : ¬ Rl.isN a) : 2 ≤ Rl.classF a ∧ Rl.classF a ≤ 9 := by
  unfold Rl.classF
  unfold Rl.isN at h
  rw [if_neg h]
  repeat' split
  all_goals decide
def Rl.oppF (a : Nat) : Nat := (a + 9223372036854775808) % 18446744073709551616
theorem Rl.opp_xor (a : Nat) (ha : a < 18446744073709551616) : Op.negFloat .f64 a = Rl.oppF a := by
  have h1 : Op.negFloat .f64 a % 2 ^ 63 = a % 2 ^ 63 := by
    show (a ^^^ 2 ^ 63) % 2 ^ 63 = a % 2 ^ 63
    rw [Nat.xor_mod_two_pow]
    exact Nat.xor_zero _
  have h2 : Op.negFloat .f64 a / 2 ^ 63 = (a / 2 ^ 63) ^^^ 1 := by
    show (a ^^^ 2 ^ 63) / 2 ^ 63 = (a / 2 ^ 63) ^^^ 1
    rw [Nat.xor_div_two_pow]
  have h3 : a / 2 ^ 63 = 0 ∨ a / 2 ^ 63 = 1 := by omega
  unfold Rl.oppF
  rcases h3 with h3 | h3
  · rw [h3, show (0 ^^^ 1 : Nat) = 1 from rfl] at h2
    omega
  · rw [h3, show (1 ^^^ 1 : Nat) = 0 from rfl] at h2
    omega
theorem Rl.unary_neg (a : Nat) (ha : a < 18446744073709551616) : Op.unary .neg (.float .f64 a) = pure (.float .f64 (Rl.oppF a)) := by
  show pure (Value.float .f64 (Op.negFloat .f64 a)) = _
  rw [Rl.opp_xor a ha]
theorem Rl.class_opp (a : Nat) (ha : a < 18446744073709551616) (h : ¬ Rl.isN a) : Rl.classF (Rl.oppF a) = 11 - Rl.classF a := by
  have e1 : Rl.oppF a % 9223372036854775808 = a % 9223372036854775808 := by unfold Rl.oppF; omega
  have e2 : Rl.oppF a < 9223372036854775808 ↔ ¬ a < 9223372036854775808 := by unfold Rl.oppF; omega
  unfold Rl.classF
  unfold Rl.isN at h
  rw [e1, if_neg h, if_neg h]
  by_cases h2 : a < 9223372036854775808
  · rw [if_neg (fun h3 => e2.1 h3 h2), if_pos h2]
    repeat' split
    all_goals rfl
  · rw [if_pos (e2.2 h2), if_neg h2]
    repeat' split
    all_goals rfl
theorem Rl.class_mono (a b : Nat) (ha : a < 18446744073709551616) (hb : b < 18446744073709551616) (na : ¬ Rl.isN a) (nb : ¬ Rl.isN b) (h : Rl.keyF a ≤ Rl.keyF b) : Rl.classF a ≤ Rl.classF b := by
  unfold Rl.keyF at h
  rw [if_neg na, if_neg nb] at h
  unfold Rl.isN at na nb
  unfold Rl.classF
  rw [if_neg na, if_neg nb]
  by_cases h1 : a < 9223372036854775808 <;> by_cases h2 : b < 9223372036854775808
  · rw [if_neg (by omega), if_neg (by omega)] at h
    rw [if_pos h1, if_pos h2]
    repeat' split
    all_goals first | decide | (exfalso; omega)
  · exfalso
    rw [if_neg (by omega), if_pos (by omega)] at h
    omega
  · rw [if_neg h1, if_pos h2]
    repeat' split
    all_goals decide
  · rw [if_pos (by omega), if_pos (by omega)] at h
    rw [if_neg h1, if_neg h2]
    repeat' split
    all_goals first | decide | (exfalso; omega)
theorem Rl.cmp_le (a b : Nat) (h : ¬ 0 < Rl.cmpF a b) : Rl.keyF a ≤ Rl.keyF b := by
  unfold Rl.cmpF Rl.cmpN at h
  split at h
  · omega
  · split at h
    · exact absurd (by decide) h
    · omega
set_option maxHeartbeats 8000000 in
set_option maxRecDepth 100000 in
theorem classes_walk (a b : Nat) (ha : a < 18446744073709551616) (hb : b < 18446744073709551616) (w : World) (ht : Rl.Tab w) : Calls Tryz.prog 6 #[.int .u64 (a : Nat), .int .u64 (b : Nat)] w fun e w' => e = .returned (.bool true) ∧ Below w.heap.size w w' := by
  have HBG := Lib.hid (begun_any w ht)
  have kr := Rl.run27
  have HCA := Lib.hid (fun W : World => class_any a ha W)
  have HCB := Lib.hid (fun W : World => class_any b hb W)
  have HNA := Lib.hid (fun W : World => isnan_any a ha W)
  have HNB := Lib.hid (fun W : World => isnan_any b hb W)
  have HKA := Lib.hid (fun W : World => canon_any a ha W)
  by_cases na : Rl.isN a
  · rw [Rl.class_nan a na] at HCA
    rw [decide_eq_true na] at HNA
    rw [if_pos na] at HKA
    have HBT := Lib.hid (fun W : World => bits_any 9221120237041090561 9221120237041090561 W)
    rw [show decide (9221120237041090561 = 9221120237041090561) = true from by decide +kernel] at HBT
    clear ht ha hb na
    go_enter Tryz.func6, Tryz.ntmps6
    go_wp2_with (first
      | (go_at_call 11; (with_reducible refine HBG.out.mono ?_); rintro e w1 ⟨rfl, hb1⟩; have HB1 := Lib.hid hb1; clear hb1)
      | (go_at_call 28; (with_reducible refine (HCA.out _).mono ?_); rintro e w2 ⟨rfl, rfl⟩)
      | (go_at_call 28; (with_reducible refine (HCB.out _).mono ?_); rintro e w3 ⟨rfl, rfl⟩)
      | (go_at_call 25; (with_reducible refine (HNA.out _).mono ?_); rintro e w4 ⟨rfl, rfl⟩)
      | (go_at_call 23; (with_reducible refine (HKA.out _).mono ?_); rintro e w5 ⟨rfl, rfl⟩)
      | (go_at_call 18; (with_reducible refine (HBT.out _).mono ?_); rintro e w6 ⟨rfl, rfl⟩))
    go_ret
    exact ⟨rfl, HB1.out⟩
  · have hra := Rl.class_range a na
    have hop := Rl.class_opp a ha na
    have HCO := Lib.hid (fun W : World => class_any (Rl.oppF a) (Nat.mod_lt _ (by decide)) W)
    rw [hop] at HCO
    have HCM := Lib.hid (fun W : World => compare_any a b ha hb W)
    have HBT := Lib.hid (fun W : World => bits_any a a W)
    rw [decide_eq_true (rfl : a = a)] at HBT
    rw [decide_eq_false na] at HNA
    rw [if_neg na] at HKA
    have hfin : ¬ Rl.isN b → ¬ 0 < Rl.cmpF a b → Rl.classF a ≤ Rl.classF b := fun nb h => Rl.class_mono a b ha hb na nb (Rl.cmp_le a b h)
    have kn := Rl.unary_neg a ha
    generalize Rl.oppF a = o at *
    have hrn : Rl.classF a = 2 ∨ Rl.classF a = 3 ∨ Rl.classF a = 4 ∨ Rl.classF a = 5 ∨ Rl.classF a = 6 ∨ Rl.classF a = 7 ∨ Rl.classF a = 8 ∨ Rl.classF a = 9 := by omega
    generalize Rl.classF a = n at *
    generalize Rl.classF b = m at *
    generalize Rl.cmpF a b = c at *
    have hb2 : Rl.isN b ∨ ¬ Rl.isN b ∧ 0 < c ∨ ¬ Rl.isN b ∧ ¬ 0 < c := by
      by_cases nb : Rl.isN b
      · exact .inl nb
      · by_cases hc : 0 < c
        · exact .inr (.inl ⟨nb, hc⟩)
        · exact .inr (.inr ⟨nb, hc⟩)
    clear ht ha hb na hop hra
    rcases hb2 with nb | ⟨nb, hc⟩ | ⟨nb, hc⟩
    · rw [decide_eq_true nb] at HNB
      clear nb hfin
      rcases hrn with rfl | rfl | rfl | rfl | rfl | rfl | rfl | rfl
      all_goals (
        go_enter Tryz.func6, Tryz.ntmps6
        go_wp2_with (first
          | (go_at_call 11; (with_reducible refine HBG.out.mono ?_); rintro e w1 ⟨rfl, hb1⟩; have HB1 := Lib.hid hb1; clear hb1)
          | (go_at_call 28; first | ((with_reducible refine (HCA.out _).mono ?_); rintro e w2 ⟨rfl, rfl⟩) | ((with_reducible refine (HCB.out _).mono ?_); rintro e w3 ⟨rfl, rfl⟩) | ((with_reducible refine (HCO.out _).mono ?_); rintro e w3 ⟨rfl, rfl⟩))
          | (go_at_call 25; first | ((with_reducible refine (HNA.out _).mono ?_); rintro e w4 ⟨rfl, rfl⟩) | ((with_reducible refine (HNB.out _).mono ?_); rintro e w4 ⟨rfl, rfl⟩))
          | (go_at_call 23; (with_reducible refine (HKA.out _).mono ?_); rintro e w5 ⟨rfl, rfl⟩)
          | (go_at_call 26; (with_reducible refine (HCM.out _).mono ?_); rintro e w5 ⟨rfl, rfl⟩)
          | (go_at_call 18; (with_reducible refine (HBT.out _).mono ?_); rintro e w6 ⟨rfl, rfl⟩))
        go_ret
        exact ⟨rfl, HB1.out⟩)
    · rw [decide_eq_false nb] at HNB
      have kc := decide_eq_true hc
      clear nb hfin hc
      rcases hrn with rfl | rfl | rfl | rfl | rfl | rfl | rfl | rfl
      all_goals (
        go_enter Tryz.func6, Tryz.ntmps6
        go_wp2_with (first
          | (go_at_call 11; (with_reducible refine HBG.out.mono ?_); rintro e w1 ⟨rfl, hb1⟩; have HB1 := Lib.hid hb1; clear hb1)
          | (go_at_call 28; first | ((with_reducible refine (HCA.out _).mono ?_); rintro e w2 ⟨rfl, rfl⟩) | ((with_reducible refine (HCB.out _).mono ?_); rintro e w3 ⟨rfl, rfl⟩) | ((with_reducible refine (HCO.out _).mono ?_); rintro e w3 ⟨rfl, rfl⟩))
          | (go_at_call 25; first | ((with_reducible refine (HNA.out _).mono ?_); rintro e w4 ⟨rfl, rfl⟩) | ((with_reducible refine (HNB.out _).mono ?_); rintro e w4 ⟨rfl, rfl⟩))
          | (go_at_call 23; (with_reducible refine (HKA.out _).mono ?_); rintro e w5 ⟨rfl, rfl⟩)
          | (go_at_call 26; (with_reducible refine (HCM.out _).mono ?_); rintro e w5 ⟨rfl, rfl⟩)
          | (go_at_call 18; (with_reducible refine (HBT.out _).mono ?_); rintro e w6 ⟨rfl, rfl⟩))
        go_ret
        exact ⟨rfl, HB1.out⟩)
    · have hl := decide_eq_true (hfin nb hc)
      rw [decide_eq_false nb] at HNB
      have kc := decide_eq_false hc
      clear nb hfin hc
      rcases hrn with rfl | rfl | rfl | rfl | rfl | rfl | rfl | rfl
      all_goals (
        go_enter Tryz.func6, Tryz.ntmps6
        go_wp2_with (first
          | (go_at_call 11; (with_reducible refine HBG.out.mono ?_); rintro e w1 ⟨rfl, hb1⟩; have HB1 := Lib.hid hb1; clear hb1)
          | (go_at_call 28; first | ((with_reducible refine (HCA.out _).mono ?_); rintro e w2 ⟨rfl, rfl⟩) | ((with_reducible refine (HCB.out _).mono ?_); rintro e w3 ⟨rfl, rfl⟩) | ((with_reducible refine (HCO.out _).mono ?_); rintro e w3 ⟨rfl, rfl⟩))
          | (go_at_call 25; first | ((with_reducible refine (HNA.out _).mono ?_); rintro e w4 ⟨rfl, rfl⟩) | ((with_reducible refine (HNB.out _).mono ?_); rintro e w4 ⟨rfl, rfl⟩))
          | (go_at_call 23; (with_reducible refine (HKA.out _).mono ?_); rintro e w5 ⟨rfl, rfl⟩)
          | (go_at_call 26; (with_reducible refine (HCM.out _).mono ?_); rintro e w5 ⟨rfl, rfl⟩)
          | (go_at_call 18; (with_reducible refine (HBT.out _).mono ?_); rintro e w6 ⟨rfl, rfl⟩))
        go_ret
        exact ⟨rfl, HB1.out⟩)
end Go.Proofs.YtljmnafmnmmehaaGreatDoor
