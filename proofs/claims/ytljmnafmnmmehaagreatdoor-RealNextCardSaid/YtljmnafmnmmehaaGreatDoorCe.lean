/- The walk of RealOrder. -/
import Derived.Test.YtljmnafmnmmehaaGreatDoorCd
import Derived.Test.YtljmnafmnmmehaaGreatDoorBo
import Derived.WalkKit
import Derived.BigQuiet
import Derived.Deep.QuietTactic
import Derived.BigRegion
import Derived.Below
import Derived.Lib.Hide
import Derived.Outline
import Derived.OwnWalk
import Derived.WalkLawsBesides
import Derived.Handy
namespace Go.Proofs.YtljmnafmnmmehaaGreatDoor
open Go.RowKit
set_option linter.unusedVariables false
set_option linter.unusedSimpArgs false

theorem Rl.key_le (a : Nat) (ha : a < 18446744073709551616) : Rl.keyF a ≤ 18446744073709551615 := by
  unfold Rl.keyF
  by_cases h : Rl.isN a
  · rw [if_pos h]; omega
  · rw [if_neg h]
    unfold Rl.isN at h
    split <;> omega
theorem Rl.key_nan (a : Nat) (h : Rl.isN a) : Rl.keyF a = 18446744073709551615 := by
  unfold Rl.keyF
  rw [if_pos h]
theorem Rl.key_num (a : Nat) (h : ¬ Rl.isN a) : Rl.keyF a < 18446744073709551615 := by
  unfold Rl.keyF
  rw [if_neg h]
  unfold Rl.isN at h
  split <;> omega
theorem Rl.sgn_key (a b : Nat) (ha : a < 18446744073709551616) (hb : b < 18446744073709551616) (na : ¬ Rl.isN a) (nb : ¬ Rl.isN b) (h : Rl.sgn a < Rl.sgn b) : Rl.keyF a < Rl.keyF b := by
  unfold Rl.keyF
  rw [if_neg na, if_neg nb]
  unfold Rl.sgn at h
  unfold Rl.isN at na nb
  by_cases h1 : a < 9223372036854775808 <;> by_cases h2 : b < 9223372036854775808
  · rw [if_pos h1, if_pos h2] at h
    rw [if_neg (by omega), if_neg (by omega)]; omega
  · rw [if_pos h1, if_neg h2] at h
    omega
  · rw [if_neg h1, if_pos h2] at h
    rw [if_pos (by omega), if_neg (by omega)]; omega
  · rw [if_neg h1, if_neg h2] at h
    rw [if_pos (by omega), if_pos (by omega)]; omega
theorem Rl.less_key (a b : Nat) (ha : a < 18446744073709551616) (hb : b < 18446744073709551616) (h : (FloatKind.f64.format.order a b == some Ordering.lt) = true) : Rl.keyF a < Rl.keyF b := by
  by_cases na : Rl.isN a
  · rw [Rl.ord_nan1 a b na] at h; cases h
  by_cases nb : Rl.isN b
  · rw [Rl.ord_nan2 a b nb] at h; cases h
  rw [Rl.ord_num a b ha hb na nb, beq_iff_eq, Option.some.injEq] at h
  exact Rl.sgn_key a b ha hb na nb (Int.compare_eq_lt.1 h)
theorem Rl.more_key (a b : Nat) (ha : a < 18446744073709551616) (hb : b < 18446744073709551616) (h : (FloatKind.f64.format.order a b == some Ordering.gt) = true) : Rl.keyF b < Rl.keyF a := by
  by_cases na : Rl.isN a
  · rw [Rl.ord_nan1 a b na] at h; cases h
  by_cases nb : Rl.isN b
  · rw [Rl.ord_nan2 a b nb] at h; cases h
  rw [Rl.ord_num a b ha hb na nb, beq_iff_eq, Option.some.injEq] at h
  exact Rl.sgn_key b a hb ha nb na (Int.compare_eq_gt.1 h)
theorem Rl.cmpN_cases (x y : Nat) : (Rl.cmpN x y = -1 ∧ x < y ∧ Rl.cmpN y x = 1) ∨ (Rl.cmpN x y = 0 ∧ x = y ∧ Rl.cmpN y x = 0) ∨ (Rl.cmpN x y = 1 ∧ y < x ∧ Rl.cmpN y x = -1) := by
  unfold Rl.cmpN
  rcases Nat.lt_trichotomy x y with h | h | h
  · exact .inl ⟨by rw [if_pos h], h, by rw [if_neg (by omega), if_pos h]⟩
  · exact .inr (.inl ⟨by rw [if_neg (by omega), if_neg (by omega)], h, by rw [if_neg (by omega), if_neg (by omega)]⟩)
  · exact .inr (.inr ⟨by rw [if_neg (by omega), if_pos h], h, by rw [if_pos h]⟩)
theorem Rl.cmpN_le (x y : Nat) : Rl.cmpN x y ≤ 0 ↔ x ≤ y := by
  rcases Rl.cmpN_cases x y with ⟨h, h2, _⟩ | ⟨h, h2, _⟩ | ⟨h, h2, _⟩ <;> rw [h] <;> constructor <;> intro <;> first | omega | decide
set_option maxHeartbeats 8000000 in
set_option maxRecDepth 100000 in
theorem order_walk (a b c : Nat) (ha : a < 18446744073709551616) (hb : b < 18446744073709551616) (hc : c < 18446744073709551616) (w : World) (ht : Rl.Tab w) : Calls Tryz.prog 7 #[.int .u64 (a : Nat), .int .u64 (b : Nat), .int .u64 (c : Nat)] w fun e w' => e = .returned (.bool true) ∧ Below w.heap.size w w' := by
  have HBG := Lib.hid (begun_any w ht)
  have kr := Rl.run27
  have HKA := Lib.hid (fun W : World => key_any a ha W)
  have HKB := Lib.hid (fun W : World => key_any b hb W)
  have HC1 := Lib.hid (fun W : World => compare_any a b ha hb W)
  have HC2 := Lib.hid (fun W : World => compare_any b c hb hc W)
  have HC3 := Lib.hid (fun W : World => compare_any b a hb ha W)
  have HC4 := Lib.hid (fun W : World => compare_any a c ha hc W)
  have HS := Lib.hid (fun W : World => same_any a b ha hb W)
  have HNA := Lib.hid (fun W : World => isnan_any a ha W)
  have HNB := Lib.hid (fun W : World => isnan_any b hb W)
  have HU := Lib.hid (fun W : World => unkey_any (Rl.keyF a) (by have := Rl.key_le a ha; omega) W)
  rw [(Rl.unk_key a ha).1, (Rl.unk_key a ha).2] at HU
  have HCA := Lib.hid (fun W : World => canon_any a ha W)
  generalize (if Rl.isN a then 9221120237041090561 else a) = x at *
  have HBT := Lib.hid (fun W : World => bits_any x x W)
  rw [decide_eq_true (rfl : x = x)] at HBT
  have hlt := Rl.less_key a b ha hb
  have hgt := Rl.more_key a b ha hb
  have hla := Rl.key_le a ha
  have hlb := Rl.key_le b hb
  have hna : Rl.isN a → Rl.keyF a = 18446744073709551615 := Rl.key_nan a
  have hma : ¬ Rl.isN a → Rl.keyF a < 18446744073709551615 := Rl.key_num a
  have hnb : Rl.isN b → Rl.keyF b = 18446744073709551615 := Rl.key_nan b
  have hmb : ¬ Rl.isN b → Rl.keyF b < 18446744073709551615 := Rl.key_num b
  have hy : Rl.cmpF b c ≤ 0 ↔ Rl.keyF b ≤ Rl.keyF c := Rl.cmpN_le _ _
  have hz : Rl.cmpF a c ≤ 0 ↔ Rl.keyF a ≤ Rl.keyF c := Rl.cmpN_le _ _
  have hx : (Rl.cmpF a b = -1 ∧ Rl.keyF a < Rl.keyF b ∧ Rl.cmpF b a = 1) ∨ (Rl.cmpF a b = 0 ∧ Rl.keyF a = Rl.keyF b ∧ Rl.cmpF b a = 0) ∨ (Rl.cmpF a b = 1 ∧ Rl.keyF b < Rl.keyF a ∧ Rl.cmpF b a = -1) := Rl.cmpN_cases _ _
  generalize Rl.cmpF b c = y at *
  generalize Rl.cmpF a c = z at *
  generalize hP : (FloatKind.f64.format.order a b == some Ordering.lt) = P at *
  generalize hQ : (FloatKind.f64.format.order a b == some Ordering.gt) = Q at *
  generalize Rl.keyF c = kc at *
  clear ht ha hb hc
  have hyc : decide (y ≤ 0) = true ∧ y ≤ 0 ∨ decide (y ≤ 0) = false := by
    by_cases h : y ≤ 0
    · exact .inl ⟨decide_eq_true h, h⟩
    · exact .inr (decide_eq_false h)
  rcases hx with ⟨ex, hk, eo⟩ | ⟨ex, hk, eo⟩ | ⟨ex, hk, eo⟩
  · rw [ex] at HC1
    rw [eo] at HC3
    have na : ¬ Rl.isN a := fun h => by have := hna h; omega
    rw [decide_eq_false (by omega : ¬ Rl.keyF a = Rl.keyF b)] at HS
    rw [decide_eq_false na] at HNA
    obtain rfl : Q = false := by
      cases Q with
      | false => rfl
      | true => exact absurd (hgt rfl) (by omega)
    have k1 : decide (Rl.keyF a < Rl.keyF b) = true := decide_eq_true (by omega)
    have hyz : decide (y ≤ 0) = true ∧ decide (0 < z) = false ∨ decide (y ≤ 0) = false := by
      rcases hyc with ⟨h, h2⟩ | h
      · have h3 := hy.1 h2
        have h4 := hz.2 (by omega)
        exact .inl ⟨h, decide_eq_false (by omega)⟩
      · exact .inr h
    have hnbc : decide (Rl.isN b) = true ∨ decide (Rl.isN b) = false := by cases decide (Rl.isN b) <;> simp
    generalize decide (Rl.isN b) = nb at *
    generalize Rl.keyF a = ka at *
    generalize Rl.keyF b = kb at *
    clear hlt hgt hla hlb hna hma hnb hmb hy hz hyc ex hk eo na
    rcases hyz with ⟨k2, k3⟩ | k2 <;> rcases hnbc with rfl | rfl <;> cases P
    all_goals (
      go_enter Tryz.func7, Tryz.ntmps7
      go_wp2_with (first
        | (go_at_call 11; (with_reducible refine HBG.out.mono ?_); rintro e w1 ⟨rfl, hb1⟩; have HB1 := Lib.hid hb1; clear hb1)
        | (go_at_call 26; first | ((with_reducible refine (HC1.out _).mono ?_); rintro e w2 ⟨rfl, rfl⟩) | ((with_reducible refine (HC2.out _).mono ?_); rintro e w3 ⟨rfl, rfl⟩) | ((with_reducible refine (HC3.out _).mono ?_); rintro e w3 ⟨rfl, rfl⟩) | ((with_reducible refine (HC4.out _).mono ?_); rintro e w3 ⟨rfl, rfl⟩))
        | (go_at_call 29; first | ((with_reducible refine (HKA.out _).mono ?_); rintro e w4 ⟨rfl, rfl⟩) | ((with_reducible refine (HKB.out _).mono ?_); rintro e w4 ⟨rfl, rfl⟩))
        | (go_at_call 25; first | ((with_reducible refine (HNA.out _).mono ?_); rintro e w4 ⟨rfl, rfl⟩) | ((with_reducible refine (HNB.out _).mono ?_); rintro e w4 ⟨rfl, rfl⟩))
        | (go_at_call 30; (with_reducible refine (HS.out _).mono ?_); rintro e w5 ⟨rfl, rfl⟩)
        | (go_at_call 31; (with_reducible refine (HU.out _).mono ?_); rintro e w5 ⟨rfl, rfl⟩)
        | (go_at_call 23; (with_reducible refine (HCA.out _).mono ?_); rintro e w5 ⟨rfl, rfl⟩)
        | (go_at_call 18; (with_reducible refine (HBT.out _).mono ?_); rintro e w6 ⟨rfl, rfl⟩))
      go_ret
      exact ⟨rfl, HB1.out⟩)
  · rw [ex] at HC1
    rw [eo] at HC3
    rw [decide_eq_true hk] at HS
    obtain rfl : Q = false := by
      cases Q with
      | false => rfl
      | true => exact absurd (hgt rfl) (by omega)
    obtain rfl : P = false := by
      cases P with
      | false => rfl
      | true => exact absurd (hlt rfl) (by omega)
    have k1 : decide (Rl.keyF a < Rl.keyF b) = false := decide_eq_false (by omega)
    have hyz : decide (y ≤ 0) = true ∧ decide (0 < z) = false ∨ decide (y ≤ 0) = false := by
      rcases hyc with ⟨h, h2⟩ | h
      · have h3 := hy.1 h2
        have h4 := hz.2 (by omega)
        exact .inl ⟨h, decide_eq_false (by omega)⟩
      · exact .inr h
    have hnbc : decide (Rl.isN b) = true ∧ decide (Rl.isN a) = true ∨ decide (Rl.isN b) = false := by
      by_cases h : Rl.isN b
      · have h1 := hnb h
        refine .inl ⟨decide_eq_true h, decide_eq_true ?_⟩
        by_cases h2 : Rl.isN a
        · exact h2
        · have := hma h2; omega
      · exact .inr (decide_eq_false h)
    generalize decide (Rl.isN b) = nb at *
    generalize decide (Rl.isN a) = na at *
    generalize Rl.keyF a = ka at *
    generalize Rl.keyF b = kb at *
    clear hlt hgt hla hlb hna hma hnb hmb hy hz hyc ex hk eo
    rcases hyz with ⟨k2, k3⟩ | k2 <;> rcases hnbc with ⟨rfl, rfl⟩ | rfl
    all_goals (
      go_enter Tryz.func7, Tryz.ntmps7
      go_wp2_with (first
        | (go_at_call 11; (with_reducible refine HBG.out.mono ?_); rintro e w1 ⟨rfl, hb1⟩; have HB1 := Lib.hid hb1; clear hb1)
        | (go_at_call 26; first | ((with_reducible refine (HC1.out _).mono ?_); rintro e w2 ⟨rfl, rfl⟩) | ((with_reducible refine (HC2.out _).mono ?_); rintro e w3 ⟨rfl, rfl⟩) | ((with_reducible refine (HC3.out _).mono ?_); rintro e w3 ⟨rfl, rfl⟩) | ((with_reducible refine (HC4.out _).mono ?_); rintro e w3 ⟨rfl, rfl⟩))
        | (go_at_call 29; first | ((with_reducible refine (HKA.out _).mono ?_); rintro e w4 ⟨rfl, rfl⟩) | ((with_reducible refine (HKB.out _).mono ?_); rintro e w4 ⟨rfl, rfl⟩))
        | (go_at_call 25; first | ((with_reducible refine (HNA.out _).mono ?_); rintro e w4 ⟨rfl, rfl⟩) | ((with_reducible refine (HNB.out _).mono ?_); rintro e w4 ⟨rfl, rfl⟩))
        | (go_at_call 30; (with_reducible refine (HS.out _).mono ?_); rintro e w5 ⟨rfl, rfl⟩)
        | (go_at_call 31; (with_reducible refine (HU.out _).mono ?_); rintro e w5 ⟨rfl, rfl⟩)
        | (go_at_call 23; (with_reducible refine (HCA.out _).mono ?_); rintro e w5 ⟨rfl, rfl⟩)
        | (go_at_call 18; (with_reducible refine (HBT.out _).mono ?_); rintro e w6 ⟨rfl, rfl⟩))
      go_ret
      exact ⟨rfl, HB1.out⟩)
  · rw [ex] at HC1
    rw [eo] at HC3
    rw [decide_eq_false (by omega : ¬ Rl.keyF a = Rl.keyF b)] at HS
    have nb : ¬ Rl.isN b := fun h => by have := hnb h; omega
    rw [decide_eq_false nb] at HNB
    obtain rfl : P = false := by
      cases P with
      | false => rfl
      | true => exact absurd (hlt rfl) (by omega)
    have k1 : decide (Rl.keyF a < Rl.keyF b) = false := decide_eq_false (by omega)
    generalize Rl.keyF a = ka at *
    generalize Rl.keyF b = kb at *
    clear hlt hgt hla hlb hna hma hnb hmb hy hz hyc ex hk eo nb
    cases Q
    all_goals (
      go_enter Tryz.func7, Tryz.ntmps7
      go_wp2_with (first
        | (go_at_call 11; (with_reducible refine HBG.out.mono ?_); rintro e w1 ⟨rfl, hb1⟩; have HB1 := Lib.hid hb1; clear hb1)
        | (go_at_call 26; first | ((with_reducible refine (HC1.out _).mono ?_); rintro e w2 ⟨rfl, rfl⟩) | ((with_reducible refine (HC2.out _).mono ?_); rintro e w3 ⟨rfl, rfl⟩) | ((with_reducible refine (HC3.out _).mono ?_); rintro e w3 ⟨rfl, rfl⟩) | ((with_reducible refine (HC4.out _).mono ?_); rintro e w3 ⟨rfl, rfl⟩))
        | (go_at_call 29; first | ((with_reducible refine (HKA.out _).mono ?_); rintro e w4 ⟨rfl, rfl⟩) | ((with_reducible refine (HKB.out _).mono ?_); rintro e w4 ⟨rfl, rfl⟩))
        | (go_at_call 25; first | ((with_reducible refine (HNA.out _).mono ?_); rintro e w4 ⟨rfl, rfl⟩) | ((with_reducible refine (HNB.out _).mono ?_); rintro e w4 ⟨rfl, rfl⟩))
        | (go_at_call 30; (with_reducible refine (HS.out _).mono ?_); rintro e w5 ⟨rfl, rfl⟩)
        | (go_at_call 31; (with_reducible refine (HU.out _).mono ?_); rintro e w5 ⟨rfl, rfl⟩)
        | (go_at_call 23; (with_reducible refine (HCA.out _).mono ?_); rintro e w5 ⟨rfl, rfl⟩)
        | (go_at_call 18; (with_reducible refine (HBT.out _).mono ?_); rintro e w6 ⟨rfl, rfl⟩))
      go_ret
      exact ⟨rfl, HB1.out⟩)
end Go.Proofs.YtljmnafmnmmehaaGreatDoor
