/- Next, Apart, Nextafter. -/
import Derived.Test.YtljmnafmnmmehaaGreatDoorCe
import Derived.Test.YtljmnafmnmmehaaGreatDoorBm
import Derived.WalkKit
import Derived.BigQuiet
import Derived.Deep.QuietTactic
import Derived.BigRegion
import Derived.Below
import Derived.Lib.Hide
import Derived.Outline
import Derived.OwnWalk
import Derived.WalkLawsBesides
import Derived.Handy
namespace Go.Proofs.YtljmnafmnmmehaaGreatDoor
open Go.RowKit
set_option linter.unusedVariables false
set_option linter.unusedSimpArgs false

theorem Rl.ord_eq (a b : Nat) (ha : a < 18446744073709551616) (hb : b < 18446744073709551616) (na : ¬ Rl.isN a) (nb : ¬ Rl.isN b) : (FloatKind.f64.format.order a b == some Ordering.eq) = decide (Rl.sgn a = Rl.sgn b) := by
  rw [Rl.ord_num a b ha hb na nb, Bool.eq_iff_iff, beq_iff_eq, Option.some.injEq, decide_eq_true_iff]
  exact Int.compare_eq_eq
theorem Rl.ord_gt (a b : Nat) (ha : a < 18446744073709551616) (hb : b < 18446744073709551616) (na : ¬ Rl.isN a) (nb : ¬ Rl.isN b) : (FloatKind.f64.format.order a b == some Ordering.gt) = decide (Rl.sgn b < Rl.sgn a) := by
  rw [Rl.ord_num a b ha hb na nb, Bool.eq_iff_iff, beq_iff_eq, Option.some.injEq, decide_eq_true_iff]
  exact Int.compare_eq_gt
def Rl.nxtF (x : Nat) : Nat := if x < 9223372036854775808 then x + 1 else if x = 9223372036854775808 then 0 else x - 1
theorem Rl.nxt_num (x : Nat) (hx : x < 18446744073709551616) (nx : ¬ Rl.isN x) (hi : x ≠ 9218868437227405312) : Rl.nxtF x < 18446744073709551616 ∧ ¬ Rl.isN (Rl.nxtF x) ∧ Rl.keyF (Rl.nxtF x) = Rl.keyF x + 1 := by
  have h3 : Rl.nxtF x < 18446744073709551616 ∧ ¬ Rl.isN (Rl.nxtF x) := by
    unfold Rl.nxtF
    unfold Rl.isN at *
    by_cases h1 : x < 9223372036854775808
    · rw [if_pos h1]; omega
    · rw [if_neg h1]
      by_cases h2 : x = 9223372036854775808
      · rw [if_pos h2]; omega
      · rw [if_neg h2]; omega
  refine ⟨h3.1, h3.2, ?_⟩
  unfold Rl.keyF
  rw [if_neg h3.2, if_neg nx]
  unfold Rl.isN at nx
  unfold Rl.nxtF
  by_cases h1 : x < 9223372036854775808
  · rw [if_pos h1]
    rewrite [if_neg (by omega), if_neg (by omega)]; omega
  · rw [if_neg h1]
    by_cases h2 : x = 9223372036854775808
    · rewrite [if_pos h2, if_neg (by omega), if_pos (by omega)]; omega
    · rewrite [if_neg h2, if_pos (by omega), if_pos (by omega)]; omega
theorem Rl.unk_next (x : Nat) (hx : x < 18446744073709551616) (nx : ¬ Rl.isN x) (hi : x ≠ 9218868437227405312) : Rl.unkV (Rl.keyF x + 1) = Rl.nxtF x ∧ Rl.unkB (Rl.keyF x + 1) = true := by
  obtain ⟨h1, h2, h3⟩ := Rl.nxt_num x hx nx hi
  have := Rl.unk_key (Rl.nxtF x) h1
  rw [h3, if_neg h2] at this
  exact this
theorem Rl.unk_inf : Rl.unkB (Rl.keyF 9218868437227405312 + 1) = false := by
  have e : Rl.keyF 9218868437227405312 + 1 = 18442240474082181121 := by
    have nI : ¬ Rl.isN 9218868437227405312 := by unfold Rl.isN; omega
    unfold Rl.keyF
    rw [if_neg nI, if_neg (by omega)]
  rw [e]
  unfold Rl.unkB
  rw [decide_eq_false (show ¬ (18442240474082181121 : Nat) = 18446744073709551615 by omega)]
  have e2 : Rl.backF 18442240474082181121 = 9218868437227405313 := by
    unfold Rl.backF
    rw [if_pos (by omega)]
  rw [e2, decide_eq_true (by unfold Rl.isN; omega)]
  rfl
def Rl.nextF (x : Nat) : Nat := if Rl.isN x then 9221120237041090561 else if x = 9218868437227405312 then 9221120237041090561 else Rl.nxtF x
set_option maxHeartbeats 8000000 in
set_option maxRecDepth 100000 in
theorem next_any (x : Nat) (hx : x < 18446744073709551616) (w : World) : Calls Tryz.prog 37 #[.float .f64 x] w fun e w' => e = .returned (.float .f64 (Rl.nextF x)) ∧ w = w' := by
  have ko := Rl.ord_self x hx
  have HK := Lib.hid (fun W : World => key_any x hx W)
  unfold Rl.nextF
  by_cases nx : Rl.isN x
  · rw [decide_eq_true nx] at ko
    rw [if_pos nx]
    clear hx nx
    go_enter Tryz.func37, Tryz.ntmps37
    go_wp2_with (first | (go_at_call 51; (with_reducible refine (none_any _).mono ?_); rintro e w2 ⟨rfl, rfl⟩))
    go_ret
    exact ⟨rfl, rfl⟩
  · rw [decide_eq_false nx] at ko
    rw [if_neg nx]
    have hk := Rl.key_num x nx
    have HU := Lib.hid (fun W : World => unkey_any (Rl.keyF x + 1) (by omega) W)
    have hv : x ≠ 9218868437227405312 → Rl.unkV (Rl.keyF x + 1) = Rl.nxtF x ∧ Rl.unkB (Rl.keyF x + 1) = true := Rl.unk_next x hx nx
    have hv2 : x = 9218868437227405312 → Rl.unkB (Rl.keyF x + 1) = false := fun h => by rw [h]; exact Rl.unk_inf
    have kw : ((Rl.keyF x : Nat) : Int) + 1 = ((Rl.keyF x + 1 : Nat) : Int) := by omega
    have kw2 : ((Rl.keyF x + 1 : Nat) : Int) % 18446744073709551616 = ((Rl.keyF x + 1 : Nat) : Int) := by omega
    have kw3 : IntKind.u64.wrap ((Rl.keyF x : Nat) + 1 : Int) = ((Rl.keyF x + 1 : Nat) : Int) := by
      rw [IntKind.wrap_u64]; omega
    generalize Rl.unkV (Rl.keyF x + 1) = v at *
    generalize Rl.unkB (Rl.keyF x + 1) = bb at *
    generalize Rl.keyF x + 1 = k1 at *
    generalize Rl.keyF x = k at *
    by_cases hi : x = 9218868437227405312
    · rw [if_pos hi]
      obtain rfl := hv2 hi
      clear hv hv2 hx nx hk hi
      go_enter Tryz.func37, Tryz.ntmps37
      go_wp2_with (first
    | (go_at_call 51; (with_reducible refine (none_any _).mono ?_); rintro e w2 ⟨rfl, rfl⟩)
    | (go_at_call 29; (with_reducible refine (HK.out _).mono ?_); rintro e w2 ⟨rfl, rfl⟩)
    | (go_at_call 31; (with_reducible refine (HU.out _).mono ?_); rintro e w2 ⟨rfl, rfl⟩))
      go_ret
      exact ⟨rfl, rfl⟩
    · rw [if_neg hi]
      obtain ⟨rfl, rfl⟩ := hv hi
      clear hv hv2 hx nx hk hi
      generalize Rl.nxtF x = v at *
      go_enter Tryz.func37, Tryz.ntmps37
      go_wp2_with (first
    | (go_at_call 51; (with_reducible refine (none_any _).mono ?_); rintro e w2 ⟨rfl, rfl⟩)
    | (go_at_call 29; (with_reducible refine (HK.out _).mono ?_); rintro e w2 ⟨rfl, rfl⟩)
    | (go_at_call 31; (with_reducible refine (HU.out _).mono ?_); rintro e w2 ⟨rfl, rfl⟩))
      go_ret
      exact ⟨rfl, rfl⟩
set_option maxHeartbeats 8000000 in
set_option maxRecDepth 100000 in
theorem isinf_any (x : Nat) (hx : x < 18446744073709551616) (w : World) : Calls Tryz.prog 32 #[.float .f64 x, .int .i64 1] w fun e w' => e = .returned (.bool (decide (x = 9218868437227405312))) ∧ w = w' := by
  have ko : (FloatKind.f64.format.order x 9218868437227405311 == some Ordering.gt) = decide (x = 9218868437227405312) := by
    by_cases nx : Rl.isN x
    · rw [Rl.ord_nan1 x _ nx, decide_eq_false (by intro h; subst h; unfold Rl.isN at nx; omega)]
      rfl
    · rw [Rl.ord_gt x _ hx (by omega) nx (by unfold Rl.isN; omega)]
      unfold Rl.isN at nx
      unfold Rl.sgn
      rw [Bool.eq_iff_iff, decide_eq_true_iff, decide_eq_true_iff]
      by_cases h : x < 9223372036854775808
      · rw [if_pos h, if_pos (by omega)]; omega
      · rw [if_neg h, if_pos (by omega)]; omega
  generalize decide (x = 9218868437227405312) = b at *
  clear hx
  go_enter Tryz.func32, Tryz.ntmps32
  go_wp2
  go_ret
  exact ⟨rfl, rfl⟩
theorem apart_next (x n : Nat) (hx : x < 18446744073709551616) (hn : n < 18446744073709551616) (nx : ¬ Rl.isN x) (nn : ¬ Rl.isN n) (hk : Rl.keyF n = Rl.keyF x + 1) (w : World) : Calls Tryz.prog 39 #[.float .f64 x, .float .f64 n] w fun e w' => e = .returned (.tuple #[.int .u64 1, .bool true]) ∧ w = w' := by
  have ko := Rl.ord_self x hx
  rw [decide_eq_false nx] at ko
  have kn := Rl.ord_self n hn
  rw [decide_eq_false nn] at kn
  have HK := Lib.hid (fun W : World => key_any x hx W)
  have HN := Lib.hid (fun W : World => key_any n hn W)
  rw [hk] at HN
  have hl := Rl.key_num x nx
  generalize Rl.keyF x = k at *
  clear hx hn nx nn hk
  go_enter Tryz.func39, Tryz.ntmps39
  go_wp2_with (first
    | (go_at_call 29; first | ((with_reducible refine (HK.out _).mono ?_); rintro e w2 ⟨rfl, rfl⟩) | ((with_reducible refine (HN.out _).mono ?_); rintro e w2 ⟨rfl, rfl⟩)))
  go_ret2
  exact ⟨by show Ending.returned (.tuple #[.int .u64 (max (k : Int) (k + 1) - min (k : Int) (k + 1)), .bool true]) = _; rw [show max (k : Int) (k + 1) - min (k : Int) (k + 1) = 1 by omega], rfl⟩
set_option maxHeartbeats 8000000 in
set_option maxRecDepth 100000 in
theorem copysign_1 (w : World) : Calls Tryz.prog 46 #[.float .f64 1, .float .f64 9218868437227405312] w fun e w' => e = .returned (.float .f64 1) ∧ w = w' := by
  have kr := Rl.run27
  have kb := Rl.run55
  have k1 : bits BinOp.andNot IntKind.u64 1 9223372036854775808 = 1 := by decide +kernel
  have k2 : bits BinOp.and IntKind.u64 9218868437227405312 9223372036854775808 = 0 := by decide +kernel
  have k3 : bits BinOp.or IntKind.u64 1 0 = 1 := by decide +kernel
  go_enter Tryz.func46, Tryz.ntmps46
  go_wp2
  go_ret
  exact ⟨rfl, rfl⟩
set_option maxHeartbeats 8000000 in
set_option maxRecDepth 100000 in
theorem nextafter_any (x : Nat) (hx : x < 18446744073709551616) (nx : ¬ Rl.isN x) (hi : x ≠ 9218868437227405312) (hm : x ≠ 9223372036854775808) (w : World) : Calls Tryz.prog 43 #[.float .f64 x, .float .f64 9218868437227405312] w fun e w' => e = .returned (.float .f64 (Rl.nxtF x)) ∧ w = w' := by
  have kr := Rl.run27
  have kb := Rl.run55
  have nI : ¬ Rl.isN 9218868437227405312 := by unfold Rl.isN; omega
  have n0 : ¬ Rl.isN 0 := by unfold Rl.isN; omega
  have HNX := Lib.hid (fun W : World => isnan_any x hx W)
  have HNI := Lib.hid (fun W : World => isnan_any 9218868437227405312 (by omega) W)
  have HCS := Lib.hid copysign_1
  rw [decide_eq_false nx] at HNX
  rw [decide_eq_false nI] at HNI
  have s0 : Rl.sgn 0 = 0 := by unfold Rl.sgn; rw [if_pos (by omega)]; rfl
  have sI : Rl.sgn 9218868437227405312 = 9218868437227405312 := by unfold Rl.sgn; rw [if_pos (by omega)]; rfl
  have o1 := Rl.ord_eq x 9218868437227405312 hx (by omega) nx nI
  have o2 := Rl.ord_eq x 0 hx (by omega) nx n0
  have o3 := Rl.ord_gt 9218868437227405312 x (by omega) hx nI nx
  have o4 := Rl.ord_gt x 0 hx (by omega) nx n0
  rw [sI] at o1 o3
  rw [s0] at o2 o4
  unfold Rl.isN at nx
  by_cases h1 : x < 9223372036854775808
  · have hs : Rl.sgn x = x := by unfold Rl.sgn; rw [if_pos h1]
    rw [hs] at o1 o2 o3 o4
    rw [decide_eq_false (by omega)] at o1
    rw [decide_eq_true (by omega)] at o3
    have hn : Rl.nxtF x = x + 1 := by unfold Rl.nxtF; rw [if_pos h1]
    rw [hn]
    by_cases h0 : x = 0
    · subst h0
      rw [decide_eq_true (by rfl)] at o2
      clear o4 hs hn h1 hx nx hi hm nI n0 s0 sI
      go_enter Tryz.func43, Tryz.ntmps43
      go_wp2_with (first
        | (go_at_call 25; first | ((with_reducible refine (HNX.out _).mono ?_); rintro e w2 ⟨rfl, rfl⟩) | ((with_reducible refine (HNI.out _).mono ?_); rintro e w2 ⟨rfl, rfl⟩))
        | (go_at_call 46; (with_reducible refine (HCS.out _).mono ?_); rintro e w2 ⟨rfl, rfl⟩))
      go_ret
      exact ⟨rfl, rfl⟩

    · rw [decide_eq_false (by omega)] at o2
      rw [decide_eq_true (by omega)] at o4
      have kw : ((x : Nat) : Int) + 1 = ((x + 1 : Nat) : Int) := by omega
      have kw3 : IntKind.u64.wrap ((x : Nat) + 1 : Int) = ((x + 1 : Nat) : Int) := by rw [IntKind.wrap_u64]; omega
      have kw2 : ((x + 1 : Nat) : Int) % 18446744073709551616 = ((x + 1 : Nat) : Int) := by omega
      generalize x + 1 = k1 at *
      clear hs hn h1 hx nx hi hm nI n0 s0 sI h0
      go_enter Tryz.func43, Tryz.ntmps43
      go_wp2_with (first
        | (go_at_call 25; first | ((with_reducible refine (HNX.out _).mono ?_); rintro e w2 ⟨rfl, rfl⟩) | ((with_reducible refine (HNI.out _).mono ?_); rintro e w2 ⟨rfl, rfl⟩))
        | (go_at_call 46; (with_reducible refine (HCS.out _).mono ?_); rintro e w2 ⟨rfl, rfl⟩))
      go_ret
      exact ⟨rfl, rfl⟩

  · have hs : Rl.sgn x = 9223372036854775808 - (x : Int) := by unfold Rl.sgn; rw [if_neg h1]
    rw [hs] at o1 o2 o3 o4
    rw [decide_eq_false (by omega)] at o1
    rw [decide_eq_true (by omega)] at o3
    rw [decide_eq_false (by omega)] at o2
    rw [decide_eq_false (by omega)] at o4
    have hn : Rl.nxtF x = x - 1 := by unfold Rl.nxtF; rw [if_neg h1, if_neg hm]
    rw [hn]
    have kw : ((x : Nat) : Int) - 1 = ((x - 1 : Nat) : Int) := by omega
    have kw3 : IntKind.u64.wrap ((x : Nat) - 1 : Int) = ((x - 1 : Nat) : Int) := by rw [IntKind.wrap_u64]; omega
    have kw2 : ((x - 1 : Nat) : Int) % 18446744073709551616 = ((x - 1 : Nat) : Int) := by omega
    generalize x - 1 = k1 at *
    clear hs hn h1 hx nx hi hm nI n0 s0 sI
    first
    | skip
      go_enter Tryz.func43, Tryz.ntmps43
      go_wp2_with (first
        | (go_at_call 25; first | ((with_reducible refine (HNX.out _).mono ?_); rintro e w2 ⟨rfl, rfl⟩) | ((with_reducible refine (HNI.out _).mono ?_); rintro e w2 ⟨rfl, rfl⟩))
        | (go_at_call 46; (with_reducible refine (HCS.out _).mono ?_); rintro e w2 ⟨rfl, rfl⟩))
      go_ret
      exact ⟨rfl, rfl⟩

set_option maxHeartbeats 8000000 in
set_option maxRecDepth 100000 in
theorem next_walk (a b : Nat) (ha : a < 18446744073709551616) (hb : b < 18446744073709551616) (w : World) (ht : Rl.Tab w) : Calls Tryz.prog 10 #[.int .u64 (a : Nat), .int .u64 (b : Nat)] w fun e w' => e = .returned (.bool true) ∧ Below w.heap.size w w' := by
  have HBG := Lib.hid (begun_any w ht)
  have kr := Rl.run27
  have HNX := Lib.hid (fun W : World => isnan_any a ha W)
  have HIF := Lib.hid (fun W : World => isinf_any a ha W)
  have HNE := Lib.hid (fun W : World => next_any a ha W)
  have HIN := Lib.hid inf_pos
  have HC1 := Lib.hid (fun W : World => compare_any a b ha hb W)
  unfold Rl.nextF at HNE
  by_cases na : Rl.isN a
  · rw [decide_eq_true na] at HNX
    rw [if_pos na] at HNE
    have HBT := Lib.hid (fun W : World => bits_any 9221120237041090561 9221120237041090561 W)
    rw [show decide (9221120237041090561 = 9221120237041090561) = true from by decide +kernel] at HBT
    clear ht ha hb na
    (go_enter Tryz.func10, Tryz.ntmps10; go_wp2_with (first
        | (go_at_call 11; (with_reducible refine HBG.out.mono ?_); rintro e w1 ⟨rfl, hb1⟩; have HB1 := Lib.hid hb1; clear hb1)
        | (go_at_call 37; (with_reducible refine (HNE.out _).mono ?_); rintro e w2 ⟨rfl, rfl⟩)
        | (go_at_call 25; (with_reducible refine (HNX.out _).mono ?_); rintro e w2 ⟨rfl, rfl⟩)
        | (go_at_call 32; (with_reducible refine (HIF.out _).mono ?_); rintro e w2 ⟨rfl, rfl⟩)
        | (go_at_call 18; (with_reducible refine (HBT.out _).mono ?_); rintro e w2 ⟨rfl, rfl⟩)
        | (go_at_call 39; (with_reducible refine (HAP.out _).mono ?_); rintro e w2 ⟨rfl, rfl⟩)
        | (go_at_call 44; (with_reducible refine (HIN.out _).mono ?_); rintro e w2 ⟨rfl, rfl⟩)
        | (go_at_call 43; (with_reducible refine (HNA.out _).mono ?_); rintro e w2 ⟨rfl, rfl⟩)
        | (go_at_call 26; first | ((with_reducible refine (HC1.out _).mono ?_); rintro e w2 ⟨rfl, rfl⟩) | ((with_reducible refine (HC2.out _).mono ?_); rintro e w2 ⟨rfl, rfl⟩) | ((with_reducible refine (HC3.out _).mono ?_); rintro e w2 ⟨rfl, rfl⟩))); go_ret; exact ⟨rfl, HB1.out⟩)
  · rw [decide_eq_false na] at HNX
    rw [if_neg na] at HNE
    by_cases hi : a = 9218868437227405312
    · rw [decide_eq_true hi] at HIF
      rw [if_pos hi] at HNE
      have HBT := Lib.hid (fun W : World => bits_any 9221120237041090561 9221120237041090561 W)
      rw [show decide (9221120237041090561 = 9221120237041090561) = true from by decide +kernel] at HBT
      clear ht ha hb na hi
      (go_enter Tryz.func10, Tryz.ntmps10; go_wp2_with (first
        | (go_at_call 11; (with_reducible refine HBG.out.mono ?_); rintro e w1 ⟨rfl, hb1⟩; have HB1 := Lib.hid hb1; clear hb1)
        | (go_at_call 37; (with_reducible refine (HNE.out _).mono ?_); rintro e w2 ⟨rfl, rfl⟩)
        | (go_at_call 25; (with_reducible refine (HNX.out _).mono ?_); rintro e w2 ⟨rfl, rfl⟩)
        | (go_at_call 32; (with_reducible refine (HIF.out _).mono ?_); rintro e w2 ⟨rfl, rfl⟩)
        | (go_at_call 18; (with_reducible refine (HBT.out _).mono ?_); rintro e w2 ⟨rfl, rfl⟩)
        | (go_at_call 39; (with_reducible refine (HAP.out _).mono ?_); rintro e w2 ⟨rfl, rfl⟩)
        | (go_at_call 44; (with_reducible refine (HIN.out _).mono ?_); rintro e w2 ⟨rfl, rfl⟩)
        | (go_at_call 43; (with_reducible refine (HNA.out _).mono ?_); rintro e w2 ⟨rfl, rfl⟩)
        | (go_at_call 26; first | ((with_reducible refine (HC1.out _).mono ?_); rintro e w2 ⟨rfl, rfl⟩) | ((with_reducible refine (HC2.out _).mono ?_); rintro e w2 ⟨rfl, rfl⟩) | ((with_reducible refine (HC3.out _).mono ?_); rintro e w2 ⟨rfl, rfl⟩))); go_ret; exact ⟨rfl, HB1.out⟩)
    · rw [decide_eq_false hi] at HIF
      rw [if_neg hi] at HNE
      obtain ⟨hn, nn, hk⟩ := Rl.nxt_num a ha na hi
      have HAP := Lib.hid (fun W : World => apart_next a (Rl.nxtF a) ha hn na nn hk W)
      have HC2 := Lib.hid (fun W : World => compare_any b (Rl.nxtF a) hb hn W)
      have HC3 := Lib.hid (fun W : World => compare_any a (Rl.nxtF a) ha hn W)
      have e3 : Rl.cmpF a (Rl.nxtF a) = -1 := by unfold Rl.cmpF Rl.cmpN; rw [if_pos (by omega)]
      rw [e3] at HC3
      have hpq : (decide (Rl.cmpF a b < 0) = false) ∨ (decide (Rl.cmpF a b < 0) = true ∧ decide (Rl.cmpF b (Rl.nxtF a) < 0) = false) := by
        rcases Rl.cmpN_cases (Rl.keyF a) (Rl.keyF b) with ⟨h, h2, _⟩ | ⟨h, h2, _⟩ | ⟨h, h2, _⟩
        · refine .inr ⟨decide_eq_true (by unfold Rl.cmpF; omega), decide_eq_false ?_⟩
          unfold Rl.cmpF
          rcases Rl.cmpN_cases (Rl.keyF b) (Rl.keyF (Rl.nxtF a)) with ⟨g, g2, _⟩ | ⟨g, g2, _⟩ | ⟨g, g2, _⟩
          · omega
          · omega
          · omega
        · exact .inl (decide_eq_false (by unfold Rl.cmpF; omega))
        · exact .inl (decide_eq_false (by unfold Rl.cmpF; omega))
      have n0 : ¬ Rl.isN 0 := by unfold Rl.isN; omega
      have s0 : Rl.sgn 0 = 0 := by unfold Rl.sgn; rw [if_pos (by omega)]; rfl
      have o1 := Rl.ord_eq a 0 ha (by omega) na n0
      have o2 := Rl.ord_eq (Rl.nxtF a) 0 hn (by omega) nn n0
      have o3 := Rl.ord_eq (Rl.nxtF a) (Rl.nxtF a) hn hn nn nn
      rw [decide_eq_true (rfl : Rl.sgn (Rl.nxtF a) = Rl.sgn (Rl.nxtF a))] at o3
      rw [s0] at o1 o2
      by_cases hm : a = 9223372036854775808
      · have z1 : Rl.sgn a = 0 := by rw [hm]; unfold Rl.sgn; rw [if_neg (by omega)]; rfl
        have z2 : Rl.sgn (Rl.nxtF a) = 0 := by
          have : Rl.nxtF a = 0 := by unfold Rl.nxtF; rw [if_neg (by omega), if_pos hm]
          rw [this, s0]
        rw [decide_eq_true z1] at o1
        rw [decide_eq_true z2] at o2
        generalize Rl.nxtF a = n at *
        generalize Rl.cmpF a b = p at *
        generalize Rl.cmpF b n = q at *
        clear z1 z2 hm n0 s0 hk hn nn hi na ht ha hb e3
        rcases hpq with k1 | ⟨k1, k2⟩
        all_goals
          skip
          (go_enter Tryz.func10, Tryz.ntmps10; go_wp2_with (first
        | (go_at_call 11; (with_reducible refine HBG.out.mono ?_); rintro e w1 ⟨rfl, hb1⟩; have HB1 := Lib.hid hb1; clear hb1)
        | (go_at_call 37; (with_reducible refine (HNE.out _).mono ?_); rintro e w2 ⟨rfl, rfl⟩)
        | (go_at_call 25; (with_reducible refine (HNX.out _).mono ?_); rintro e w2 ⟨rfl, rfl⟩)
        | (go_at_call 32; (with_reducible refine (HIF.out _).mono ?_); rintro e w2 ⟨rfl, rfl⟩)
        | (go_at_call 18; (with_reducible refine (HBT.out _).mono ?_); rintro e w2 ⟨rfl, rfl⟩)
        | (go_at_call 39; (with_reducible refine (HAP.out _).mono ?_); rintro e w2 ⟨rfl, rfl⟩)
        | (go_at_call 44; (with_reducible refine (HIN.out _).mono ?_); rintro e w2 ⟨rfl, rfl⟩)
        | (go_at_call 43; (with_reducible refine (HNA.out _).mono ?_); rintro e w2 ⟨rfl, rfl⟩)
        | (go_at_call 26; first | ((with_reducible refine (HC1.out _).mono ?_); rintro e w2 ⟨rfl, rfl⟩) | ((with_reducible refine (HC2.out _).mono ?_); rintro e w2 ⟨rfl, rfl⟩) | ((with_reducible refine (HC3.out _).mono ?_); rintro e w2 ⟨rfl, rfl⟩))); go_ret; exact ⟨rfl, HB1.out⟩)
      · have HNA := Lib.hid (fun W : World => nextafter_any a ha na hi hm W)
        have z2 : ¬ Rl.sgn (Rl.nxtF a) = 0 ∨ ¬ Rl.sgn a = 0 := by
          by_cases h1 : a < 9223372036854775808
          · refine .inl ?_
            have : Rl.nxtF a = a + 1 := by unfold Rl.nxtF; rw [if_pos h1]
            rw [this]
            unfold Rl.isN at na
            unfold Rl.sgn
            rw [if_pos (by omega)]
            omega
          · refine .inr ?_
            unfold Rl.sgn
            rw [if_neg h1]
            omega
        have z3 : ((FloatKind.f64.format.order a 0 == some Ordering.eq) = false) ∨ ((FloatKind.f64.format.order a 0 == some Ordering.eq) = true ∧ (FloatKind.f64.format.order (Rl.nxtF a) 0 == some Ordering.eq) = false) := by
          rw [o1, o2]
          by_cases h : Rl.sgn a = 0
          · exact .inr ⟨decide_eq_true h, decide_eq_false (by rcases z2 with h2 | h2; exact h2; exact absurd h h2)⟩
          · exact .inl (decide_eq_false h)
        generalize Rl.nxtF a = n at *
        generalize Rl.cmpF a b = p at *
        generalize Rl.cmpF b n = q at *
        clear z2 hm n0 s0 hk hn nn hi na ht ha hb e3 o1 o2
        rcases hpq with k1 | ⟨k1, k2⟩ <;> rcases z3 with z3 | ⟨z3, z4⟩
        all_goals
          skip
          (go_enter Tryz.func10, Tryz.ntmps10; go_wp2_with (first
        | (go_at_call 11; (with_reducible refine HBG.out.mono ?_); rintro e w1 ⟨rfl, hb1⟩; have HB1 := Lib.hid hb1; clear hb1)
        | (go_at_call 37; (with_reducible refine (HNE.out _).mono ?_); rintro e w2 ⟨rfl, rfl⟩)
        | (go_at_call 25; (with_reducible refine (HNX.out _).mono ?_); rintro e w2 ⟨rfl, rfl⟩)
        | (go_at_call 32; (with_reducible refine (HIF.out _).mono ?_); rintro e w2 ⟨rfl, rfl⟩)
        | (go_at_call 18; (with_reducible refine (HBT.out _).mono ?_); rintro e w2 ⟨rfl, rfl⟩)
        | (go_at_call 39; (with_reducible refine (HAP.out _).mono ?_); rintro e w2 ⟨rfl, rfl⟩)
        | (go_at_call 44; (with_reducible refine (HIN.out _).mono ?_); rintro e w2 ⟨rfl, rfl⟩)
        | (go_at_call 43; (with_reducible refine (HNA.out _).mono ?_); rintro e w2 ⟨rfl, rfl⟩)
        | (go_at_call 26; first | ((with_reducible refine (HC1.out _).mono ?_); rintro e w2 ⟨rfl, rfl⟩) | ((with_reducible refine (HC2.out _).mono ?_); rintro e w2 ⟨rfl, rfl⟩) | ((with_reducible refine (HC3.out _).mono ?_); rintro e w2 ⟨rfl, rfl⟩))); go_ret; exact ⟨rfl, HB1.out⟩)
end Go.Proofs.YtljmnafmnmmehaaGreatDoor
