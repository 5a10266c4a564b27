/- The walk of RealEnds. -/
import Derived.Test.YtljmnafmnmmehaaGreatDoorDa
import Derived.Test.YtljmnafmnmmehaaGreatDoorCe
import Derived.WalkKit
import Derived.BigQuiet
import Derived.Deep.QuietTactic
import Derived.BigRegion
import Derived.Below
import Derived.Lib.Hide
import Derived.Outline
import Derived.OwnWalk
import Derived.WalkLawsBesides
import Derived.Handy
namespace Go.Proofs.YtljmnafmnmmehaaGreatDoor
open Go.RowKit
set_option linter.unusedVariables false
set_option linter.unusedSimpArgs false

def Rl.anyF (us : List Nat) : Bool := us.any fun x => !decide (Rl.isN x)
def Rl.leastF (v : Nat) (us : List Nat) : Bool := us.any fun x => !decide (Rl.isN x) && decide (x = v)
theorem Rl.cmpN_minus (u v : Nat) : Rl.cmpN u v * (-1) ≤ 0 ↔ v ≤ u := by
  rcases Rl.cmpN_cases u v with ⟨h, h2, _⟩ | ⟨h, h2, _⟩ | ⟨h, h2, _⟩ <;> rw [h] <;> constructor <;> intro <;> first | omega | decide
theorem Rl.cmpN_plus (u v : Nat) : Rl.cmpN u v * 1 ≤ 0 ↔ u ≤ v := by
  rcases Rl.cmpN_cases u v with ⟨h, h2, _⟩ | ⟨h, h2, _⟩ | ⟨h, h2, _⟩ <;> rw [h] <;> constructor <;> intro <;> first | omega | decide
theorem Rl.cmp_step {side : Int} (hside : side = -1 ∨ side = 1) {x s y : Nat} (h1 : Rl.cmpF x s * side ≤ 0) (h2 : ¬ Rl.cmpF y s * side ≤ 0) : Rl.cmpF x y * side ≤ 0 := by
  unfold Rl.cmpF at *
  rcases hside with rfl | rfl
  · rw [Rl.cmpN_minus] at *; omega
  · rw [Rl.cmpN_plus] at *; omega
theorem Rl.cmp_same {side : Int} (x : Nat) : Rl.cmpF x x * side ≤ 0 := by
  have : Rl.cmpF x x = 0 := by unfold Rl.cmpF Rl.cmpN; rw [if_neg (by omega), if_neg (by omega)]
  rw [this]; omega
theorem Rl.outL_spec {side : Int} (hside : side = -1 ∨ side = 1) (us : List Nat) : ∀ k, k ≤ us.length →
    (Rl.outL side (us.take k)).2 = Rl.anyF (us.take k) ∧ (Rl.anyF (us.take k) = false → (Rl.outL side (us.take k)).1 = 9221120237041090561) ∧
    (Rl.anyF (us.take k) = true → (Rl.outL side (us.take k)).1 ∈ us.take k ∧ ¬ Rl.isN (Rl.outL side (us.take k)).1) ∧ (∀ x ∈ us.take k, ¬ Rl.isN x → Rl.cmpF x (Rl.outL side (us.take k)).1 * side ≤ 0) := by
  intro k
  induction k with
  | zero =>
    intro _
    rw [List.take_zero]
    exact ⟨rfl, fun _ => rfl, fun h => (by cases h), fun x hx => by cases hx⟩
  | succ k ih =>
    intro hk
    obtain ⟨i1, i2, i3, i4⟩ := ih (by omega)
    have htk := Rl.outL_take side us k (by omega)
    have ht : us.take (k + 1) = us.take k ++ [us.getD k 0] := by
      rw [List.take_add_one, List.getD_eq_getElem?_getD, List.getElem?_eq_getElem (by omega)]
      rfl
    have hs : Rl.anyF (us.take (k + 1)) = (Rl.anyF (us.take k) || !decide (Rl.isN (us.getD k 0))) := by
      rw [ht]; unfold Rl.anyF; simp
    rw [htk, hs, ht]
    have hempty : Rl.anyF (us.take k) = false → ∀ y ∈ us.take k, Rl.isN y := by
      intro h y hy
      unfold Rl.anyF at h
      have h2 := (List.any_eq_false.1 h) y hy
      simpa using h2
    generalize us.getD k 0 = x at *
    generalize us.take k = ts at *
    generalize Rl.outL side ts = S at *
    generalize Rl.anyF ts = sm at *
    unfold Rl.outS
    by_cases hn : Rl.isN x
    · rw [if_pos hn, decide_eq_true hn, Bool.not_true, Bool.or_false]
      refine ⟨i1, i2, fun h => ⟨List.mem_append_left _ (i3 h).1, (i3 h).2⟩, fun y hy ny => ?_⟩
      rcases List.mem_append.1 hy with h | h
      · exact i4 y h ny
      · rw [List.mem_singleton] at h; subst h; exact absurd hn ny
    · rw [if_neg hn, decide_eq_false hn, Bool.not_false, Bool.or_true]
      by_cases hc : S.2 = true ∧ Rl.cmpF x S.1 * side ≤ 0
      · rw [if_pos hc]
        refine ⟨hc.1, fun h => (by cases h), fun _ => ?_, fun y hy ny => ?_⟩
        · have := i3 (by rw [← i1]; exact hc.1)
          exact ⟨List.mem_append_left _ this.1, this.2⟩
        · rcases List.mem_append.1 hy with h | h
          · exact i4 y h ny
          · rw [List.mem_singleton] at h; subst h; exact hc.2
      · rw [if_neg hc]
        refine ⟨rfl, fun h => (by cases h), fun _ => ⟨by simp, hn⟩, fun y hy ny => ?_⟩
        rcases List.mem_append.1 hy with h | h
        · cases hsm : sm with
          | false =>
            exfalso
            exact ny (hempty hsm y h)
          | true =>
            have h7 : S.2 = true := by rw [i1, hsm]
            exact Rl.cmp_step hside (i4 y h ny) (fun h8 => hc ⟨h7, h8⟩)
        · rw [List.mem_singleton] at h; subst h; exact Rl.cmp_same _
theorem Rl.some_take (us : List Nat) (k : Nat) (h : k < us.length) : Rl.anyF (us.take (k + 1)) = (Rl.anyF (us.take k) || !decide (Rl.isN (us.getD k 0))) := by
  rw [List.take_add_one, List.getD_eq_getElem?_getD, List.getElem?_eq_getElem h]
  unfold Rl.anyF
  simp only [Option.toList_some, Option.getD_some, List.any_append, List.any_cons, List.any_nil, Bool.or_false]
theorem Rl.least_take (v : Nat) (us : List Nat) (k : Nat) (h : k < us.length) : Rl.leastF v (us.take (k + 1)) = (Rl.leastF v (us.take k) || (!decide (Rl.isN (us.getD k 0)) && decide (us.getD k 0 = v))) := by
  rw [List.take_add_one, List.getD_eq_getElem?_getD, List.getElem?_eq_getElem h]
  unfold Rl.leastF
  simp only [Option.toList_some, Option.getD_some, List.any_append, List.any_cons, List.any_nil, Bool.or_false]
theorem Rl.least_of (v : Nat) (us : List Nat) (h : v ∈ us) (hn : ¬ Rl.isN v) : Rl.leastF v us = true := by
  unfold Rl.leastF
  rw [List.any_eq_true]
  exact ⟨v, h, by rw [decide_eq_false hn, decide_eq_true rfl]; rfl⟩
def Rl.EndRel (lo hi : Nat) (us : List Nat) (w : World) (gk : Nat) (lv gv sv iv : Value) (wr : World) : Prop :=
  ∃ k : Nat, k ≤ us.length ∧ gk = us.length - k ∧ iv = .int .i64 k ∧ lv = .bool (Rl.leastF lo (us.take k)) ∧ gv = .bool (Rl.leastF hi (us.take k)) ∧ sv = .bool (Rl.anyF (us.take k)) ∧ w = wr
set_option maxHeartbeats 8000000 in
set_option maxRecDepth 100000 in
theorem ends_walk (A : Option Addr) (cp : Nat) (us : List Nat) (w : World) (hu : Rl.Us w A us) (ht : Rl.Tab w) : Calls Tryz.prog 5 #[.slice A us.length cp] w fun e w' => e = .returned (.bool true) ∧ Below w.heap.size w w' := by
  have HBG := Lib.hid (begun_any w ht)
  have HU := Lib.hid hu
  have hl : us.length ≤ 17592186043904 := by have := hu.len; omega
  have hult := hu.lt
  have HBZ := Lib.hid (fun W : World => bits_any 0 0 W)
  rw [decide_eq_true (rfl : (0 : Nat) = 0)] at HBZ
  by_cases h0 : us.length = 0
  · have em1 : (Rl.outF (-1) us).1 = 0 := by unfold Rl.outF; rw [if_pos h0]
    have em2 : (Rl.outF (-1) us).2 = false := by unfold Rl.outF; rw [if_pos h0]
    have ex1 : (Rl.outF 1 us).1 = 0 := by unfold Rl.outF; rw [if_pos h0]
    have ex2 : (Rl.outF 1 us).2 = false := by unfold Rl.outF; rw [if_pos h0]
    have e0 : (((us.length : Nat) : Int) == 0) = true := by rw [h0]; rfl
    clear hu ht hult h0
    go_enter Tryz.func5, Tryz.ntmps5
    go_wp2_with (first
      | (go_at_call 11; (with_reducible refine HBG.out.mono ?_); rintro e w1 ⟨rfl, hb1⟩; have HB1 := Lib.hid hb1; have HU1 := Lib.hid (HU.out.keep hb1); clear hb1)
      | (go_at_call 12; (with_reducible refine (of_any A cp us _ HU1.out).mono ?_); rintro e w2 ⟨B, cq, rfl, hf, hb2⟩; have HF := Lib.hid hf; have HB2 := Lib.hid hb2; clear hf hb2)
      | (go_at_call 13; (with_reducible refine (min_any _ _ us _ HF.out).mono ?_); rintro e w3 ⟨rfl, rfl⟩; rw [em1, em2])
      | (go_at_call 15; (with_reducible refine (max_any _ _ us _ HF.out).mono ?_); rintro e w3 ⟨rfl, rfl⟩; rw [ex1, ex2])
      | (go_at_call 18; (with_reducible refine (HBZ.out _).mono ?_); rintro e w3 ⟨rfl, rfl⟩))
    go_ret
    exact ⟨rfl, HB1.out.trans (HB2.out.mono HB1.out.size)⟩
  · have e0 : (((us.length : Nat) : Int) == 0) = false := beq_eq_false_iff_ne.2 (by omega)
    have em1 : (Rl.outF (-1) us).1 = (Rl.outL (-1) us).1 := by unfold Rl.outF; rw [if_neg h0]
    have em2 : (Rl.outF (-1) us).2 = true := by unfold Rl.outF; rw [if_neg h0]
    have ex1 : (Rl.outF 1 us).1 = (Rl.outL 1 us).1 := by unfold Rl.outF; rw [if_neg h0]
    have ex2 : (Rl.outF 1 us).2 = true := by unfold Rl.outF; rw [if_neg h0]
    obtain ⟨_, m2, m3, m4⟩ := Rl.outL_spec (side := -1) (.inl rfl) us us.length (Nat.le_refl _)
    obtain ⟨_, x2, x3, x4⟩ := Rl.outL_spec (side := 1) (.inr rfl) us us.length (Nat.le_refl _)
    rw [List.take_length] at m2 m3 m4 x2 x3 x4
    have llo := Rl.outL_lt (-1) us (9221120237041090561, false) (by decide) hult
    have lhi := Rl.outL_lt 1 us (9221120237041090561, false) (by decide) hult
    change (Rl.outL (-1) us).1 < _ at llo
    change (Rl.outL 1 us).1 < _ at lhi
    generalize (Rl.outL (-1) us).1 = lo at *
    generalize (Rl.outL 1 us).1 = hi at *
    have hlo : ∀ x ∈ us, ¬ Rl.isN x → decide (Rl.cmpF x lo < 0) = false := fun x hx nx => decide_eq_false (by have := m4 x hx nx; omega)
    have hhi : ∀ x ∈ us, ¬ Rl.isN x → decide (0 < Rl.cmpF x hi) = false := fun x hx nx => decide_eq_false (by have := x4 x hx nx; omega)
    have hend : (Rl.anyF us = true ∧ Rl.leastF lo us = true ∧ Rl.leastF hi us = true) ∨ (Rl.anyF us = false ∧ Rl.isN lo ∧ Rl.isN hi) := by
      cases hs : Rl.anyF us with
      | true => exact .inl ⟨rfl, Rl.least_of _ _ (m3 hs).1 (m3 hs).2, Rl.least_of _ _ (x3 hs).1 (x3 hs).2⟩
      | false => exact .inr ⟨rfl, by rw [m2 hs]; unfold Rl.isN; decide, by rw [x2 hs]; unfold Rl.isN; decide⟩
    have HLO := Lib.hid hlo
    have HHI := Lib.hid hhi
    have HEND := Lib.hid hend
    have LLO := Lib.hid llo
    have LHI := Lib.hid lhi
    have HLT := Lib.hid hult
    clear hu ht hult m2 m3 m4 x2 x3 x4 llo lhi hlo hhi hend h0
    go_enter Tryz.func5, Tryz.ntmps5
    go_wp2_with (first
      | (go_at_call 11; (with_reducible refine HBG.out.mono ?_); rintro e w1 ⟨rfl, hb1⟩; have HB1 := Lib.hid hb1; have HU1 := Lib.hid (HU.out.keep hb1); clear hb1)
      | (go_at_call 12; (with_reducible refine (of_any A cp us _ HU1.out).mono ?_); rintro e w2 ⟨B, cq, rfl, hf, hb2⟩; have HF := Lib.hid hf; have HB2 := Lib.hid hb2; clear hf hb2)
      | (go_at_call 13; (with_reducible refine (min_any _ _ us _ HF.out).mono ?_); rintro e w3 ⟨rfl, rfl⟩; rw [em1, em2])
      | (go_at_call 15; (with_reducible refine (max_any _ _ us _ HF.out).mono ?_); rintro e w3 ⟨rfl, rfl⟩; rw [ex1, ex2])
      | (go_at_call 18; (with_reducible refine (HBZ.out _).mono ?_); rintro e w3 ⟨rfl, rfl⟩))
    clear em1 em2 ex1 ex2 e0
    go_loopg [8, 9, 10, 11] us.length (fun gk lv gv sv iv wx => Rl.EndRel lo hi us w2 gk lv gv sv iv wx)
    case atStart => exact ⟨0, by omega, by omega, rfl, by rw [List.take_zero]; rfl, by rw [List.take_zero]; rfl, by rw [List.take_zero]; rfl, rfl⟩
    case round =>
      obtain ⟨k, hk, rfl, rfl, rfl, rfl, rfl, rfl⟩ := hrel
      by_cases hlt : k < us.length
      · obtain ⟨b, o, rfl, hblt, hcell⟩ := HF.out.cell k hlt
        have t1 := Rl.some_take us k hlt
        have t2 := Rl.least_take lo us k hlt
        have t3 := Rl.least_take hi us k hlt
        have hmem : us.getD k 0 ∈ us := by rw [List.getD_eq_getElem?_getD, List.getElem?_eq_getElem hlt]; exact List.getElem_mem _
        have hxlt := HLT.out _ hmem
        have hxlo := HLO.out _ hmem
        have hxhi := HHI.out _ hmem
        clear hmem
        generalize us.getD k 0 = x at hcell t1 t2 t3 hxlt hxlo hxhi
        have HNX := Lib.hid (fun W : World => isnan_any x hxlt W)
        have HCL := Lib.hid (fun W : World => compare_any x lo hxlt LLO.out W)
        have HCH := Lib.hid (fun W : World => compare_any x hi hxlt LHI.out W)
        have HBL := Lib.hid (fun W : World => bits_any x lo W)
        have HBH := Lib.hid (fun W : World => bits_any x hi W)
        generalize Rl.leastF lo (us.take k) = l at t2 ⊢
        generalize Rl.leastF hi (us.take k) = g at t3 ⊢
        generalize Rl.anyF (us.take k) = sm at t1 ⊢
        generalize decide (x = lo) = p at t2 HBL
        generalize decide (x = hi) = q at t3 HBH
        by_cases hn : Rl.isN x
        · rw [decide_eq_true hn] at HNX t1 t2 t3
          have T1 := Lib.hid t1
          have T2 := Lib.hid t2
          have T3 := Lib.hid t3
          clear hn t1 t2 t3 hxlt hxlo hxhi
          go_wp2_with (first
            | (go_at_call 25; (with_reducible refine (HNX.out _).mono ?_); rintro e w4 ⟨rfl, rfl⟩)
            | (go_at_call 18; first | ((with_reducible refine (HBL.out _).mono ?_); rintro e w4 ⟨rfl, rfl⟩) | ((with_reducible refine (HBH.out _).mono ?_); rintro e w4 ⟨rfl, rfl⟩))
            | (go_at_call 26; first | ((with_reducible refine (HCL.out _).mono ?_); rintro e w4 ⟨rfl, rfl⟩) | ((with_reducible refine (HCH.out _).mono ?_); rintro e w4 ⟨rfl, rfl⟩)))
          go_roundg (us.length - (k + 1))
          case measure => omega
          case rel => exact ⟨k + 1, by omega, rfl, by go_num, by rw [T2.out]; simp, by rw [T3.out]; simp, by rw [T1.out]; simp, rfl⟩
        · rw [decide_eq_false hn] at HNX t1 t2 t3
          have k1 := hxlo hn
          have k2 := hxhi hn
          have T1 := Lib.hid t1
          have T2 := Lib.hid t2
          have T3 := Lib.hid t3
          generalize Rl.cmpF x lo = c1 at k1 HCL
          generalize Rl.cmpF x hi = c2 at k2 HCH
          clear hn t1 t2 t3 hxlt hxlo hxhi
          cases l <;> cases g
          all_goals
            go_wp2_with (first
            | (go_at_call 25; (with_reducible refine (HNX.out _).mono ?_); rintro e w4 ⟨rfl, rfl⟩)
            | (go_at_call 18; first | ((with_reducible refine (HBL.out _).mono ?_); rintro e w4 ⟨rfl, rfl⟩) | ((with_reducible refine (HBH.out _).mono ?_); rintro e w4 ⟨rfl, rfl⟩))
            | (go_at_call 26; first | ((with_reducible refine (HCL.out _).mono ?_); rintro e w4 ⟨rfl, rfl⟩) | ((with_reducible refine (HCH.out _).mono ?_); rintro e w4 ⟨rfl, rfl⟩)))
            go_roundg (us.length - (k + 1))
            case measure => omega
            case rel => exact ⟨k + 1, by omega, rfl, by go_num, by rw [T2.out]; simp, by rw [T3.out]; simp, by rw [T1.out]; simp, rfl⟩
      · have hke : k = us.length := by omega
        subst hke
        rw [List.take_length]
        have HNL := Lib.hid (fun W : World => isnan_any lo LLO.out W)
        have HNH := Lib.hid (fun W : World => isnan_any hi LHI.out W)
        rcases HEND.out with ⟨z1, z2, z3⟩ | ⟨z1, z2, z3⟩
        · rw [z1, z2, z3]
          clear z1 z2 z3
          go_wp2_with fail
          go_ret
          exact ⟨rfl, HB1.out.trans (HB2.out.mono HB1.out.size)⟩
        · rw [decide_eq_true z2] at HNL
          rw [decide_eq_true z3] at HNH
          rw [z1]
          clear z1 z2 z3
          generalize Rl.leastF lo us = l
          generalize Rl.leastF hi us = g
          go_wp2_with (first
            | (go_at_call 25; (with_reducible refine (HNL.out _).mono ?_); rintro e w4 ⟨rfl, rfl⟩)
            | (go_at_call 25; (with_reducible refine (HNH.out _).mono ?_); rintro e w4 ⟨rfl, rfl⟩))
          go_ret
          exact ⟨rfl, HB1.out.trans (HB2.out.mono HB1.out.size)⟩
end Go.Proofs.YtljmnafmnmmehaaGreatDoor
