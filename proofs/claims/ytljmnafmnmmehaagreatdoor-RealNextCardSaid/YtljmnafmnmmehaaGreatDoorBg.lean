/- The least and the greatest. -/
import Derived.Test.YtljmnafmnmmehaaGreatDoorBf
import Derived.Deep.LoopGhost
import Derived.Deep.Cut
import Derived.WalkKit
import Derived.BigQuiet
import Derived.Deep.QuietTactic
import Derived.BigRegion
import Derived.Below
import Derived.Lib.Hide
import Derived.Outline
import Derived.OwnWalk
import Derived.WalkLawsBesides
import Derived.Handy
namespace Go.Proofs.YtljmnafmnmmehaaGreatDoor
open Go.RowKit
set_option linter.unusedVariables false
set_option linter.unusedSimpArgs false

/-- Floating numbers in memory. -/
structure Rl.Fl (w : World) (A : Option Addr) (xs : List Nat) : Prop where
  len : xs.length ≤ 9223372036854775807
  cell : ∀ i, i < xs.length → ∃ b o, A = some ⟨b, o, none⟩ ∧ b < w.heap.size ∧ w.cell? ⟨b, o + i, none⟩ = some (.float .f64 (xs.getD i 0))
  lt : ∀ x ∈ xs, x < 18446744073709551616
theorem Rl.Fl.keep {w w' : World} {A : Option Addr} {xs : List Nat} (h : Rl.Fl w A xs) (hb : Below w.heap.size w w') : Rl.Fl w' A xs :=
  ⟨h.len, fun i hi => by
    obtain ⟨b, o, hA, hlt, hc⟩ := h.cell i hi
    exact ⟨b, o, hA, Nat.lt_of_lt_of_le hlt hb.size, (hb.cell (p := ⟨b, o + i, none⟩) hlt).trans hc⟩, h.lt⟩
def Rl.outS (side : Int) (s : Nat × Bool) (x : Nat) : Nat × Bool := if Rl.isN x then s else if s.2 = true ∧ Rl.cmpF x s.1 * side ≤ 0 then s else (x, true)
def Rl.outL (side : Int) (xs : List Nat) : Nat × Bool := xs.foldl (Rl.outS side) (9221120237041090561, false)
def Rl.outF (side : Int) (xs : List Nat) : Nat × Bool := if xs.length = 0 then (0, false) else ((Rl.outL side xs).1, true)
theorem Rl.outL_take (side : Int) (xs : List Nat) (k : Nat) (h : k < xs.length) : Rl.outL side (xs.take (k + 1)) = Rl.outS side (Rl.outL side (xs.take k)) (xs.getD k 0) := by
  unfold Rl.outL
  rw [List.take_add_one, List.foldl_append, List.getD_eq_getElem?_getD, List.getElem?_eq_getElem h]
  rfl
theorem Rl.outL_lt (side : Int) : ∀ (xs : List Nat) (s : Nat × Bool), s.1 < 18446744073709551616 → (∀ x ∈ xs, x < 18446744073709551616) → (xs.foldl (Rl.outS side) s).1 < 18446744073709551616
  | [], s, h, _ => h
  | x :: xs, s, h, hx => by
    refine Rl.outL_lt side xs _ ?_ fun y hy => hx y (List.mem_cons_of_mem _ hy)
    unfold Rl.outS
    split
    · exact h
    · split
      · exact h
      · exact hx x (by simp)
def Rl.OutRel (side : Int) (xs : List Nat) (w : World) (gk : Nat) (bv tv iv : Value) (wr : World) : Prop :=
  ∃ k : Nat, k ≤ xs.length ∧ gk = xs.length - k ∧ iv = .int .i64 k ∧ bv = .float .f64 (Rl.outL side (xs.take k)).1 ∧ tv = .bool (Rl.outL side (xs.take k)).2 ∧ w = wr
theorem Rl.cmpF_range (a b : Nat) : Rl.cmpF a b = -1 ∨ Rl.cmpF a b = 0 ∨ Rl.cmpF a b = 1 := by
  unfold Rl.cmpF Rl.cmpN
  split
  · exact .inl rfl
  · split
    · exact .inr (.inr rfl)
    · exact .inr (.inl rfl)
set_option maxHeartbeats 8000000 in
set_option maxRecDepth 100000 in
theorem out_any (side : Int) (hside : side = -1 ∨ side = 1) (A : Option Addr) (cp : Nat) (xs : List Nat) (w : World) (hx : Rl.Fl w A xs) : Calls Tryz.prog 47 #[.int .i64 side, .slice A xs.length cp] w fun e w' => e = .returned (.tuple #[.float .f64 (Rl.outF side xs).1, .bool (Rl.outF side xs).2]) ∧ w = w' := by
  have HX := Lib.hid hx
  have hl := hx.len
  unfold Rl.outF
  by_cases h0 : xs.length = 0
  · rw [if_pos h0, h0]
    clear hx hl HX h0
    go_enter Tryz.func47, Tryz.ntmps47
    go_wp2
    go_ret2
    exact ⟨rfl, rfl⟩
  · rw [if_neg h0]
    have e0 : (((xs.length : Nat) : Int) == 0) = false := beq_eq_false_iff_ne.2 (by omega)
    have HS := Lib.hid hside
    clear hx hside
    go_enter Tryz.func47, Tryz.ntmps47
    go_wp2_with (go_at_call 51; (with_reducible refine (none_any _).mono ?_); rintro e w2 ⟨rfl, rfl⟩)
    go_loopg [6, 7, 16] xs.length (fun gk bv tv iv wx => Rl.OutRel side xs w gk bv tv iv wx)
    case atStart => exact ⟨0, by omega, by omega, rfl, rfl, rfl, rfl⟩
    case round =>
      obtain ⟨k, hk, rfl, rfl, rfl, rfl, rfl⟩ := hrel
      by_cases hlt : k < xs.length
      · obtain ⟨b, o, rfl, hblt, hcell⟩ := HX.out.cell k hlt
        have htk := Rl.outL_take side xs k hlt
        have hxlt := HX.out.lt (xs.getD k 0) (by rw [List.getD_eq_getElem?_getD, List.getElem?_eq_getElem hlt]; exact List.getElem_mem _)
        have hblt2 := Rl.outL_lt side (xs.take k) (9221120237041090561, false) (by decide) (fun y hy => HX.out.lt y (List.mem_of_mem_take hy))
        change (Rl.outL side (xs.take k)).1 < _ at hblt2
        generalize xs.getD k 0 = x at hcell htk hxlt
        generalize Rl.outL side (xs.take k) = S at htk hblt2 ⊢
        obtain ⟨best, there⟩ := S
        have ko := Rl.ord_self x hxlt
        have HTK := Lib.hid htk
        have HXL := Lib.hid hxlt
        have HBL := Lib.hid hblt2
        clear htk hxlt hblt2
        dsimp only
        by_cases hn : Rl.isN x
        · have htk2 : Rl.outL side (xs.take (k + 1)) = (best, there) := by rw [HTK.out]; unfold Rl.outS; rw [if_pos hn]
          have HTK2 := Lib.hid htk2
          rw [decide_eq_true hn] at ko
          clear hn htk2
          go_wp2_with fail
          go_roundg (xs.length - (k + 1))
          case measure => omega
          case rel => exact ⟨k + 1, by omega, rfl, by go_num, by rw [HTK2.out], by rw [HTK2.out], rfl⟩
        · rw [decide_eq_false hn] at ko
          cases there with
          | false =>
            have htk2 : Rl.outL side (xs.take (k + 1)) = (x, true) := by rw [HTK.out]; unfold Rl.outS; rw [if_neg hn, if_neg (by simp)]
            have HTK2 := Lib.hid htk2
            clear hn htk2
            go_wp2_with fail
            go_roundg (xs.length - (k + 1))
            case measure => omega
            case rel => exact ⟨k + 1, by omega, rfl, by go_num, by rw [HTK2.out], by rw [HTK2.out], rfl⟩
          | true =>
            have HC := Lib.hid (compare_any x best HXL.out HBL.out w)
            by_cases hc : Rl.cmpF x best * side ≤ 0
            · have htk2 : Rl.outL side (xs.take (k + 1)) = (best, true) := by rw [HTK.out]; unfold Rl.outS; rw [if_neg hn, if_pos ⟨rfl, hc⟩]
              have HTK2 := Lib.hid htk2
              have hr := Rl.cmpF_range x best
              generalize Rl.cmpF x best = c at hc hr HC
              clear hn htk2
              have hsr := HS.out
              have ec : decide (wrap64 (c * side) ≤ 0) = true := decide_eq_true (by rcases hr with rfl | rfl | rfl <;> rcases hsr with rfl | rfl <;> first | decide +kernel | (exfalso; revert hc; decide))
              clear hc hr hsr
              go_wp2_with (go_at_call 26; (with_reducible refine HC.out.mono ?_); rintro e w2 ⟨rfl, rfl⟩)
              go_roundg (xs.length - (k + 1))
              case measure => omega
              case rel => exact ⟨k + 1, by omega, rfl, by go_num, by rw [HTK2.out], by rw [HTK2.out], rfl⟩
            · have htk2 : Rl.outL side (xs.take (k + 1)) = (x, true) := by rw [HTK.out]; unfold Rl.outS; rw [if_neg hn, if_neg (fun h => hc h.2)]
              have HTK2 := Lib.hid htk2
              have hr := Rl.cmpF_range x best
              generalize Rl.cmpF x best = c at hc hr HC
              clear hn htk2
              have hsr := HS.out
              have ec : decide (wrap64 (c * side) ≤ 0) = false := decide_eq_false (by rcases hr with rfl | rfl | rfl <;> rcases hsr with rfl | rfl <;> first | decide +kernel | (exfalso; revert hc; decide))
              clear hc hr hsr
              go_wp2_with (go_at_call 26; (with_reducible refine HC.out.mono ?_); rintro e w2 ⟨rfl, rfl⟩)
              go_roundg (xs.length - (k + 1))
              case measure => omega
              case rel => exact ⟨k + 1, by omega, rfl, by go_num, by rw [HTK2.out], by rw [HTK2.out], rfl⟩
      · have hke : k = xs.length := by omega
        subst hke
        rw [List.take_length]
        go_wp2_with fail
        go_ret2
        exact ⟨rfl, rfl⟩
set_option maxHeartbeats 8000000 in
theorem min_any (A : Option Addr) (cp : Nat) (xs : List Nat) (w : World) (hx : Rl.Fl w A xs) : Calls Tryz.prog 13 #[.slice A xs.length cp] w fun e w' => e = .returned (.tuple #[.float .f64 (Rl.outF (-1) xs).1, .bool (Rl.outF (-1) xs).2]) ∧ w = w' := by
  have HO := Lib.hid (out_any (-1) (.inl rfl) A cp xs w hx)
  clear hx
  go_enter Tryz.func13, Tryz.ntmps13
  go_wp2_with (go_at_call 47; (with_reducible refine HO.out.mono ?_); rintro e w2 ⟨rfl, rfl⟩)
  go_ret2
  exact ⟨rfl, rfl⟩
set_option maxHeartbeats 8000000 in
theorem max_any (A : Option Addr) (cp : Nat) (xs : List Nat) (w : World) (hx : Rl.Fl w A xs) : Calls Tryz.prog 15 #[.slice A xs.length cp] w fun e w' => e = .returned (.tuple #[.float .f64 (Rl.outF 1 xs).1, .bool (Rl.outF 1 xs).2]) ∧ w = w' := by
  have HO := Lib.hid (out_any 1 (.inr rfl) A cp xs w hx)
  clear hx
  go_enter Tryz.func15, Tryz.ntmps15
  go_wp2_with (go_at_call 47; (with_reducible refine HO.out.mono ?_); rintro e w2 ⟨rfl, rfl⟩)
  go_ret2
  exact ⟨rfl, rfl⟩

end Go.Proofs.YtljmnafmnmmehaaGreatDoor
