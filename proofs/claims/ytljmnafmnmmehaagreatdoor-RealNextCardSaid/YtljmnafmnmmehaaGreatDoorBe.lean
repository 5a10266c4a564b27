/- Text at minus nought and at a half; Class. -/
import Derived.Test.YtljmnafmnmmehaaGreatDoorBd
import Derived.Laws.BytesString
import Derived.Laws.BitsAllLaws
import Derived.WalkKit
import Derived.BigQuiet
import Derived.Deep.QuietTactic
import Derived.BigRegion
import Derived.Below
import Derived.Lib.Hide
import Derived.Outline
import Derived.OwnWalk
import Derived.WalkLawsBesides
import Derived.Handy
namespace Go.Proofs.YtljmnafmnmmehaaGreatDoor
open Go.RowKit
set_option linter.unusedVariables false
set_option linter.unusedSimpArgs false

/-- The class of a number by its bits. -/
def Rl.classF (b : Nat) : Int :=
  if 9218868437227405312 < b % 9223372036854775808 then 1
  else if b < 9223372036854775808 then (if b % 9223372036854775808 = 9218868437227405312 then 9 else if 4503599627370496 ≤ b % 9223372036854775808 then 8 else if 0 < b % 9223372036854775808 then 7 else 6)
  else (if b % 9223372036854775808 = 9218868437227405312 then 2 else if 4503599627370496 ≤ b % 9223372036854775808 then 3 else if 0 < b % 9223372036854775808 then 4 else 5)
theorem Rl.andnot_top (b : Nat) (h : b < 18446744073709551616) : bits .andNot .u64 (b : Int) 9223372036854775808 = ((b % 9223372036854775808 : Nat) : Int) := by
  have h1 := u64_andNot_nat b 9223372036854775808 h (by decide)
  have h2 : b &&& (18446744073709551615 - 9223372036854775808) = b % 9223372036854775808 := Nat.and_two_pow_sub_one_eq_mod b 63
  rw [h2] at h1
  exact h1
set_option maxHeartbeats 8000000 in
set_option maxRecDepth 100000 in
theorem class_any (b : Nat) (h : b < 18446744073709551616) (w : World) : Calls Tryz.prog 28 #[.float .f64 b] w fun e w' => e = .returned (.int .i64 (Rl.classF b)) ∧ w = w' := by
  have ka := Rl.andnot_top b h
  have kb := Rl.run55
  have hl : b % 9223372036854775808 < 9223372036854775808 := Nat.mod_lt _ (by decide)
  have hs : b < 9223372036854775808 ∨ 9223372036854775808 ≤ b := by omega
  unfold Rl.classF
  generalize b % 9223372036854775808 = l at ka hl ⊢
  by_cases h1 : 9218868437227405312 < l
  · have e1 : decide ((9218868437227405312 : Int) < (l : Int)) = true := decide_eq_true (by omega)
    rw [if_pos h1]
    clear hs h1 hl h
    go_enter Tryz.func28, Tryz.ntmps28
    go_wp2
    go_ret
    exact ⟨rfl, rfl⟩
  · have e1 : decide ((9218868437227405312 : Int) < (l : Int)) = false := decide_eq_false (by omega)
    rw [if_neg h1]
    rcases hs with hs | hs
    · rw [if_pos hs]
      have e5 : decide ((b : Int) < 9223372036854775808) = true := decide_eq_true (by omega)
      by_cases h2 : l = 9218868437227405312
      · rw [if_pos h2]
        have e2 : ((l : Int) == 9218868437227405312) = true := beq_iff_eq.2 (by omega)
        clear h1 h2 hl hs h
        go_enter Tryz.func28, Tryz.ntmps28
        go_wp2
        go_ret
        exact ⟨rfl, rfl⟩
      · rw [if_neg h2]
        have e2 : ((l : Int) == 9218868437227405312) = false := beq_eq_false_iff_ne.2 (by omega)
        by_cases h3 : 4503599627370496 ≤ l
        · rw [if_pos h3]
          have e3 : decide ((4503599627370496 : Int) ≤ (l : Int)) = true := decide_eq_true (by omega)
          clear h1 h2 h3 hl hs h
          go_enter Tryz.func28, Tryz.ntmps28
          go_wp2
          go_ret
          exact ⟨rfl, rfl⟩
        · rw [if_neg h3]
          have e3 : decide ((4503599627370496 : Int) ≤ (l : Int)) = false := decide_eq_false (by omega)
          by_cases h4 : 0 < l
          · rw [if_pos h4]
            clear h1 h2 h3 hl hs h
            go_enter Tryz.func28, Tryz.ntmps28
            go_wp2
            go_ret
            exact ⟨rfl, rfl⟩
          · rw [if_neg h4]
            obtain rfl : l = 0 := by omega
            clear h1 h2 h3 h4 hl hs h e1 e2 e3
            go_enter Tryz.func28, Tryz.ntmps28
            go_wp2
            go_ret
            exact ⟨rfl, rfl⟩
    · rw [if_neg (by omega)]
      have e5 : decide ((b : Int) < 9223372036854775808) = false := decide_eq_false (by omega)
      by_cases h2 : l = 9218868437227405312
      · rw [if_pos h2]
        have e2 : ((l : Int) == 9218868437227405312) = true := beq_iff_eq.2 (by omega)
        clear h1 h2 hl hs h
        go_enter Tryz.func28, Tryz.ntmps28
        go_wp2
        go_ret
        exact ⟨rfl, rfl⟩
      · rw [if_neg h2]
        have e2 : ((l : Int) == 9218868437227405312) = false := beq_eq_false_iff_ne.2 (by omega)
        by_cases h3 : 4503599627370496 ≤ l
        · rw [if_pos h3]
          have e3 : decide ((4503599627370496 : Int) ≤ (l : Int)) = true := decide_eq_true (by omega)
          clear h1 h2 h3 hl hs h
          go_enter Tryz.func28, Tryz.ntmps28
          go_wp2
          go_ret
          exact ⟨rfl, rfl⟩
        · rw [if_neg h3]
          have e3 : decide ((4503599627370496 : Int) ≤ (l : Int)) = false := decide_eq_false (by omega)
          by_cases h4 : 0 < l
          · rw [if_pos h4]
            clear h1 h2 h3 hl hs h
            go_enter Tryz.func28, Tryz.ntmps28
            go_wp2
            go_ret
            exact ⟨rfl, rfl⟩
          · rw [if_neg h4]
            obtain rfl : l = 0 := by omega
            clear h1 h2 h3 h4 hl hs h e1 e2 e3
            go_enter Tryz.func28, Tryz.ntmps28
            go_wp2
            go_ret
            exact ⟨rfl, rfl⟩

theorem Rl.load3 (w : World) (g : Nat) (a b c : Value) (c0 : w.cell? ⟨g, 0, none⟩ = some a) (c1 : w.cell? ⟨g, 1, none⟩ = some b) (c2 : w.cell? ⟨g, 2, none⟩ = some c) : (loadCells ⟨g, 0, none⟩ 3).run Tryz.prog w = .ok #[a, b, c] w := by
  simp [loadCells, go_sem, c0, c1, c2]
theorem Rl.load2 (w : World) (g : Nat) (a b : Value) (c0 : w.cell? ⟨g, 0, none⟩ = some a) (c1 : w.cell? ⟨g, 1, none⟩ = some b) : (loadCells ⟨g, 0, none⟩ 2).run Tryz.prog w = .ok #[a, b] w := by
  simp [loadCells, go_sem, c0, c1]
theorem Rl.str3 (w : World) (g : Nat) (c0 : w.cell? ⟨g, 0, none⟩ = some (.int .u8 48)) (c1 : w.cell? ⟨g, 1, none⟩ = some (.int .u8 46)) (c2 : w.cell? ⟨g, 2, none⟩ = some (.int .u8 53)) :
    Sem.run Tryz.prog (convert 92 9 (.slice (some ⟨g, 0, none⟩) 3 24)) w = .ok (.string ⟨#[48, 46, 53]⟩) w := by
  rw [run_convert_bytes_string w 92 9 5 _ _ _ Tryz.underlying92 Tryz.underlying5 Tryz.underlying9, run_bytesToString w _ 3 24 [48, 46, 53] (Rl.load3 w g _ _ _ c0 c1 c2)]
  rfl
theorem Rl.str2 (w : World) (g : Nat) (c0 : w.cell? ⟨g, 0, none⟩ = some (.int .u8 45)) (c1 : w.cell? ⟨g, 1, none⟩ = some (.int .u8 48)) :
    Sem.run Tryz.prog (convert 92 9 (.slice (some ⟨g, 0, none⟩) 2 24)) w = .ok (.string ⟨#[45, 48]⟩) w := by
  rw [run_convert_bytes_string w 92 9 5 _ _ _ Tryz.underlying92 Tryz.underlying5 Tryz.underlying9, run_bytesToString w _ 2 24 [45, 48] (Rl.load2 w g _ _ c0 c1)]
  rfl
theorem Rl.make24 (w : World) : Sem.run Tryz.prog (Instr.makeSlice 92 (Value.int IntKind.i64 0) (Value.int IntKind.i64 24)) w = .ok (.slice (some ⟨w.heap.size, 0, none⟩) 0 24) (w.alloc (Obj.cells #[.int .u8 0, .int .u8 0, .int .u8 0, .int .u8 0, .int .u8 0, .int .u8 0, .int .u8 0, .int .u8 0, .int .u8 0, .int .u8 0, .int .u8 0, .int .u8 0, .int .u8 0, .int .u8 0, .int .u8 0, .int .u8 0, .int .u8 0, .int .u8 0, .int .u8 0, .int .u8 0, .int .u8 0, .int .u8 0, .int .u8 0, .int .u8 0] 5)) := by kernel_rfl
set_option maxHeartbeats 8000000 in
set_option maxRecDepth 100000 in
theorem fmt_half (w : World) (ht : Rl.Tab w) :
    Calls Tryz.prog 72 #[.float .f64 4602678819172646912, .int .u8 103, .int .i64 (-1), .int .i64 64] w fun e w' => e = .returned (.string ⟨#[48, 46, 53]⟩) ∧ Below w.heap.size w w' := by
  have HF := Lib.hid (ft_half (w.alloc (Obj.cells #[.int .u8 0, .int .u8 0, .int .u8 0, .int .u8 0, .int .u8 0, .int .u8 0, .int .u8 0, .int .u8 0, .int .u8 0, .int .u8 0, .int .u8 0, .int .u8 0, .int .u8 0, .int .u8 0, .int .u8 0, .int .u8 0, .int .u8 0, .int .u8 0, .int .u8 0, .int .u8 0, .int .u8 0, .int .u8 0, .int .u8 0, .int .u8 0] 5)) w.heap.size (heap_alloc_new w _) (ht.grown (Rl.gr_alloc (Rl.gr_refl w none) _) (by simp)))
  have km := Rl.make24
  clear ht
  go_enter Tryz.func72, Tryz.ntmps72
  go_wp2_with (go_at_call 78; (with_reducible refine HF.out.mono ?_); rintro e w2 ⟨rfl, h2, hg2⟩; have c0 : w2.cell? ⟨w.heap.size, 0, none⟩ = some (.int .u8 48) := Rl.blk_cell h2 0; have c1 : w2.cell? ⟨w.heap.size, 1, none⟩ = some (.int .u8 46) := Rl.blk_cell h2 1; have c2 : w2.cell? ⟨w.heap.size, 2, none⟩ = some (.int .u8 53) := Rl.blk_cell h2 2; have HG2 := Lib.hid (Rl.gr_new (Rl.gr_alloc (Rl.gr_refl w none) (Obj.cells #[.int .u8 0, .int .u8 0, .int .u8 0, .int .u8 0, .int .u8 0, .int .u8 0, .int .u8 0, .int .u8 0, .int .u8 0, .int .u8 0, .int .u8 0, .int .u8 0, .int .u8 0, .int .u8 0, .int .u8 0, .int .u8 0, .int .u8 0, .int .u8 0, .int .u8 0, .int .u8 0, .int .u8 0, .int .u8 0, .int .u8 0, .int .u8 0] 5)) hg2 (Nat.le_refl _)); have ks := Rl.str3 w2 _ c0 c1 c2; clear h2 hg2)
  go_ret
  exact ⟨rfl, HG2.out.os, HG2.out.tape, HG2.out.output, HG2.out.size, fun i hi => HG2.out.block i hi (by simp)⟩
set_option maxHeartbeats 8000000 in
set_option maxRecDepth 100000 in
theorem fmt_mz (w : World) :
    Calls Tryz.prog 72 #[.float .f64 9223372036854775808, .int .u8 103, .int .i64 (-1), .int .i64 64] w fun e w' => e = .returned (.string ⟨#[45, 48]⟩) ∧ Below w.heap.size w w' := by
  have HF := Lib.hid (ft_mz (w.alloc (Obj.cells #[.int .u8 0, .int .u8 0, .int .u8 0, .int .u8 0, .int .u8 0, .int .u8 0, .int .u8 0, .int .u8 0, .int .u8 0, .int .u8 0, .int .u8 0, .int .u8 0, .int .u8 0, .int .u8 0, .int .u8 0, .int .u8 0, .int .u8 0, .int .u8 0, .int .u8 0, .int .u8 0, .int .u8 0, .int .u8 0, .int .u8 0, .int .u8 0] 5)) w.heap.size (heap_alloc_new w _))
  have km := Rl.make24
  go_enter Tryz.func72, Tryz.ntmps72
  go_wp2_with (go_at_call 78; (with_reducible refine HF.out.mono ?_); rintro e w2 ⟨rfl, h2, hg2⟩; have ks := Rl.str2 w2 _ (Rl.blk_cell h2 0) (Rl.blk_cell h2 1); have HG2 := Lib.hid (Rl.gr_new (Rl.gr_alloc (Rl.gr_refl w none) (Obj.cells #[.int .u8 0, .int .u8 0, .int .u8 0, .int .u8 0, .int .u8 0, .int .u8 0, .int .u8 0, .int .u8 0, .int .u8 0, .int .u8 0, .int .u8 0, .int .u8 0, .int .u8 0, .int .u8 0, .int .u8 0, .int .u8 0, .int .u8 0, .int .u8 0, .int .u8 0, .int .u8 0, .int .u8 0, .int .u8 0, .int .u8 0, .int .u8 0] 5)) hg2 (Nat.le_refl _)); clear h2 hg2)
  go_ret
  exact ⟨rfl, HG2.out.os, HG2.out.tape, HG2.out.output, HG2.out.size, fun i hi => HG2.out.block i hi (by simp)⟩
set_option maxHeartbeats 4000000 in
set_option maxRecDepth 100000 in
theorem sfmt_half (w : World) (ht : Rl.Tab w) :
    Calls Tryz.prog 61 #[.float .f64 4602678819172646912, .int .u8 103, .int .i64 (-1), .int .i64 64] w fun e w' => e = .returned (.string ⟨#[48, 46, 53]⟩) ∧ Below w.heap.size w w' := by
  have HF := Lib.hid (fmt_half w ht)
  clear ht
  go_enter Tryz.func61, Tryz.ntmps61
  go_wp2_with (go_at_call 72; (with_reducible refine HF.out.mono ?_); rintro e w2 ⟨rfl, hb2⟩)
  go_ret
  exact ⟨rfl, hb2⟩

set_option maxHeartbeats 4000000 in
set_option maxRecDepth 100000 in
theorem sfmt_mz (w : World) :
    Calls Tryz.prog 61 #[.float .f64 9223372036854775808, .int .u8 103, .int .i64 (-1), .int .i64 64] w fun e w' => e = .returned (.string ⟨#[45, 48]⟩) ∧ Below w.heap.size w w' := by
  have HF := Lib.hid (fmt_mz w)
  go_enter Tryz.func61, Tryz.ntmps61
  go_wp2_with (go_at_call 72; (with_reducible refine HF.out.mono ?_); rintro e w2 ⟨rfl, hb2⟩)
  go_ret
  exact ⟨rfl, hb2⟩

set_option maxHeartbeats 4000000 in
set_option maxRecDepth 100000 in
theorem text_half (w : World) (ht : Rl.Tab w) :
    Calls Tryz.prog 20 #[.float .f64 4602678819172646912] w fun e w' => e = .returned (.string ⟨#[48, 46, 53]⟩) ∧ Below w.heap.size w w' := by
  have HF := Lib.hid (sfmt_half w ht)
  have HC := Lib.hid (class_any 4602678819172646912 (by decide) w)
  rw [show Rl.classF 4602678819172646912 = 8 from by decide +kernel] at HC
  clear ht
  go_enter Tryz.func20, Tryz.ntmps20
  go_wp2_with (first | (go_at_call 61; (with_reducible refine HF.out.mono ?_); rintro e w2 ⟨rfl, hb2⟩) | (go_at_call 28; (with_reducible refine HC.out.mono ?_); rintro e w3 ⟨rfl, rfl⟩))
  go_ret
  exact ⟨rfl, hb2⟩

set_option maxHeartbeats 4000000 in
set_option maxRecDepth 100000 in
theorem text_mz (w : World) :
    Calls Tryz.prog 20 #[.float .f64 9223372036854775808] w fun e w' => e = .returned (.string ⟨#[45, 48]⟩) ∧ Below w.heap.size w w' := by
  have HF := Lib.hid (sfmt_mz w)
  have HC := Lib.hid (class_any 9223372036854775808 (by decide) w)
  rw [show Rl.classF 9223372036854775808 = 5 from by decide +kernel] at HC
  go_enter Tryz.func20, Tryz.ntmps20
  go_wp2_with (first | (go_at_call 61; (with_reducible refine HF.out.mono ?_); rintro e w2 ⟨rfl, hb2⟩) | (go_at_call 28; (with_reducible refine HC.out.mono ?_); rintro e w3 ⟨rfl, rfl⟩))
  go_ret
  exact ⟨rfl, hb2⟩

end Go.Proofs.YtljmnafmnmmehaaGreatDoor
