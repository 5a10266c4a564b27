/- The contracts of used, and of the closures of Apply and Half. -/
import Derived.Test.YtgdeoodihhcdjaaMn
namespace Go.Proofs.Ytgdeoodihhcdjaa
open Go.RowKit
set_option linter.unusedVariables false
set_option linter.unusedSimpArgs false


theorem used_1y (clsn : Int) (A : Option Addr) (n cp : Nat) (w : World) (hl : clsn = 0) :
    Calls Try.prog 55 #[.agg #[.int .i64 1, .int .i64 clsn, .slice A n cp]] w fun e w' => e = .returned (.bool true) ∧ Below w.heap.size w w' := by
  subst hl
  go_enter Try.func55, Try.ntmps55
  go_wp2
  go_ret
  exact ⟨rfl, Ln.below_alloc _ w (Nat.le_refl _) _⟩

theorem used_1n (clsn : Int) (A : Option Addr) (n cp : Nat) (w : World) (hl : clsn ≠ 0) :
    Calls Try.prog 55 #[.agg #[.int .i64 1, .int .i64 clsn, .slice A n cp]] w fun e w' => e = .returned (.bool false) ∧ Below w.heap.size w w' := by
  have e1 : (clsn == 0) = false := beq_eq_false_iff_ne.2 hl
  clear hl
  go_enter Try.func55, Try.ntmps55
  go_wp2
  go_ret
  exact ⟨rfl, Ln.below_alloc _ w (Nat.le_refl _) _⟩

theorem used_2y (clsn : Int) (A : Option Addr) (n cp : Nat) (w : World) (hl : clsn = 0) :
    Calls Try.prog 55 #[.agg #[.int .i64 2, .int .i64 clsn, .slice A n cp]] w fun e w' => e = .returned (.bool true) ∧ Below w.heap.size w w' := by
  subst hl
  go_enter Try.func55, Try.ntmps55
  go_wp2
  go_ret
  exact ⟨rfl, Ln.below_alloc _ w (Nat.le_refl _) _⟩

theorem used_2n (clsn : Int) (A : Option Addr) (n cp : Nat) (w : World) (hl : clsn ≠ 0) :
    Calls Try.prog 55 #[.agg #[.int .i64 2, .int .i64 clsn, .slice A n cp]] w fun e w' => e = .returned (.bool false) ∧ Below w.heap.size w w' := by
  have e1 : (clsn == 0) = false := beq_eq_false_iff_ne.2 hl
  clear hl
  go_enter Try.func55, Try.ntmps55
  go_wp2
  go_ret
  exact ⟨rfl, Ln.below_alloc _ w (Nat.le_refl _) _⟩

theorem used_3y (clsn : Int) (A : Option Addr) (n cp : Nat) (w : World) (hl : clsn = 0) :
    Calls Try.prog 55 #[.agg #[.int .i64 3, .int .i64 clsn, .slice A 0 cp]] w fun e w' => e = .returned (.bool true) ∧ Below w.heap.size w w' := by
  subst hl
  go_enter Try.func55, Try.ntmps55
  go_wp2
  go_ret
  exact ⟨rfl, Ln.below_alloc _ w (Nat.le_refl _) _⟩

theorem used_3n (clsn : Int) (A : Option Addr) (n cp : Nat) (w : World) (hl : clsn ≠ 0) :
    Calls Try.prog 55 #[.agg #[.int .i64 3, .int .i64 clsn, .slice A n cp]] w fun e w' => e = .returned (.bool false) ∧ Below w.heap.size w w' := by
  have e1 : (clsn == 0) = false := beq_eq_false_iff_ne.2 hl
  clear hl
  go_enter Try.func55, Try.ntmps55
  go_wp2
  go_ret
  exact ⟨rfl, Ln.below_alloc _ w (Nat.le_refl _) _⟩

theorem used_3d (clsn : Int) (A : Option Addr) (n cp : Nat) (w : World) (hl : clsn = 0) (hn : n ≠ 0) :
    Calls Try.prog 55 #[.agg #[.int .i64 3, .int .i64 clsn, .slice A n cp]] w fun e w' => e = .returned (.bool false) ∧ Below w.heap.size w w' := by
  subst hl
  have en : ((n : Int) == 0) = false := beq_eq_false_iff_ne.2 (by omega)
  have en' : (n == 0) = false := beq_eq_false_iff_ne.2 hn
  clear hn
  go_enter Try.func55, Try.ntmps55
  go_wp2
  go_ret
  exact ⟨rfl, Ln.below_alloc _ w (Nat.le_refl _) _⟩

theorem used_7y (clsn : Int) (A : Option Addr) (n cp : Nat) (w : World) (hl : clsn = 0) :
    Calls Try.prog 55 #[.agg #[.int .i64 7, .int .i64 clsn, .slice A 0 cp]] w fun e w' => e = .returned (.bool true) ∧ Below w.heap.size w w' := by
  subst hl
  go_enter Try.func55, Try.ntmps55
  go_wp2
  go_ret
  exact ⟨rfl, Ln.below_alloc _ w (Nat.le_refl _) _⟩

theorem used_7n (clsn : Int) (A : Option Addr) (n cp : Nat) (w : World) (hl : clsn ≠ 0) :
    Calls Try.prog 55 #[.agg #[.int .i64 7, .int .i64 clsn, .slice A n cp]] w fun e w' => e = .returned (.bool false) ∧ Below w.heap.size w w' := by
  have e1 : (clsn == 0) = false := beq_eq_false_iff_ne.2 hl
  clear hl
  go_enter Try.func55, Try.ntmps55
  go_wp2
  go_ret
  exact ⟨rfl, Ln.below_alloc _ w (Nat.le_refl _) _⟩

theorem used_7d (clsn : Int) (A : Option Addr) (n cp : Nat) (w : World) (hl : clsn = 0) (hn : n ≠ 0) :
    Calls Try.prog 55 #[.agg #[.int .i64 7, .int .i64 clsn, .slice A n cp]] w fun e w' => e = .returned (.bool false) ∧ Below w.heap.size w w' := by
  subst hl
  have en : ((n : Int) == 0) = false := beq_eq_false_iff_ne.2 (by omega)
  have en' : (n == 0) = false := beq_eq_false_iff_ne.2 hn
  clear hn
  go_enter Try.func55, Try.ntmps55
  go_wp2
  go_ret
  exact ⟨rfl, Ln.below_alloc _ w (Nat.le_refl _) _⟩

theorem used_4y (clsn : Int) (A : Option Addr) (n cp : Nat) (w : World) :
    Calls Try.prog 55 #[.agg #[.int .i64 4, .int .i64 clsn, .slice A 0 cp]] w fun e w' => e = .returned (.bool true) ∧ Below w.heap.size w w' := by
  go_enter Try.func55, Try.ntmps55
  go_wp2
  go_ret
  exact ⟨rfl, Ln.below_alloc _ w (Nat.le_refl _) _⟩

theorem used_4n (clsn : Int) (A : Option Addr) (n cp : Nat) (w : World) (hn : n ≠ 0) :
    Calls Try.prog 55 #[.agg #[.int .i64 4, .int .i64 clsn, .slice A n cp]] w fun e w' => e = .returned (.bool false) ∧ Below w.heap.size w w' := by
  have en : ((n : Int) == 0) = false := beq_eq_false_iff_ne.2 (by omega)
  have en' : (n == 0) = false := beq_eq_false_iff_ne.2 hn
  clear hn
  go_enter Try.func55, Try.ntmps55
  go_wp2
  go_ret
  exact ⟨rfl, Ln.below_alloc _ w (Nat.le_refl _) _⟩

theorem used_5y (clsn : Int) (A : Option Addr) (n cp : Nat) (w : World) :
    Calls Try.prog 55 #[.agg #[.int .i64 5, .int .i64 clsn, .slice A 0 cp]] w fun e w' => e = .returned (.bool true) ∧ Below w.heap.size w w' := by
  go_enter Try.func55, Try.ntmps55
  go_wp2
  go_ret
  exact ⟨rfl, Ln.below_alloc _ w (Nat.le_refl _) _⟩

theorem used_5n (clsn : Int) (A : Option Addr) (n cp : Nat) (w : World) (hn : n ≠ 0) :
    Calls Try.prog 55 #[.agg #[.int .i64 5, .int .i64 clsn, .slice A n cp]] w fun e w' => e = .returned (.bool false) ∧ Below w.heap.size w w' := by
  have en : ((n : Int) == 0) = false := beq_eq_false_iff_ne.2 (by omega)
  have en' : (n == 0) = false := beq_eq_false_iff_ne.2 hn
  clear hn
  go_enter Try.func55, Try.ntmps55
  go_wp2
  go_ret
  exact ⟨rfl, Ln.below_alloc _ w (Nat.le_refl _) _⟩

theorem used_6y (clsn : Int) (A : Option Addr) (n cp : Nat) (w : World) :
    Calls Try.prog 55 #[.agg #[.int .i64 6, .int .i64 clsn, .slice A 0 cp]] w fun e w' => e = .returned (.bool true) ∧ Below w.heap.size w w' := by
  go_enter Try.func55, Try.ntmps55
  go_wp2
  go_ret
  exact ⟨rfl, Ln.below_alloc _ w (Nat.le_refl _) _⟩

theorem used_6n (clsn : Int) (A : Option Addr) (n cp : Nat) (w : World) (hn : n ≠ 0) :
    Calls Try.prog 55 #[.agg #[.int .i64 6, .int .i64 clsn, .slice A n cp]] w fun e w' => e = .returned (.bool false) ∧ Below w.heap.size w w' := by
  have en : ((n : Int) == 0) = false := beq_eq_false_iff_ne.2 (by omega)
  have en' : (n == 0) = false := beq_eq_false_iff_ne.2 hn
  clear hn
  go_enter Try.func55, Try.ntmps55
  go_wp2
  go_ret
  exact ⟨rfl, Ln.below_alloc _ w (Nat.le_refl _) _⟩

theorem used_X (ck clsn : Int) (A : Option Addr) (n cp : Nat) (w : World) (k1 : ck ≠ 1) (k2 : ck ≠ 2) (k3 : ck ≠ 3) (k4 : ck ≠ 4) (k5 : ck ≠ 5) (k6 : ck ≠ 6) (k7 : ck ≠ 7) :
    Calls Try.prog 55 #[.agg #[.int .i64 ck, .int .i64 clsn, .slice A n cp]] w fun e w' => e = .returned (.bool false) ∧ Below w.heap.size w w' := by
  have a1 : (ck == 1) = false := beq_eq_false_iff_ne.2 k1
  have a2 : (ck == 2) = false := beq_eq_false_iff_ne.2 k2
  have a3 : (ck == 3) = false := beq_eq_false_iff_ne.2 k3
  have a4 : (ck == 4) = false := beq_eq_false_iff_ne.2 k4
  have a5 : (ck == 5) = false := beq_eq_false_iff_ne.2 k5
  have a6 : (ck == 6) = false := beq_eq_false_iff_ne.2 k6
  have a7 : (ck == 7) = false := beq_eq_false_iff_ne.2 k7
  clear k1 k2 k3 k4 k5 k6 k7
  go_enter Try.func55, Try.ntmps55
  go_wp2
  go_ret
  exact ⟨rfl, Ln.below_alloc _ w (Nat.le_refl _) _⟩

theorem used_any (c : Ln.Call) (cd : Value) (w : World) (hc : Ln.Rd w cd (Ln.u8s c.data)) :
    Calls Try.prog 55 #[.agg #[.int .i64 c.kind, .int .i64 c.lsn, cd]] w fun e w' => e = .returned (.bool (Ln.usedF c)) ∧ Below w.heap.size w w' := by
  obtain ⟨A, cp, rfl⟩ := hc.slice
  have hl : (Ln.u8s c.data).length = c.data.length := by simp [Ln.u8s]
  rw [hl]
  obtain ⟨ck, clsn, d⟩ := c
  dsimp only
  clear hc hl
  by_cases k1 : ck = 1
  · subst k1
    by_cases h : clsn = 0
    · rw [show Ln.usedF ⟨1, clsn, d⟩ = true from by simp [Ln.usedF, h]]; exact used_1y clsn A _ cp w h
    · rw [show Ln.usedF ⟨1, clsn, d⟩ = false from by simp [Ln.usedF, h]]; exact used_1n clsn A _ cp w h
  by_cases k2 : ck = 2
  · subst k2
    by_cases h : clsn = 0
    · rw [show Ln.usedF ⟨2, clsn, d⟩ = true from by simp [Ln.usedF, h]]; exact used_2y clsn A _ cp w h
    · rw [show Ln.usedF ⟨2, clsn, d⟩ = false from by simp [Ln.usedF, h]]; exact used_2n clsn A _ cp w h
  by_cases k3 : ck = 3
  · subst k3
    by_cases h : clsn = 0
    · by_cases hn : d.length = 0
      · rw [show Ln.usedF ⟨3, clsn, d⟩ = true from by simp [Ln.usedF, h]; simpa using hn, hn]; exact used_3y clsn A 0 cp w h
      · rw [show Ln.usedF ⟨3, clsn, d⟩ = false from by simp [Ln.usedF, h]; simpa using hn]; exact used_3d clsn A _ cp w h hn
    · rw [show Ln.usedF ⟨3, clsn, d⟩ = false from by simp [Ln.usedF, h]]; exact used_3n clsn A _ cp w h
  by_cases k7 : ck = 7
  · subst k7
    by_cases h : clsn = 0
    · by_cases hn : d.length = 0
      · rw [show Ln.usedF ⟨7, clsn, d⟩ = true from by simp [Ln.usedF, h]; simpa using hn, hn]; exact used_7y clsn A 0 cp w h
      · rw [show Ln.usedF ⟨7, clsn, d⟩ = false from by simp [Ln.usedF, h]; simpa using hn]; exact used_7d clsn A _ cp w h hn
    · rw [show Ln.usedF ⟨7, clsn, d⟩ = false from by simp [Ln.usedF, h]]; exact used_7n clsn A _ cp w h
  by_cases k4 : ck = 4
  · subst k4
    by_cases hn : d.length = 0
    · rw [show Ln.usedF ⟨4, clsn, d⟩ = true from by simp [Ln.usedF]; simpa using hn, hn]; exact used_4y clsn A 0 cp w
    · rw [show Ln.usedF ⟨4, clsn, d⟩ = false from by simp [Ln.usedF]; simpa using hn]; exact used_4n clsn A _ cp w hn
  by_cases k5 : ck = 5
  · subst k5
    by_cases hn : d.length = 0
    · rw [show Ln.usedF ⟨5, clsn, d⟩ = true from by simp [Ln.usedF]; simpa using hn, hn]; exact used_5y clsn A 0 cp w
    · rw [show Ln.usedF ⟨5, clsn, d⟩ = false from by simp [Ln.usedF]; simpa using hn]; exact used_5n clsn A _ cp w hn
  by_cases k6 : ck = 6
  · subst k6
    by_cases hn : d.length = 0
    · rw [show Ln.usedF ⟨6, clsn, d⟩ = true from by simp [Ln.usedF]; simpa using hn, hn]; exact used_6y clsn A 0 cp w
    · rw [show Ln.usedF ⟨6, clsn, d⟩ = false from by simp [Ln.usedF]; simpa using hn]; exact used_6n clsn A _ cp w hn
  rw [show Ln.usedF ⟨ck, clsn, d⟩ = false from by simp [Ln.usedF, k1, k2, k3, k4, k5, k6, k7]]
  exact used_X ck clsn A _ cp w k1 k2 k3 k4 k5 k6 k7

end Go.Proofs.Ytgdeoodihhcdjaa
