/- Bounds on the search. -/
import Derived.Test.YtgdeoodihhcdjaaLc
namespace Go.Proofs.Ytgdeoodihhcdjaa
set_option linter.unusedVariables false
set_option linter.unusedSimpArgs false


/-- How many keys a search of so much depth tries at most. -/
def Ln.Tn : Nat → Nat
  | 0 => 0
  | f + 1 => 1 + 12 * Ln.Tn f
theorem Ln.loop_tried (g : Nat → Ln.St → Bool × Ln.St) (T : Nat) (h : ∀ i st, (g i st).2.tried.length ≤ st.tried.length + T) : ∀ (l : List Nat) (st : Ln.St), (Ln.loopF g l st).2.tried.length ≤ st.tried.length + l.length * T
  | [], st => by simp [Ln.loopF]
  | i :: is, st => by
    have h1 := h i st
    have h2 := Ln.loop_tried g T h is (g i st).2
    have e : (is.length + 1) * T = is.length * T + T := Nat.succ_mul _ _
    unfold Ln.loopF
    split
    · simp only [List.length_cons]; omega
    · simp only [List.length_cons]; omega
theorem Ln.finds_tried (ps : List Ln.Past) (hn : ps.length ≤ 12) : ∀ (f : Nat) (m : Ln.Mod) (k : Ln.Key) (st : Ln.St), (Ln.findsF ps f m k st).2.tried.length ≤ st.tried.length + Ln.Tn f
  | 0, m, k, st => by simp [Ln.findsF, Ln.Tn]
  | f + 1, m, k, st => by
    unfold Ln.findsF Ln.Tn
    split
    · simp
    · split
      · simp
      · refine Nat.le_trans (Ln.loop_tried _ (Ln.Tn f) (fun i st => ?_) _ _) ?_
        · split
          · simp
          · split
            · exact Ln.finds_tried ps hn f _ _ _
            · exact Ln.finds_tried ps hn f _ _ _
        · have : ps.length * Ln.Tn f ≤ 12 * Ln.Tn f := Nat.mul_le_mul_right _ hn
          simp only [List.length_cons, List.length_range]
          omega
theorem Ln.loop_order (g : Nat → Ln.St → Bool × Ln.St) (h : ∀ i st, (g i st).1 = false → (g i st).2.order = st.order) : ∀ (l : List Nat) (st : Ln.St), (Ln.loopF g l st).1 = false → (Ln.loopF g l st).2.order = st.order
  | [], st, _ => rfl
  | i :: is, st, hf => by
    unfold Ln.loopF at hf ⊢
    split
    · rename_i h1
      rw [if_pos h1] at hf
      cases hf
    · rename_i h1
      rw [if_neg h1] at hf
      rw [Ln.loop_order g h is _ hf]
      exact h i st (by simpa using h1)
theorem Ln.finds_order (ps : List Ln.Past) : ∀ (f : Nat) (m : Ln.Mod) (k : Ln.Key) (st : Ln.St), (Ln.findsF ps f m k st).1 = false → (Ln.findsF ps f m k st).2.order = st.order
  | 0, m, k, st, _ => rfl
  | f + 1, m, k, st, hf => by
    unfold Ln.findsF at hf ⊢
    split
    · rfl
    · rename_i h1
      rw [if_neg h1] at hf
      split
      · rfl
      · rename_i h2
        rw [if_neg h2] at hf
        refine (Ln.loop_order _ (fun i st h => ?_) _ _ hf).trans rfl
        split at h
        · rfl
        · split at h
          · cases h
          · rename_i h3
            rw [if_neg h3]
            simp only
            rw [Ln.finds_order ps f _ _ _ (by simpa using h3)]
            simp
theorem Ln.walk_tried (g : Nat → Ln.St → Ln.St) (T : Nat) (h : ∀ i st, (g i st).tried.length ≤ st.tried.length + T) : ∀ (l : List Nat) (st : Ln.St), (Ln.walkF g l st).tried.length ≤ st.tried.length + l.length * T
  | [], st => by simp [Ln.walkF]
  | i :: is, st => by
    have h1 := h i st
    have h2 := Ln.walk_tried g T h is (g i st)
    have e : (is.length + 1) * T = is.length * T + T := Nat.succ_mul _ _
    unfold Ln.walkF
    simp only [List.length_cons]
    omega
theorem Ln.goes_tried (ps : List Ln.Past) (hn : ps.length ≤ 12) : ∀ (f : Nat) (m : Ln.Mod) (k : Ln.Key) (n : Int) (st : Ln.St), (Ln.goesF ps f m k n st).tried.length ≤ st.tried.length + Ln.Tn f
  | 0, m, k, n, st => by simp [Ln.goesF, Ln.Tn]
  | f + 1, m, k, n, st => by
    unfold Ln.goesF Ln.Tn
    split
    · simp
    · refine Nat.le_trans (Ln.walk_tried _ (Ln.Tn f) (fun i st => ?_) _ _) ?_
      · split
        · simp
        · exact Ln.goes_tried ps hn f _ _ _ _
      · have : ps.length * Ln.Tn f ≤ 12 * Ln.Tn f := Nat.mul_le_mul_right _ hn
        simp only [List.length_cons, List.length_range]
        omega
theorem Ln.Tn13 : Ln.Tn 13 ≤ 10000000000000 := by decide

end Go.Proofs.Ytgdeoodihhcdjaa
