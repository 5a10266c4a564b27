/- The reference's room and come. -/
import Derived.Test.YtgdeoodihhcdjaaRa
namespace Go.Proofs.Ytgdeoodihhcdjaa
open Go.RowKit
set_option linter.unusedVariables false
set_option linter.unusedSimpArgs false

theorem Qu.Line.drewN {w : World} {V : Value} {ys : List (Int × Int)} {LB : Option Nat} (h : Qu.Line w V ys LB) (n : Nat) : Qu.Line (w.drewN n) V ys LB := h
theorem sum_q (V : Value) (ys : List (Int × Int)) (LB : Option Nat) (w : World) (h : Qu.Line w V ys LB) (hs : ∀ p ∈ ys, 0 ≤ p.2) (hb : Qu.sum ys ≤ 17000000) (hn : ys.length ≤ 100000) (n : Nat) :
    Calls Try.prog 41 #[V] (w.drewN n) fun e w' => e = .returned (.int .i64 (Qu.sum ys)) ∧ w' = w.drewN n :=
  (sum_any V ys LB (w.drewN n) (h.drewN n) hs hb hn).mono fun _ _ h => ⟨h.1, h.2.symm⟩

set_option maxRecDepth 100000 in
theorem rroom_any (rb c : Nat) (b y : Int) (xs ys : List (Int × Int)) (B1 B2 : Option Nat) (w : World) (hat : Qu.RAt w rb c b xs ys B1 B2) (hs : ∀ p ∈ xs, 0 ≤ p.2) (hb : Qu.sum xs ≤ b) (hb0 : 0 ≤ b ∧ b ≤ 17000000) (hn : xs.length ≤ 2000) (hy : 0 ≤ y ∧ y ≤ 17000000) :
    Calls Try.prog 40 #[.pointer (some ⟨rb, 0, none⟩), .int .i64 y] w fun e w' => e = .returned (.bool (Qu.roomB xs.length c y b (Qu.sum xs))) ∧ ∃ n, w' = w.drewN n := by
  obtain ⟨V1, V2, hblk, hl1, hl2, hne⟩ := hat
  have c0 := Qu.blk_cell hblk 0
  have c1 := Qu.blk_cell hblk 1
  have c2 := Qu.blk_cell hblk 2
  simp only [List.getElem?_toArray, List.getElem?_cons_succ, List.getElem?_cons_zero] at c0 c1 c2
  have hs0 := Qu.sum_nonneg xs hs
  have HSUM := Lib.hid (sum_q V1 xs B1 w hl1 hs (by omega) (by omega))
  obtain ⟨A, cp, rfl⟩ := hl1.slice
  clear hblk hl1 hl2 hne hs
  by_cases hnc : xs.length < c
  · have hd : decide (xs.length < c) = true := by simpa using hnc
    by_cases hle : Qu.sum xs + y ≤ b
    · have e : Qu.roomB xs.length c y b (Qu.sum xs) = true := by simp [Qu.roomB, hnc]; omega
      rw [e]
      clear e
      go_enter Try.func40, Try.ntmps40
      go_wp2
      go_quiet ((go_at_call 41; exact Calls.quiet_of_same (HSUM.out _)))
      go_wp2
      go_ret
      exact ⟨rfl, _, rfl⟩
    · have e : Qu.roomB xs.length c y b (Qu.sum xs) = false := by simp [Qu.roomB, hnc]; omega
      rw [e]
      clear e
      have hd2 : decide (Qu.sum xs + y ≤ b) = false := by simpa using hle
      go_enter Try.func40, Try.ntmps40
      go_wp2
      go_quiet ((go_at_call 41; exact Calls.quiet_of_same (HSUM.out _)))
      go_wp2
      go_ret
      exact ⟨rfl, _, rfl⟩
  · have e : Qu.roomB xs.length c y b (Qu.sum xs) = false := by simp [Qu.roomB, hnc]
    rw [e]
    clear e
    have hd : decide (xs.length < c) = false := by simpa using hnc
    go_enter Try.func40, Try.ntmps40
    go_wp2
    go_quiet (fail)
    go_wp2
    go_ret
    exact ⟨rfl, _, rfl⟩

theorem Qu.Line.tail {w : World} {lb off cap : Nat} {p : Int × Int} {ys : List (Int × Int)} {LB : Option Nat} (h : Qu.Line w (.slice (some ⟨lb, off, none⟩) (ys.length + 1) cap) (p :: ys) LB) :
    (cap = 1 → Qu.Line w (.slice (some ⟨lb, off, none⟩) 0 0) ys LB) ∧ (1 < cap → Qu.Line w (.slice (some ⟨lb, off + 2, none⟩) ys.length (cap - 1)) ys LB) := by
  rcases h with ⟨h, _, _⟩ | ⟨lb', off', cap', arr, hl, h, i2, i3, i4, i5, i6⟩
  · cases h
  · simp at h
    obtain ⟨⟨rfl, rfl⟩, rfl⟩ := h
    simp at i2
    constructor
    · rintro rfl
      have : ys = [] := List.eq_nil_of_length_eq_zero (by omega)
      subst this
      exact .inr ⟨lb, off, 0, arr, hl, rfl, Nat.le_refl _, by omega, i4, by omega, fun j hj => by simp at hj⟩
    · intro h1
      refine .inr ⟨lb, off + 2, cap - 1, arr, hl, rfl, by omega, by omega, i4, by omega, fun j hj => ?_⟩
      obtain ⟨g0, g1⟩ := i6 (j + 1) (by simpa using hj)
      rw [show off + 2 + j * 2 = off + (j + 1) * 2 from by omega]
      exact ⟨by simpa using g0, by simpa using g1⟩
theorem Qu.Line.of_own0 {w : World} {base n : Nat} {v : Value} {ys : List (Int × Int)} (h : w.ownsRow base 38 2 v n (Qu.enc ys)) : ∃ LB, Qu.Line w v ys LB ∧ ∀ i, LB = some i → base ≤ i := by
  have hyl : ys.length = n := by have := h.1; rw [Qu.enc_length] at this; omega
  rcases Nat.eq_zero_or_pos n with h0 | h0
  · subst h0
    have : ys = [] := List.eq_nil_of_length_eq_zero hyl
    subst this
    rcases h.2 with ⟨rfl, _⟩ | ⟨g, cap, cur, rfl, hb, hg, hnc, hcm, hs, ht⟩
    · exact ⟨none, .inl ⟨rfl, rfl, rfl⟩, fun i h => by cases h⟩
    · exact ⟨some g, .inr ⟨g, 0, cap, cur, rfl, rfl, Nat.zero_le _, hcm, hg, by omega, fun j hj => by simp at hj⟩, fun i hi => by injection hi with hi; omega⟩
  · obtain ⟨g, hg, hl⟩ := Qu.Line.of_own h h0
    exact ⟨some g, hl, fun i hi => by injection hi with hi; omega⟩
end Go.Proofs.Ytgdeoodihhcdjaa
