/- The contracts of push, hold, room over the queue's block. -/
import Derived.Test.YtgdeoodihhcdjaaQd
namespace Go.Proofs.Ytgdeoodihhcdjaa
open Go.RowKit
set_option linter.unusedVariables false
set_option linter.unusedSimpArgs false

/-- Behind a push: the block, the ring, what turned. -/
def Qu.Pushed (sb : Nat) (a0 a1 a2 a6 a7 : Value) (xs : List (Int × Int)) (R : Option Nat) (w w' : World) : Prop :=
  ∃ (L : Value) (k : Nat) (R' : Option Nat), w'.heap[sb]? = some (.cells #[a0, a1, a2, L, .int .i64 k, .int .i64 xs.length, a6, a7] 81 (0, 0)) ∧ Qu.Ring w' L k xs R' ∧
    Qu.Fr (fun b => b = sb ∨ R = some b) w w' ∧ (R' = R ∨ ∃ b, R' = some b ∧ w.heap.size ≤ b)

theorem Qu.Fr.drewN {S : Nat → Prop} {w w1 : World} (h : Qu.Fr S w w1) (n : Nat) : Qu.Fr S w (w1.drewN n) := ⟨h.os, h.tape, h.output, h.size, h.block⟩

theorem Qu.ringIn_room (arr : Array Value) (m k : Nat) (xs : List (Int × Int)) (x y : Int) (hm : 0 < m) (hn : xs.length < m) (hs : arr.size = m * 2) (hr : Qu.ringIn arr m k xs) :
    Qu.ringIn ((arr.setIfInBounds ((k + xs.length) % m * 2) (.int .i64 x)).setIfInBounds ((k + xs.length) % m * 2 + 1) (.int .i64 y)) m k (xs ++ [(x, y)]) := by
  intro j hj
  simp at hj
  have hp : (k + xs.length) % m < m := Nat.mod_lt _ hm
  by_cases hlt : j < xs.length
  · obtain ⟨h0, h1⟩ := hr j hlt
    have e : (xs ++ [(x, y)]).getD j (0, 0) = xs.getD j (0, 0) := by simp [List.getD, List.getElem?_append_left hlt]
    have hne : (k + j) % m ≠ (k + xs.length) % m := by
      intro h
      have h1 := Nat.mod_add_div (k + j) m
      have h2 := Nat.mod_add_div (k + xs.length) m
      rw [h] at h1
      have hd : m * ((k + xs.length) / m) = m * ((k + j) / m) + (xs.length - j) := by omega
      by_cases hq : (k + xs.length) / m = (k + j) / m
      · rw [hq] at hd; omega
      · have hgt : (k + j) / m + 1 ≤ (k + xs.length) / m := by
          have : (k + j) / m ≤ (k + xs.length) / m := Nat.div_le_div_right (by omega)
          omega
        have := Nat.mul_le_mul_left m hgt
        rw [Nat.mul_add] at this
        omega
    rw [e]
    constructor
    · rw [Array.getElem?_setIfInBounds_ne (by omega), Array.getElem?_setIfInBounds_ne (by omega)]
      exact h0
    · rw [Array.getElem?_setIfInBounds_ne (by omega), Array.getElem?_setIfInBounds_ne (by omega)]
      exact h1
  · have hjn : j = xs.length := by omega
    subst hjn
    have e : (xs ++ [(x, y)]).getD xs.length (0, 0) = (x, y) := by simp [List.getD]
    rw [e]
    constructor
    · rw [Array.getElem?_setIfInBounds_ne (by omega), Array.getElem?_setIfInBounds_self_of_lt (by omega)]
    · rw [Array.getElem?_setIfInBounds_self_of_lt (by simp only [Array.size_setIfInBounds]; omega)]

theorem Qu.get_lt {α : Type} {arr : Array α} {i : Nat} (h : i < arr.size) : ∃ u, arr[i]? = some u := ⟨arr[i], Array.getElem?_eq_getElem h⟩

theorem push_any (sb : Nat) (L : Value) (k : Nat) (xs : List (Int × Int)) (R : Option Nat) (x y : Int) (a0 a1 a2 a6 a7 : Value) (w : World) (hx : xs.length ≤ 2000)
    (hblk : w.heap[sb]? = some (.cells #[a0, a1, a2, L, .int .i64 k, .int .i64 xs.length, a6, a7] 81 (0, 0))) (hr : Qu.Ring w L k xs R) :
    Calls Try.prog 60 #[.pointer (some ⟨sb, 3, none⟩), .agg #[.int .i64 x, .int .i64 y]] w fun e w' => e = .returned (.tuple #[]) ∧ Qu.Pushed sb a0 a1 a2 a6 a7 (xs ++ [(x, y)]) R w w' := by
  have grow : ∀ (rb : Nat) (A : Option Addr), L = .slice A xs.length xs.length → (0 < xs.length → A = some ⟨rb, 0, none⟩ ∧ k < xs.length) → Qu.ringAt w rb xs.length k xs →
      Calls Try.prog 60 #[.pointer (some ⟨sb, 3, none⟩), .agg #[.int .i64 x, .int .i64 y]] w fun e w' => e = .returned (.tuple #[]) ∧ Qu.Pushed sb a0 a1 a2 a6 a7 (xs ++ [(x, y)]) R w w' := by
    rintro rb A rfl hA hra
    refine (push_grow sb rb k A xs x y a0 a1 a2 a6 a7 w hx hA hblk hra).mono ?_
    rintro e w' ⟨he, g, arr, hg, hb, hga, hs, hri, hfr⟩
    refine ⟨he, .slice (some ⟨g, 0, none⟩) (2 * xs.length + 1) (2 * xs.length + 1), 0, some g, ?_, .inr ⟨g, 2 * xs.length + 1, arr, rfl, rfl, by omega, by omega, by simp; omega, hga, hs, hri⟩, hfr.mono (fun b _ h => .inl h), .inr ⟨g, rfl, hg⟩⟩
    simpa using hb
  rcases hr with ⟨rfl, rfl, rfl, rfl⟩ | ⟨rb, m, arr, rfl, rfl, hm, hk, hn, hrb, hs, hri⟩
  · exact grow 0 none rfl (fun h => by simp at h) (fun j hj => by simp at hj)
  · by_cases hlt : xs.length < m
    · have hp : (k + xs.length) % m < m := Nat.mod_lt _ (by omega)
      obtain ⟨u0, hu0⟩ := Qu.get_lt (arr := arr) (i := (k + xs.length) % m * 2) (by omega)
      obtain ⟨u1, hu1⟩ := Qu.get_lt (arr := arr) (i := (k + xs.length) % m * 2 + 1) (by omega)
      have hne : sb ≠ rb := Qu.blk_ne hblk hrb (by decide)
      refine (push_room sb rb m k xs.length x y w hm hk hlt (Qu.blk_cell hblk 3) (Qu.blk_cell hblk 4) (Qu.blk_cell hblk 5) (Qu.blk_frozen hblk 5) u0 u1 ((Qu.blk_cell hrb _).trans hu0) ((Qu.blk_cell hrb _).trans hu1) (Qu.blk_frozen hrb _) (Qu.blk_frozen hrb _) hne).mono ?_
      rintro e w' ⟨he, q, o, rfl⟩
      have hsb := Qu.blk_lt hblk
      have hrl := Qu.blk_lt hrb
      have s0 : ((w.alloc o).drewN q).heap[sb]? = _ := Qu.blk_alloc hblk o
      have s1 := Qu.blk_far s0 (p := ⟨rb, (k + xs.length) % m * 2, none⟩) hne (.int .i64 x)
      have s2 := Qu.blk_far s1 (p := ⟨rb, (k + xs.length) % m * 2 + 1, none⟩) hne (.int .i64 y)
      have s3 := Qu.blk_set s2 5 (.int .i64 (xs.length + 1))
      simp only [List.setIfInBounds_toArray, List.set_cons_succ, List.set_cons_zero] at s3
      have r0 : ((w.alloc o).drewN q).heap[rb]? = _ := Qu.blk_alloc hrb o
      have r1 := Qu.blk_set r0 ((k + xs.length) % m * 2) (.int .i64 x)
      have r2 := Qu.blk_set r1 ((k + xs.length) % m * 2 + 1) (.int .i64 y)
      have r3 := Qu.blk_far r2 (p := ⟨sb, 5, none⟩) (fun e => hne e.symm) (.int .i64 (xs.length + 1))
      have fr := ((((((Qu.Fr.refl (fun b => b = sb ∨ some rb = some b) w).alloc o).drewN q).setCell (p := ⟨rb, (k + xs.length) % m * 2, none⟩) (fun _ => .inr rfl) (.int .i64 x)).setCell (p := ⟨rb, (k + xs.length) % m * 2 + 1, none⟩) (fun _ => .inr rfl) (.int .i64 y)).setCell (p := ⟨sb, 5, none⟩) (fun _ => .inl rfl) (.int .i64 (xs.length + 1)))
      refine ⟨he, .slice (some ⟨rb, 0, none⟩) m m, k, some rb, by simpa using s3, .inr ⟨rb, m, _, rfl, rfl, hm, hk, by simp; omega, r3, by simp only [Array.size_setIfInBounds]; exact hs, Qu.ringIn_room arr m k xs x y (by omega) hlt hs hri⟩, fr, .inl rfl⟩
    · have he : m = xs.length := by omega
      subst he
      exact grow rb (some ⟨rb, 0, none⟩) rfl (fun _ => ⟨rfl, hk⟩) (Qu.ringAt_of hrb hri)
end Go.Proofs.Ytgdeoodihhcdjaa
