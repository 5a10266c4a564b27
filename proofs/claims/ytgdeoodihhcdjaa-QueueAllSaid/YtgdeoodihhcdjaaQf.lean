/- The contracts of hold, room. -/
import Derived.Test.YtgdeoodihhcdjaaQe
import Derived.Deep.RegionWith
namespace Go.Proofs.Ytgdeoodihhcdjaa
open Go.RowKit
set_option linter.unusedVariables false
set_option linter.unusedSimpArgs false

theorem Qu.below_drewN' {B : Nat} {w w1 : World} (h : Below B w w1) (n : Nat) : Below B w (w1.drewN n) := ⟨h.os, h.tape, h.output, h.size, h.block⟩
theorem Qu.Ring.ne {w : World} {L : Value} {k : Nat} {xs : List (Int × Int)} {R : Option Nat} (h : Qu.Ring w L k xs R) {sb : Nat} {cs : Array Value} (hb : w.heap[sb]? = some (.cells cs 81 (0, 0))) (b : Nat) (hR : R = some b) : b ≠ sb := by
  rcases h with ⟨_, _, _, rfl⟩ | ⟨rb, m, arr, rfl, _, _, _, _, h5, _⟩
  · cases hR
  · injection hR with hR
    subst hR
    exact Qu.blk_ne h5 hb (by decide)
set_option maxRecDepth 100000 in
theorem hold_any (sb : Nat) (L : Value) (k : Nat) (xs : List (Int × Int)) (R : Option Nat) (x y u : Int) (a0 a1 a6 a7 : Value) (w : World) (hx : xs.length ≤ 2000)
    (hblk : w.heap[sb]? = some (.cells #[a0, a1, .int .i64 u, L, .int .i64 k, .int .i64 xs.length, a6, a7] 81 (0, 0))) (hr : Qu.Ring w L k xs R) (hu : 0 ≤ u ∧ u ≤ 17000000) (hy : 0 ≤ y ∧ y ≤ 17000000) :
    Calls Try.prog 34 #[.pointer (some ⟨sb, 0, none⟩), .agg #[.int .i64 x, .int .i64 y]] w fun e w' => e = .returned (.tuple #[]) ∧ Qu.Pushed sb a0 a1 (.int .i64 (u + y)) a6 a7 (xs ++ [(x, y)]) R w w' := by
  have HB := Lib.hid hblk
  have HR := Lib.hid hr
  have hsb := Qu.blk_lt hblk
  clear hblk hr
  go_enter Try.func34, Try.ntmps34
  go_wp2
  go_region_with (go_at_call 60; refine (push_any sb L k xs R x y a0 a1 (.int .i64 u) a6 a7 (w.alloc (Obj.cells #[Value.int IntKind.i64 x, Value.int IntKind.i64 y] 38)).drew hx (Qu.blk_alloc HB.out _) (HR.out.keep fun b hb => Below.heap_alloc _ _ _ (Qu.Ring.lt HR.out b hb))).mono ?_; rintro e w1 ⟨rfl, hp⟩)
  obtain ⟨L', k', R', hb1, hr1, hf1, hR'⟩ := hp
  have hsz := hf1.size
  have hx0 : (w.alloc (Obj.cells #[Value.int IntKind.i64 x, Value.int IntKind.i64 y] 38)).drew.heap[w.heap.size]? = some (Obj.cells #[Value.int IntKind.i64 x, Value.int IntKind.i64 y] 38) := heap_alloc_new w _
  have hx1 := Qu.blk_fr hx0 hf1 (by
    rintro (h | h)
    · omega
    · have := Qu.Ring.lt HR.out _ h; omega)
  have h2 := Qu.blk_cell hb1 2
  have f2 := Qu.blk_frozen hb1 2
  have x1 := Qu.blk_cell hx1 1
  simp only [List.getElem?_toArray, List.getElem?_cons_succ, List.getElem?_cons_zero] at h2 x1
  have hlt1 := Qu.blk_lt hb1
  have hlt2 := Qu.blk_lt hx1
  have HB1 := Lib.hid hb1
  have HR1 := Lib.hid hr1
  have HF1 := Lib.hid hf1
  have HR' := Lib.hid hR'
  clear hb1 hx1 hr1 hf1 hR' hsz hx0
  go_wp2
  go_region
  go_wp2
  go_end0
  refine ⟨rfl, L', k', R', ?_, ?_, ?_, ?_⟩
  · rw [Qu.heap_drew]
    have := Qu.blk_set HB1.out 2 (.int .i64 (u + y))
    simpa only [List.setIfInBounds_toArray, List.set_cons_succ, List.set_cons_zero] using this
  · exact HR1.out.keep (fun b hb => by rw [Qu.heap_drew]; exact Below.heap_setCell _ _ _ _ (Qu.Ring.ne HR1.out HB1.out b hb))
  · exact ((((Qu.Fr.refl (fun b => b = sb ∨ R = some b) w).alloc _).drew.trans HF1.out (fun _ _ h => h)).setCell (p := ⟨sb, 2, none⟩) (fun _ => .inl rfl) _).drew
  · rcases HR'.out with h | ⟨b, h, hb⟩
    · exact .inl h
    · exact .inr ⟨b, h, by have : w.heap.size ≤ _ := ((Qu.Fr.refl (fun _ => False) w).alloc (Obj.cells #[Value.int IntKind.i64 x, Value.int IntKind.i64 y] 38)).drew.size; omega⟩

def Qu.roomB (n c : Nat) (y b u : Int) : Bool := decide (n < c) && decide (y ≤ b - u)
set_option maxRecDepth 100000 in
theorem room_any (sb n c : Nat) (x y b u : Int) (w : World) (hy : 0 ≤ y ∧ y ≤ 17000000) (hb : 0 ≤ b ∧ b ≤ 17000000) (hu : 0 ≤ u ∧ u ≤ 17000000)
    (h0 : w.cell? ⟨sb, 0, none⟩ = some (.int .i64 c)) (h1 : w.cell? ⟨sb, 1, none⟩ = some (.int .i64 b)) (h2 : w.cell? ⟨sb, 2, none⟩ = some (.int .i64 u)) (h5 : w.cell? ⟨sb, 5, none⟩ = some (.int .i64 n)) :
    Calls Try.prog 33 #[.pointer (some ⟨sb, 0, none⟩), .agg #[.int .i64 x, .int .i64 y]] w fun e w' => e = .returned (.bool (Qu.roomB n c y b u)) ∧ Below w.heap.size w w' := by
  have hsb := World.block_lt_of_cell? w _ h0
  simp only at hsb
  by_cases hn : n < c
  · by_cases hle : y ≤ b - u
    · have e : Qu.roomB n c y b u = true := by simp [Qu.roomB, hn, hle]
      rw [e]
      have hd : decide (n < c) = true := by simpa using hn
      go_enter Try.func33, Try.ntmps33
      go_wp2
      go_quiet (fail)
      go_wp2
      go_ret
      exact ⟨rfl, Qu.below_drewN' ((Below.refl _ _).alloc (Nat.le_refl _) _) _⟩
    · have e : Qu.roomB n c y b u = false := by simp [Qu.roomB, hn, hle]
      rw [e]
      have hd : decide (n < c) = true := by simpa using hn
      have hd2 : decide (y ≤ b - u) = false := by simpa using hle
      go_enter Try.func33, Try.ntmps33
      go_wp2
      go_quiet (fail)
      go_wp2
      go_ret
      exact ⟨rfl, Qu.below_drewN' ((Below.refl _ _).alloc (Nat.le_refl _) _) _⟩
  · have e : Qu.roomB n c y b u = false := by simp [Qu.roomB, hn]
    rw [e]
    have hd : decide (n < c) = false := by simpa using hn
    go_enter Try.func33, Try.ntmps33
    go_wp2
    go_quiet (fail)
    go_wp2
    go_ret
    exact ⟨rfl, Qu.below_drewN' ((Below.refl _ _).alloc (Nat.le_refl _) _) _⟩
end Go.Proofs.Ytgdeoodihhcdjaa
