/- The contract of pop. -/
import Derived.Test.YtgdeoodihhcdjaaQg
namespace Go.Proofs.Ytgdeoodihhcdjaa
open Go.RowKit
set_option linter.unusedVariables false
set_option linter.unusedSimpArgs false

theorem Qu.ringIn_pop (arr : Array Value) (m k : Nat) (p : Int × Int) (xs : List (Int × Int)) (hm : 0 < m) (hr : Qu.ringIn arr m k (p :: xs)) : Qu.ringIn arr m ((k + 1) % m) xs := by
  intro j hj
  have := hr (j + 1) (by simpa using hj)
  have e : ((k + 1) % m + j) % m = (k + (j + 1)) % m := by rw [Nat.mod_add_mod]; congr 1; omega
  rw [e]
  simpa using this

set_option maxRecDepth 100000 in
theorem pop_any (sb : Nat) (L : Value) (k : Nat) (px py : Int) (xs : List (Int × Int)) (R : Option Nat) (a0 a1 a2 a6 a7 : Value) (w : World) (hx : xs.length ≤ 2000)
    (hblk : w.heap[sb]? = some (.cells #[a0, a1, a2, L, .int .i64 k, .int .i64 (xs.length + 1), a6, a7] 81 (0, 0))) (hr : Qu.Ring w L k ((px, py) :: xs) R) :
    Calls Try.prog 36 #[.pointer (some ⟨sb, 3, none⟩)] w fun e w' => e = .returned (.agg #[.int .i64 px, .int .i64 py]) ∧
      ∃ k' : Nat, w'.heap[sb]? = some (.cells #[a0, a1, a2, L, .int .i64 k', .int .i64 xs.length, a6, a7] 81 (0, 0)) ∧ Qu.Ring w' L k' xs R ∧ Qu.Fr (fun i => i = sb) w w' := by
  rcases hr with ⟨_, _, h, _⟩ | ⟨rb, m, arr, rfl, rfl, hm, hk, hn, hrb, hs, hri⟩
  · cases h
  have hsb := Qu.blk_lt hblk
  have hrl := Qu.blk_lt hrb
  have hne : rb ≠ sb := Qu.blk_ne hrb hblk (by decide)
  obtain ⟨q0, q1⟩ := hri 0 (by simp)
  simp only [Nat.add_zero, List.getD_cons_zero] at q0 q1
  rw [Nat.mod_eq_of_lt hk] at q0 q1
  have hat : ∀ o, Calls Try.prog 35 #[.pointer (some ⟨sb, 3, none⟩), .int .i64 0] (w.alloc o) fun e w' => e = .returned (.agg #[.int .i64 px, .int .i64 py]) ∧ Below (w.alloc o).heap.size (w.alloc o) w' := fun o =>
    ring_at sb 3 rb m k 0 px py (w.alloc o) hm hk (by omega) ((Qu.blk_cell (Qu.blk_alloc hblk o) 3).trans rfl) ((Qu.blk_cell (Qu.blk_alloc hblk o) 4).trans rfl)
      (by rw [Qu.blk_cell (Qu.blk_alloc hrb o)]; simpa [Nat.mod_eq_of_lt hk] using q0) (by rw [Qu.blk_cell (Qu.blk_alloc hrb o)]; simpa [Nat.mod_eq_of_lt hk] using q1)
  have hm0 : ((m : Int) == 0) = false := by simp; omega
  have HB := Lib.hid hblk
  have HRB := Lib.hid hrb
  have HRI := Lib.hid hri
  have HAT := Lib.hid hat
  clear hblk hrb hri q0 q1 hat
  go_enter Try.func36, Try.ntmps36
  go_wp2_with (go_at_call 35; refine (HAT.out _).mono ?_; rintro e w1 ⟨rfl, hb1⟩)
  have hb1' : w1.heap[sb]? = _ := (hb1.block sb (by simp; omega)).trans (Qu.blk_alloc HB.out _)
  have hrb1 : w1.heap[rb]? = _ := (hb1.block rb (by simp; omega)).trans (Qu.blk_alloc HRB.out _)
  have hres1 : w1.heap[w.heap.size]? = some (.cells #[.int .i64 0, .int .i64 0] 38 (0, 0)) := (hb1.block w.heap.size (by simp)).trans (heap_alloc_new w _)
  have hfr1 : Qu.Fr (fun i => i = sb) w w1 := ((Qu.Fr.refl _ w).alloc _).trans (Qu.Fr.of_below (S := fun i => i = sb) hb1) (fun _ _ h => h)
  obtain ⟨c0, c1, c2, c3, c4, c5, c6, c7⟩ := Qu.cells8 hb1'
  have f4 := Qu.blk_frozen hb1' 4
  have f5 := Qu.blk_frozen hb1' 5
  have z0 := Qu.blk_cell hres1 0
  have z1 := Qu.blk_cell hres1 1
  have y0 := Qu.blk_frozen hres1 0
  have y1 := Qu.blk_frozen hres1 1
  simp only [List.getElem?_toArray, List.getElem?_cons_succ, List.getElem?_cons_zero] at z0 z1
  have hsb1 := Qu.blk_lt hb1'
  have hrs1 := Qu.blk_lt hres1
  have HB1 := Lib.hid hb1'
  have HRB1 := Lib.hid hrb1
  have HFR1 := Lib.hid hfr1
  have HRES := Lib.hid hres1
  clear hb1' hrb1 hfr1 hres1 hb1 c0 c1 c2 c6 c7
  go_wp2
  go_region
  go_wp2
  refine bodyPost_ret (v := .agg #[.int .i64 px, .int .i64 py]) ?_ rfl ⟨rfl, ?_⟩
  · simp [results, Try.results36, go_sem, z0, z1, hrs1]
  · refine ⟨(k + 1) % m, ?_, ?_, ?_⟩
    · rw [Qu.heap_drew]
      have s1 := Qu.blk_set HB1.out 4 (.int .i64 (((k : Int) + 1) % m))
      have s2 := Qu.blk_set s1 5 (.int .i64 xs.length)
      have s3 := Qu.blk_far s2 (p := ⟨w.heap.size, 0, none⟩) (by simp; omega) (.int .i64 px)
      have s4 := Qu.blk_far s3 (p := ⟨w.heap.size, 1, none⟩) (by simp; omega) (.int .i64 py)
      have s5 := Qu.blk_alloc s4 (Obj.cells #[Value.int IntKind.i64 px, Value.int IntKind.i64 py] 38)
      simpa only [List.setIfInBounds_toArray, List.set_cons_succ, List.set_cons_zero, Int.natCast_emod, Int.natCast_add, Int.natCast_one] using s5
    · have s1 := Qu.blk_far HRB1.out (p := ⟨sb, 4, none⟩) hne (.int .i64 (((k : Int) + 1) % m))
      have s2 := Qu.blk_far s1 (p := ⟨sb, 5, none⟩) hne (.int .i64 xs.length)
      have s3 := Qu.blk_far s2 (p := ⟨w.heap.size, 0, none⟩) (by simp; omega) (.int .i64 px)
      have s4 := Qu.blk_far s3 (p := ⟨w.heap.size, 1, none⟩) (by simp; omega) (.int .i64 py)
      have s5 := Qu.blk_alloc s4 (Obj.cells #[Value.int IntKind.i64 px, Value.int IntKind.i64 py] 38)
      rw [← Qu.heap_drew] at s5
      exact .inr ⟨rb, m, arr, rfl, rfl, hm, Nat.mod_lt _ (by omega), by simp at hn; omega, s5, hs, Qu.ringIn_pop arr m k (px, py) xs (by omega) HRI.out⟩
    · exact (((((HFR1.out.setCell (p := ⟨sb, 4, none⟩) (fun _ => rfl) _).setCell (p := ⟨sb, 5, none⟩) (fun _ => rfl) _).setCell (p := ⟨w.heap.size, 0, none⟩) (fun h => absurd h (by simp)) _).setCell (p := ⟨w.heap.size, 1, none⟩) (fun h => absurd h (by simp)) _).alloc _).drew
end Go.Proofs.Ytgdeoodihhcdjaa
