/- The contract of ring.push. -/
import Derived.Test.YtgdeoodihhcdjaaQc
namespace Go.Proofs.Ytgdeoodihhcdjaa
open Go.RowKit
set_option linter.unusedVariables false
set_option linter.unusedSimpArgs false

theorem Qu.below_drewN (B : Nat) (w : World) (n : Nat) : Below B w (w.drewN n) := ⟨rfl, rfl, rfl, Nat.le_refl _, fun _ _ => rfl⟩
theorem Qu.new_at {W : World} {o : Obj} {k : Nat} (h : k = W.heap.size) : (W.alloc o).heap[k]? = some o := by subst h; exact heap_alloc_new W o
theorem Qu.mod_lt_int (k n m : Nat) (hm : 0 < m) : (0:Int) ≤ ((k:Int) + n) % m ∧ ((k:Int) + n) % m < m := ⟨Int.emod_nonneg _ (by omega), Int.emod_lt_of_pos _ (by omega)⟩

set_option maxRecDepth 100000 in
theorem push_room (sb rb m k n : Nat) (x y : Int) (w : World) (hm : m ≤ 4096) (hk : k < m) (hn : n < m)
    (h3 : w.cell? ⟨sb, 3, none⟩ = some (.slice (some ⟨rb, 0, none⟩) m m)) (h4 : w.cell? ⟨sb, 4, none⟩ = some (.int .i64 k)) (h5 : w.cell? ⟨sb, 5, none⟩ = some (.int .i64 n))
    (f5 : w.frozen? ⟨sb, 5, none⟩ = false) (u0 u1 : Value)
    (c0 : w.cell? ⟨rb, (k + n) % m * 2, none⟩ = some u0) (c1 : w.cell? ⟨rb, (k + n) % m * 2 + 1, none⟩ = some u1)
    (g0 : w.frozen? ⟨rb, (k + n) % m * 2, none⟩ = false) (g1 : w.frozen? ⟨rb, (k + n) % m * 2 + 1, none⟩ = false) (hne : sb ≠ rb) :
    Calls Try.prog 60 #[.pointer (some ⟨sb, 3, none⟩), .agg #[.int .i64 x, .int .i64 y]] w fun e w' => e = .returned (.tuple #[]) ∧
      ∃ q o, w' = ((((w.alloc o).drewN q).setCell ⟨rb, (k + n) % m * 2, none⟩ (.int .i64 x)).setCell ⟨rb, (k + n) % m * 2 + 1, none⟩ (.int .i64 y)).setCell ⟨sb, 5, none⟩ (.int .i64 (n + 1)) := by
  have hsb := World.block_lt_of_cell? w _ h3
  have hrb := World.block_lt_of_cell? w _ c0
  simp only at hsb hrb
  obtain ⟨hi0, hi1⟩ := Qu.mod_lt_int k n m (by omega)
  have hnm : ((n : Int) == m) = false := by simp; omega
  go_enter Try.func60, Try.ntmps60
  go_wp2
  go_quiet (fail)
  go_wp2
  go_region
  go_wp2
  go_end0
  exact ⟨rfl, _, _, rfl⟩

theorem Qu.zero38 : (Value.agg #[.int .i64 0, .int .i64 0]).cells = #[.int .i64 0, .int .i64 0] := rfl
theorem Qu.enc_oneCell (xs : List (Int × Int)) : ∀ v ∈ Qu.enc xs, v.oneCell' = true := by
  intro v hv
  simp only [Qu.enc, List.mem_flatMap] at hv
  obtain ⟨p, _, hv⟩ := hv
  simp at hv
  rcases hv with rfl | rfl <;> rfl
theorem Qu.ringIn_grown (xs : List (Int × Int)) (x y : Int) (rest : List Value) (n : Nat) (hn : xs.length = n) (hl : (Qu.enc xs ++ rest).length = (2 * n + 1) * 2) :
    Qu.ringIn (((Qu.enc xs ++ rest).toArray.setIfInBounds (n * 2) (.int .i64 x)).setIfInBounds (n * 2 + 1) (.int .i64 y)) (2 * n + 1) 0 (xs ++ [(x, y)]) := by
  intro j hj
  simp at hj
  have hm : (0 + j) % (2 * n + 1) = j := by rw [Nat.zero_add]; exact Nat.mod_eq_of_lt (by omega)
  rw [hm]
  by_cases hlt : j < n
  · obtain ⟨h0, h1⟩ := Qu.enc_get xs j (by omega)
    have l0 : j * 2 < (Qu.enc xs).length := by rw [Qu.enc_length]; omega
    have l1 : j * 2 + 1 < (Qu.enc xs).length := by rw [Qu.enc_length]; omega
    have e : (xs ++ [(x, y)]).getD j (0, 0) = xs.getD j (0, 0) := by simp [List.getD, List.getElem?_append_left (show j < xs.length by omega)]
    rw [e]
    constructor
    · rw [Array.getElem?_setIfInBounds_ne (by omega), Array.getElem?_setIfInBounds_ne (by omega), List.getElem?_toArray, List.getElem?_append_left l0]
      exact h0
    · rw [Array.getElem?_setIfInBounds_ne (by omega), Array.getElem?_setIfInBounds_ne (by omega), List.getElem?_toArray, List.getElem?_append_left l1]
      exact h1
  · have hjn : j = n := by omega
    subst hjn
    have e : (xs ++ [(x, y)]).getD j (0, 0) = (x, y) := by simp [List.getD, ← hn]
    rw [e]
    constructor
    · rw [Array.getElem?_setIfInBounds_ne (by omega), Array.getElem?_setIfInBounds_self_of_lt (by simp only [List.size_toArray, hl]; omega)]
    · rw [Array.getElem?_setIfInBounds_self_of_lt (by simp only [Array.size_setIfInBounds, List.size_toArray, hl]; omega)]

theorem Qu.heap_drew (w : World) : w.drew.heap = w.heap := rfl
/-- The five stores at the end of a push that grows. -/
def Qu.grown5 (w2 : World) (sb g n : Nat) (x y : Int) : World :=
  (((((w2.setCell ⟨sb, 3, none⟩ (.slice (some ⟨g, 0, none⟩) (2 * n + 1) (2 * n + 1))).setCell ⟨sb, 4, none⟩ (.int .i64 0)).setCell ⟨g, n * 2, none⟩ (.int .i64 x)).setCell ⟨g, n * 2 + 1, none⟩ (.int .i64 y)).setCell ⟨sb, 5, none⟩ (.int .i64 (n + 1))).drew
theorem Qu.grow_end (w w2 : World) (sb n g : Nat) (xs : List (Int × Int)) (x y : Int) (L K a0 a1 a2 a6 a7 N : Value) (rest : List Value) (hsb : sb < w.heap.size) (hg : w.heap.size ≤ g) (hne : g ≠ sb) (hfr : Qu.Fr (fun b => b = sb) w w2)
    (hb : w2.heap[sb]? = some (.cells #[a0, a1, a2, L, K, N, a6, a7] 81 (0, 0))) (h2 : w2.heap[g]? = some (.cells (Qu.enc xs ++ rest).toArray 38 (0, 0))) (hl : (Qu.enc xs ++ rest).length = (2 * n + 1) * 2) (hn : xs.length = n) :
    ∃ g' arr, w.heap.size ≤ g' ∧ (Qu.grown5 w2 sb g n x y).heap[sb]? =
        some (.cells #[a0, a1, a2, .slice (some ⟨g', 0, none⟩) (2 * xs.length + 1) (2 * xs.length + 1), .int .i64 0, .int .i64 (xs.length + 1), a6, a7] 81 (0, 0)) ∧
      (Qu.grown5 w2 sb g n x y).heap[g']? = some (.cells arr 38 (0, 0)) ∧
      arr.size = (2 * xs.length + 1) * 2 ∧ Qu.ringIn arr (2 * xs.length + 1) 0 (xs ++ [(x, y)]) ∧
      Qu.Fr (fun b => b = sb) w (Qu.grown5 w2 sb g n x y) := by
  subst hn
  have s1 := Qu.blk_set hb 3 (.slice (some ⟨g, 0, none⟩) (2 * xs.length + 1) (2 * xs.length + 1))
  have s2 := Qu.blk_set s1 4 (.int .i64 0)
  have s3 := Qu.blk_far s2 (p := ⟨g, xs.length * 2, none⟩) (fun e => hne e.symm) (.int .i64 x)
  have s4 := Qu.blk_far s3 (p := ⟨g, xs.length * 2 + 1, none⟩) (fun e => hne e.symm) (.int .i64 y)
  have s5 := Qu.blk_set s4 5 (.int .i64 (xs.length + 1))
  simp only [List.setIfInBounds_toArray, List.set_cons_succ, List.set_cons_zero] at s5
  have r1 := Qu.blk_far h2 (p := ⟨sb, 3, none⟩) hne (.slice (some ⟨g, 0, none⟩) (2 * xs.length + 1) (2 * xs.length + 1))
  have r2 := Qu.blk_far r1 (p := ⟨sb, 4, none⟩) hne (.int .i64 0)
  have r3 := Qu.blk_set r2 (xs.length * 2) (.int .i64 x)
  have r4 := Qu.blk_set r3 (xs.length * 2 + 1) (.int .i64 y)
  have r5 := Qu.blk_far r4 (p := ⟨sb, 5, none⟩) hne (.int .i64 (xs.length + 1))
  have fr := (((((hfr.setCell (p := ⟨sb, 3, none⟩) (fun _ => rfl) (.slice (some ⟨g, 0, none⟩) (2 * xs.length + 1) (2 * xs.length + 1))).setCell (p := ⟨sb, 4, none⟩) (fun _ => rfl) (.int .i64 0)).setCell (p := ⟨g, xs.length * 2, none⟩) (fun h => absurd h (by simp; omega)) (.int .i64 x)).setCell (p := ⟨g, xs.length * 2 + 1, none⟩) (fun h => absurd h (by simp; omega)) (.int .i64 y)).setCell (p := ⟨sb, 5, none⟩) (fun _ => rfl) (.int .i64 (xs.length + 1))).drew
  rw [← Qu.heap_drew] at s5 r5
  exact ⟨g, _, hg, s5, r5, by simp only [Array.size_setIfInBounds, List.size_toArray, hl], Qu.ringIn_grown xs x y rest xs.length rfl hl, fr⟩

set_option maxRecDepth 100000 in
theorem push_grow (sb rb k : Nat) (A : Option Addr) (xs : List (Int × Int)) (x y : Int) (a0 a1 a2 a6 a7 : Value) (w : World) (hx : xs.length ≤ 2000) (hA : 0 < xs.length → A = some ⟨rb, 0, none⟩ ∧ k < xs.length)
    (hblk : w.heap[sb]? = some (.cells #[a0, a1, a2, .slice A xs.length xs.length, .int .i64 k, .int .i64 xs.length, a6, a7] 81 (0, 0)))
    (hr : Qu.ringAt w rb xs.length k xs) :
    Calls Try.prog 60 #[.pointer (some ⟨sb, 3, none⟩), .agg #[.int .i64 x, .int .i64 y]] w fun e w' => e = .returned (.tuple #[]) ∧
      ∃ g arr, w.heap.size ≤ g ∧ w'.heap[sb]? = some (.cells #[a0, a1, a2, .slice (some ⟨g, 0, none⟩) (2 * xs.length + 1) (2 * xs.length + 1), .int .i64 0, .int .i64 (xs.length + 1), a6, a7] 81 (0, 0)) ∧
        w'.heap[g]? = some (.cells arr 38 (0, 0)) ∧ arr.size = (2 * xs.length + 1) * 2 ∧ Qu.ringIn arr (2 * xs.length + 1) 0 (xs ++ [(x, y)]) ∧ Qu.Fr (· = sb) w w' := by
  have hsb := Qu.blk_lt hblk
  have h3 := Qu.blk_cell hblk 3
  have h4 := Qu.blk_cell hblk 4
  have h5 := Qu.blk_cell hblk 5
  have f3 := Qu.blk_frozen hblk 3
  have f4 := Qu.blk_frozen hblk 4
  have f5 := Qu.blk_frozen hblk 5
  simp only [List.getElem?_toArray, List.getElem?_cons_succ, List.getElem?_cons_zero] at h3 h4 h5
  have HB := Lib.hid hblk
  have HR := Lib.hid hr
  have HA := Lib.hid hA
  clear hblk hr hA
  obtain ⟨n, hn⟩ : ∃ n, xs.length = n := ⟨_, rfl⟩
  simp only [hn] at h3 h4 h5 hx
  have HN := Lib.hid hn
  clear hn
  have hnm : ((n : Int) == n) = true := by simp
  have hbw : ∀ o1 o2 q, Below w.heap.size w (((w.alloc o1).drewN q).alloc o2) := fun o1 o2 q => ((((Below.refl _ _).alloc (Nat.le_refl _) _).trans (Qu.below_drewN _ _ q)).alloc (by simp) _)
  go_enter Try.func60, Try.ntmps60
  go_wp2
  go_quiet (fail)
  go_wp2_with (at_make; refine Qu.wpList_make _ rfl _ _ 31 rfl 38 _ 2 16 Try.underlying31 Try.info38 .i64 .i64 _ _ (2 * n + 1) rfl rfl (by omega) (by omega) (by omega) (by omega) ?_)
  have e1 : n = xs.length := HN.out.symm
  refine (ring_all sb 3 rb n k A xs _ (by omega) ?qa ?qb ?qc ?qd (by omega) ?qe).mono ?_
  case qa => intro h; obtain ⟨h1, h2⟩ := HA.out h; exact ⟨h1, by omega, by omega⟩
  case qb => exact ((hbw _ _ _).cell (p := ⟨sb, 3, none⟩) hsb).trans h3
  case qc => exact ((hbw _ _ _).cell (p := ⟨sb, 4, none⟩) hsb).trans h4
  case qd => rw [← e1]; exact ((hbw _ _ _).cell (p := ⟨sb, 5, none⟩) hsb).trans h5
  case qe =>
    intro j hj
    obtain ⟨q0, q1⟩ := HR.out j hj
    have b0 := World.block_lt_of_cell? w _ q0
    simp only at b0
    rw [← e1] at q0 q1
    exact ⟨((hbw _ _ _).cell (p := ⟨rb, _, none⟩) b0).trans q0, ((hbw _ _ _).cell (p := ⟨rb, _, none⟩) b0).trans q1⟩
  rintro e w1 ⟨v, rfl, hown, hb1⟩
  have hg1 : w1.heap[w.heap.size + 1]? = some (.cells (madeCells #[.int .i64 0, .int .i64 0] ((2 * n + 1) * 2)) 38 (0, 0)) := (hb1.block _ (by simp)).trans (Qu.new_at (by simp))
  have hbw1 : Below w.heap.size w w1 := (hbw _ _ _).trans (hb1.mono (by simp; omega))
  have hx1 := (hb1.block w.heap.size (by simp; omega)).trans ((Below.heap_alloc _ _ _ (by simp)).trans (show (World.drewN (w.alloc (Obj.cells #[.int .i64 x, .int .i64 y] 38)) nq).heap[w.heap.size]? = _ from heap_alloc_new w _))
  have hsz1 := hb1.size
  simp at hsz1
  have hsz0 := size_madeCells #[Value.int .i64 0, .int .i64 0] ((2 * n + 1) * 2)
  generalize madeCells #[Value.int .i64 0, .int .i64 0] ((2 * n + 1) * 2) = cur at hg1 hb1 hown hsz0
  have hcs : cur.size = (2 * n + 1) * 2 := hsz0
  have HX1 := Lib.hid hx1
  have HW1 := Lib.hid hbw1
  have HG1 := Lib.hid hg1
  have HO := Lib.hid hown
  clear hx1 hbw1 hg1 hb1 hown hbw e1 hsz0
  have HCS := Lib.hid hcs
  clear hcs
  go_wp2_with (refine Qu.wpList_copy (o := ⟨some 25, _, _, _, _, _⟩) _ rfl (.tmp 22) (.tmp 24) 31 31 rfl 38 Try.underlying31 _ 2 16 Try.info38 (w.heap.size + 1) (2 * n + 1) (2 * n + 1) rfl v rfl cur 38 HG1.out _ xs.length (Qu.enc xs) HO.out (by have := HN.out; omega) (by rw [Qu.enc_length, HCS.out]; have := HN.out; omega) (Qu.enc_oneCell xs) ?_)
  intro w2 hg2 hgr2
  have hsz2 := hgr2.size
  have hb2 := Qu.blk_grown (Qu.blk_below HB.out HW1.out) hgr2 (by simp; omega)
  have hx2 := Qu.blk_grown HX1.out hgr2 (by simp)
  rw [HN.out] at hb2
  have HG2 := Lib.hid hg2
  have HGR2 := Lib.hid hgr2
  have h3 := Qu.blk_cell hb2 3
  have h4 := Qu.blk_cell hb2 4
  have h5 := Qu.blk_cell hb2 5
  have f3 := Qu.blk_frozen hb2 3
  have f4 := Qu.blk_frozen hb2 4
  have f5 := Qu.blk_frozen hb2 5
  have x0 := Qu.blk_cell hx2 0
  have x1 := Qu.blk_cell hx2 1
  simp only [List.getElem?_toArray, List.getElem?_cons_succ, List.getElem?_cons_zero] at h3 h4 h5 x0 x1
  have hl : (Qu.enc xs ++ List.drop (Qu.enc xs).length cur.toList).length = (2 * n + 1) * 2 := by
    have := HCS.out
    have := HN.out
    simp [Qu.enc_length]; omega
  have c0 := Qu.blk_cell hg2 (n * 2)
  have c1 := Qu.blk_cell hg2 (n * 2 + 1)
  have g0 := Qu.blk_frozen hg2 (n * 2)
  have g1 := Qu.blk_frozen hg2 (n * 2 + 1)
  rw [Array.getElem?_eq_getElem (by simp only [List.size_toArray, hl]; omega)] at c0 c1
  generalize (Qu.enc xs ++ List.drop (Qu.enc xs).length cur.toList).toArray[n * 2]'_ = u0 at c0
  generalize (Qu.enc xs ++ List.drop (Qu.enc xs).length cur.toList).toArray[n * 2 + 1]'_ = u1 at c1
  have HL := Lib.hid hl
  have HB2 := Lib.hid hb2
  clear hb2 hx2 hg2 hgr2 hl
  have hmod : (n : Int) % (2 * n + 1) = n := Int.emod_eq_of_lt (by omega) (by omega)
  go_wp2
  go_region
  go_wp2
  go_end0
  refine ⟨rfl, ?_⟩
  have hfr : Qu.Fr (fun b => b = sb) w w2 := (Qu.Fr.of_below HW1.out).trans (Qu.Fr.of_grown (S := fun b => w.heap.size ≤ b) HGR2.out (fun k hk _ => by injection hk with hk; omega)) (fun i hi h => by omega)
  exact Qu.grow_end w w2 sb n (w.heap.size + 1) xs x y _ _ a0 a1 a2 a6 a7 _ _ hsb (by omega) (by omega) hfr HB2.out HG2.out HL.out HN.out
end Go.Proofs.Ytgdeoodihhcdjaa
