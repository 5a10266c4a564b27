/- begun of flumelaw19. -/
import Derived.Test.YtgdeoodihhcdjaaQm
namespace Go.Proofs.Ytgdeoodihhcdjaa
open Go.RowKit
set_option linter.unusedVariables false
set_option linter.unusedSimpArgs false

theorem Qu.ok0 : Qu.Ok 2 100 [] [] := ⟨by omega, by omega, by omega, by omega, by simp, by simp, by decide, by simp, by simp, by simp, by simp⟩
theorem Qu.b1 : Qu.putF 2 100 [] [] 1 60 = (true, 0, [(1, 60)], []) := by decide
theorem Qu.b2 : Qu.putF 2 100 [(1, 60)] [] 2 50 = (false, 0, [(1, 60)], [(2, 50)]) := by decide
theorem Qu.b3 : Qu.putF 2 100 [(1, 60)] [(2, 50)] 2 1 = (false, 7, [(1, 60)], [(2, 50)]) := by decide
theorem Qu.b4 : Qu.takeF 5 10 [] 0 [(1, 60)] = ([(1, 60)], []) := by decide
theorem Qu.b5 : Qu.enterF 2 100 [] [(2, 50)] 0 = ([(2, 50)], [], 50, [2]) := by decide
theorem Qu.below_fr {F : Nat → Prop} {B : Nat} {w0 w w' : World} (h : Below B w0 w) (hf : Qu.Fr F w w') (hF : ∀ i, F i → B ≤ i) (hB : B ≤ w.heap.size) : Below B w0 w' := h.trans (hf.below hB hF)

set_option maxRecDepth 100000 in
theorem begun19 (w : World) : Calls Try.prog 8 #[] w fun e w' => e = .returned (.bool true) ∧ Below w.heap.size w w' := by
  have hnew : Calls Try.prog 9 #[.int .i64 2, .int .i64 100] w fun e w' => ∃ sb mb, e = .returned (.tuple #[.pointer (some ⟨sb, 0, none⟩), .int .i64 0]) ∧
    Qu.Q (fun i => w.heap.size ≤ i) w' sb mb 2 100 [] [] ∧ Below w.heap.size w w' := new_Q 2 100 w (by omega) (by omega) (by omega) (by omega)
  have HNEW := Lib.hid hnew
  clear hnew
  go_enter Try.func8, Try.ntmps8
  go_wp2_with fail
  refine HNEW.out.mono ?_
  rintro e w1 ⟨sb, mb, rfl, hq1, hb1⟩
  have HQ1 := Lib.hid hq1
  have HB1 := Lib.hid hb1
  clear hq1 hb1
  go_wp2_with fail
  refine (put_Q _ sb mb 2 100 [] [] 1 60 w1 HQ1.out Qu.ok0 (by unfold Qu.In64; omega)).mono ?_
  rw [Qu.b1]
  rintro e w2 ⟨rfl, hq2, hf2⟩
  have HQ2 := Lib.hid (hq2.mono (F' := fun i => w.heap.size ≤ i) (fun i h => h.elim id (fun h => by have := HB1.out.size; omega)))
  have HB2 := Lib.hid (Qu.below_fr HB1.out hf2 (fun i h => h) HB1.out.size)
  clear hq2 hf2
  go_wp2_with fail
  have hok2 : Qu.Ok 2 100 [(1, 60)] [] := by
    have := Qu.ok0.put 1 60 (by unfold Qu.In64; omega)
    rw [Qu.b1] at this
    exact this
  refine (put_Q _ sb mb 2 100 [(1, 60)] [] 2 50 w2 HQ2.out hok2 (by unfold Qu.In64; omega)).mono ?_
  rw [Qu.b2]
  rintro e w3 ⟨rfl, hq3, hf3⟩
  have HQ3 := Lib.hid (hq3.mono (F' := fun i => w.heap.size ≤ i) (fun i h => h.elim id (fun h => by have := HB2.out.size; omega)))
  have HB3 := Lib.hid (Qu.below_fr HB2.out hf3 (fun i h => h) HB2.out.size)
  have hok3 : Qu.Ok 2 100 [(1, 60)] [(2, 50)] := by
    have := hok2.put 2 50 (by unfold Qu.In64; omega)
    rw [Qu.b2] at this
    exact this
  have HOK3 := Lib.hid hok3
  clear hq3 hf3 hok2 hok3
  go_wp2_with fail
  refine (put_Q _ sb mb 2 100 [(1, 60)] [(2, 50)] 2 1 w3 HQ3.out HOK3.out (by unfold Qu.In64; omega)).mono ?_
  rw [Qu.b3]
  rintro e w4 ⟨rfl, hq4, hf4⟩
  have HQ4 := Lib.hid (hq4.mono (F' := fun i => w.heap.size ≤ i) (fun i h => h.elim id (fun h => by have := HB3.out.size; omega)))
  have HB4 := Lib.hid (Qu.below_fr HB3.out hf4 (fun i h => h) HB3.out.size)
  clear hq4 hf4
  go_wp2_with fail
  refine (take_Q _ sb mb 2 100 [(1, 60)] [(2, 50)] 5 10 w4 HQ4.out HOK3.out ([(1, 60)], []) Qu.b4.symm ([(2, 50)], [], 50, [2]) Qu.b5.symm (by decide) (by simp)).mono ?_
  rintro e w5 ⟨v1, v2, rfl, ho1, ho2, hq5, hf5⟩
  have HQ5 := Lib.hid (hq5.mono (F' := fun i => w.heap.size ≤ i) (fun i h => h.elim id (fun h => by have := HB4.out.size; omega)))
  have HB5 := Lib.hid (Qu.below_fr HB4.out hf5 (fun i h => h) HB4.out.size)
  obtain ⟨a1, k1, rfl, p0, p1⟩ : ∃ a1 k1, v1 = .slice (some ⟨a1, 0, none⟩) 1 k1 ∧ w5.cell? ⟨a1, 0, none⟩ = some (.int .i64 1) ∧ w5.cell? ⟨a1, 1, none⟩ = some (.int .i64 60) := by
    rcases ho1.2 with ⟨_, h0⟩ | ⟨g, cap, cur, rfl, hg, hh, hnc, hcm, hs, ht⟩
    · simp at h0
    · refine ⟨g, cap, rfl, ?_, ?_⟩
      · rw [Qu.blk_cell hh]
        have := congrArg (fun l : List Value => l[0]?) ht
        simpa [Qu.enc, List.getElem?_take] using this
      · rw [Qu.blk_cell hh]
        have := congrArg (fun l : List Value => l[1]?) ht
        simpa [Qu.enc, List.getElem?_take] using this
  obtain ⟨a2, k2, rfl, p2⟩ : ∃ a2 k2, v2 = .slice (some ⟨a2, 0, none⟩) 1 k2 ∧ w5.cell? ⟨a2, 0, none⟩ = some (.int .i64 2) := by
    rcases ho2.2 with ⟨_, h0⟩ | ⟨g, cap, cur, rfl, hg, hh, hnc, hcm, hs, ht⟩
    · simp at h0
    · refine ⟨g, cap, rfl, ?_⟩
      rw [Qu.blk_cell hh]
      have := congrArg (fun l : List Value => l[0]?) ht
      simpa [Qu.ints, List.getElem?_take] using this
  clear hq5 hf5 ho1 ho2
  have hok5 : Qu.Ok 2 100 [(2, 50)] [] := by
    have := HOK3.out.take 5 10
    rw [Qu.b4] at this
    exact this
  have hlook := look_Q _ sb mb 2 100 [(2, 50)] [] w5 HQ5.out hok5
  have HLOOK := Lib.hid hlook
  clear hok5 hlook
  go_wp2_with fail
  refine HLOOK.out.mono ?_
  rintro e w6 ⟨rfl, hb6⟩
  have HB6 := Lib.hid (HB5.out.trans (hb6.mono HB5.out.size))
  clear hb6
  go_wp2
  go_ret
  exact ⟨rfl, HB6.out⟩
end Go.Proofs.Ytgdeoodihhcdjaa
