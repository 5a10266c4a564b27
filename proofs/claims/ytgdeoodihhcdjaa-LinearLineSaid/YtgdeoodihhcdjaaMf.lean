/- The contract of append, whole. -/
import Derived.Test.YtgdeoodihhcdjaaMe
namespace Go.Proofs.Ytgdeoodihhcdjaa
open Go.RowKit
set_option linter.unusedVariables false
set_option linter.unusedSimpArgs false

theorem Ln.boxed2h {w w5 : World} {x0 x1 x2 y0 y1 y2 : Value} {t u : TypeId} (hw : (w.alloc (.cells #[x0, x1, x2] t)).alloc (.cells #[y0, y1, y2] u) = w5) :
    w5.heap[w.heap.size]? = some (.cells #[x0, x1, x2] t (0, 0)) ∧ w5.heap[w.heap.size + 1]? = some (.cells #[y0, y1, y2] u (0, 0)) := by
  subst hw
  have b1 := Qu.blk_alloc (heap_alloc_new w (.cells #[x0, x1, x2] t)) (.cells #[y0, y1, y2] u)
  have b2 := heap_alloc_new (w.alloc (.cells #[x0, x1, x2] t)) (.cells #[y0, y1, y2] u)
  have e : (w.alloc (.cells #[x0, x1, x2] t)).heap.size = w.heap.size + 1 := by simp
  rw [e] at b2
  exact ⟨b1, b2⟩

set_option maxHeartbeats 1000000 in
set_option maxRecDepth 100000 in
theorem append_fail (B sb : Nat) (ck clsn rlsn : Int) (d : List UInt8) (cd rd : Value) (rdata : List UInt8) (m : Ln.Mod) (w : World) (h : Ln.StAt B w sb m) (hB : B ≤ w.heap.size) (hc : Ln.Rd w cd (Ln.u8s d)) (hr : Ln.Rd w rd (Ln.u8s rdata)) (hlen : m.recs.length ≤ 1000) (hn0 : 0 ≤ m.next) :
    Calls Try.prog 67 #[.pointer (some ⟨sb, 0, none⟩), .agg #[.int .i64 ck, .int .i64 clsn, cd], .agg #[.int .i64 40, .int .i64 rlsn, rd]] w (Ln.Did B sb w (if rlsn = 0 then some { m with failed := true } else (Ln.addF m rlsn d).bind fun t => Ln.capF t rlsn)) := by
  have HS := Lib.hid h
  have HC := Lib.hid hc
  have HR := Lib.hid hr
  obtain ⟨h0, v, h1, h2⟩ := h
  obtain ⟨c0, c1, c2, c3, c4, c5, c6, c7⟩ := Ln.cells8 h1
  have f6 := Qu.blk_frozen h1 6
  have hlt := Qu.blk_lt h1
  have H1 := Lib.hid h1
  clear h1 h2 hc hr c0 c5
  by_cases g : rlsn = 0
  · subst g
    rw [if_pos rfl]
    go_enter Try.func67, Try.ntmps67
    go_wp2_with fail
    refine bodyPost_ret (results_none rfl _ _ _) rfl ?_
    exact ⟨(((Ln.Fra.refl _ _ _).set h0 _ _).alloc (by simpa using hB) _).alloc (by simp; omega) _, rfl, (HS.out.fail.below (Ln.below_alloc _ _ (Nat.le_refl _) _)).below (Ln.below_alloc _ _ (Nat.le_refl _) _)⟩
  · rw [if_neg g]
    have e0 : (rlsn == 0) = false := beq_eq_false_iff_ne.2 g
    have HA := fun (w5 : World) (h5 : Ln.StAt B w5 sb m) (hB5 : B ≤ w5.heap.size) (hd5 : Ln.Rd w5 cd (Ln.u8s d)) => add_any B sb rlsn d cd m w5 h5 hB5 hd5 hlen hn0
    have HAA := Lib.hid HA
    clear HA g
    go_enter Try.func67, Try.ntmps67
    go_wp2_with fail
    generalize hw5 : (w.alloc (Obj.cells #[Value.int IntKind.i64 ck, Value.int IntKind.i64 clsn, cd] 62)).alloc (Obj.cells #[Value.int IntKind.i64 40, Value.int IntKind.i64 rlsn, rd] 64) = w5
    obtain ⟨hb5, hs5, hz5, x0, x1, x2, y0, y1, y2⟩ := Ln.boxed2 HS.out hB hw5
    obtain ⟨bx5, by5⟩ := Ln.boxed2h hw5
    have hcd5 := HC.out.keep (Ln.boxed2b hw5)
    have hrd5 := HR.out.keep (Ln.boxed2b hw5)
    obtain ⟨_, v5, h15, _⟩ := id hs5
    obtain ⟨k0, k1, k2, k3, k4, k5, k6, k7⟩ := Ln.cells8 h15
    have kf6 := Qu.blk_frozen h15 6
    have hlt5 := Qu.blk_lt h15
    have HS5 := Lib.hid hs5
    have HB5 := Lib.hid hb5
    have HC5 := Lib.hid hcd5
    have HR5 := Lib.hid hrd5
    have BX5 := Lib.hid bx5
    have BY5 := Lib.hid by5
    clear hw5 hs5 h15 hb5 hcd5 hrd5 bx5 by5
    refine (HAA.out _ HS5.out (by omega) HC5.out).mono ?_
    intro e w6 hd
    cases ho : Ln.addF m rlsn d with
    | none =>
      rw [ho] at hd
      obtain ⟨rfl, hb⟩ := hd.none
      have HO := Lib.hid ho
      clear hd ho
      go_wp2
      exact ⟨rfl, HB5.out.trans hb, by first | rfl | (rw [HO.out]; rfl)⟩
    | some t =>
      rw [ho] at hd
      obtain ⟨rfl, hb6, hs6⟩ := hd.some
      have HO := Lib.hid ho
      clear hd ho x0 x1 x2 y0 y1 y2 k0 k1 k2 k3 k4 k5 k6 k7
      have y1 := Qu.blk_cell (hb6.kp _ _ _ _ BY5.out (by decide) (by omega)) 1
      simp only [List.getElem?_toArray, List.getElem?_cons_succ, List.getElem?_cons_zero] at y1
      obtain ⟨_, v6, h16, _⟩ := id hs6
      obtain ⟨j0, j1, j2, j3, j4, j5, j6, j7⟩ := Ln.cells8 h16
      have jf4 := Qu.blk_frozen h16 4
      have hlt6 := Qu.blk_lt h16
      have hbx : w.heap.size + 1 < w6.heap.size := by have := hb6.low.size; omega
      have HS6 := Lib.hid hs6
      have HB6 := Lib.hid (HB5.out.trans hb6)
      clear hs6 hb6 h16 j0 j1 j3 j5 j6 j7
      have hmin : (t.limit ≤ rlsn ∧ min t.limit rlsn = t.limit) ∨ (rlsn < t.limit ∧ min t.limit rlsn = rlsn) := by omega
      have HFIN : Hid ((Ln.addF m rlsn d).bind (fun t => Ln.capF t rlsn) = Ln.capF t rlsn) := by rw [HO.out]; rfl
      rcases hmin with ⟨g1, g2⟩ | ⟨g1, g2⟩
      · have hcap : Ln.capF t rlsn = if t.durable ≤ t.limit then some { t with limit := t.limit } else none := by unfold Ln.capF; rw [g2]
        clear g2
        go_wp2_with fail
        (refine wp_region_still_tail 12 (by kernel_rfl) (by kernel_rfl) ?_; simp only [List.take_succ_cons, List.take_zero, List.drop_succ_cons, List.drop_zero]; (iterate 12 ((with_reducible refine Ln.still_want (by kernel_rfl) (fun K hK => ?_)); go_simp; refine hK _ ?_; clear hK K)); with_reducible refine wpStill_nil ?_)
        go_wp2_with fail
        generalize hw7 : (w6.setCell ⟨sb, 4, none⟩ (Value.int IntKind.i64 t.limit)).drew = w7
        have hs7 : Ln.StAt B w7 sb { t with limit := t.limit } := by rw [← hw7]; exact HS6.out.lim t.limit
        have hb7 : Ln.Fra B sb w w7 := by rw [← hw7]; exact (HB6.out.set h0 _ _).drew
        obtain ⟨_, v7, h17, _⟩ := id hs7
        obtain ⟨j0, j1, j2, j3, j4, j5, j6, j7⟩ := Ln.cells8 h17
        have hlt7 := Qu.blk_lt h17
        have HS7 := Lib.hid hs7
        have HB7 := Lib.hid hb7
        clear hw7 hs7 hb7 h17 j0 j1 j3 j5 j6 j7
        by_cases g3 : t.durable ≤ t.limit
        · rw [if_pos g3, ← HFIN.out] at hcap
          have HCAP := Lib.hid hcap
          clear hcap
          (refine wp_region_still_tail 11 (by kernel_rfl) (by kernel_rfl) ?_; simp only [List.take_succ_cons, List.take_zero, List.drop_succ_cons, List.drop_zero]; (iterate 11 ((with_reducible refine Ln.still_want (by kernel_rfl) (fun K hK => ?_)); go_simp; refine hK _ ?_; clear hK K)); with_reducible refine wpStill_nil ?_)
          go_wp2_with (go_at_call 58; first | ((with_reducible refine (may_true _).mono ?_); rintro e w' ⟨rfl, rfl⟩) | ((with_reducible refine (may_false _).mono ?_); rintro e w' ⟨rfl, rfl⟩))
          refine bodyPost_ret (results_none rfl _ _ _) rfl ?_
          exact ⟨HB7.out.drew, by rw [HCAP.out]; exact ⟨rfl, HS7.out.drew⟩⟩
        · rw [if_neg g3, ← HFIN.out] at hcap
          have HCAP := Lib.hid hcap
          clear hcap
          have g4 : t.limit < t.durable := by omega
          have e4 : decide (t.durable ≤ t.limit) = false := decide_eq_false g3
          clear g3
          (refine wp_region_still_tail 11 (by kernel_rfl) (by kernel_rfl) ?_; simp only [List.take_succ_cons, List.take_zero, List.drop_succ_cons, List.drop_zero]; (iterate 11 ((with_reducible refine Ln.still_want (by kernel_rfl) (fun K hK => ?_)); go_simp; refine hK _ ?_; clear hK K)); with_reducible refine wpStill_nil ?_)
          go_wp2_with (go_at_call 58; first | ((with_reducible refine (may_true _).mono ?_); rintro e w' ⟨rfl, rfl⟩) | ((with_reducible refine (may_false _).mono ?_); rintro e w' ⟨rfl, rfl⟩))
          exact ⟨rfl, HB7.out.drew, by rw [HCAP.out]; rfl⟩
      · have hcap : Ln.capF t rlsn = if t.durable ≤ rlsn then some { t with limit := rlsn } else none := by unfold Ln.capF; rw [g2]
        clear g2
        go_wp2_with fail
        (refine wp_region_still_tail 12 (by kernel_rfl) (by kernel_rfl) ?_; simp only [List.take_succ_cons, List.take_zero, List.drop_succ_cons, List.drop_zero]; (iterate 12 ((with_reducible refine Ln.still_want (by kernel_rfl) (fun K hK => ?_)); go_simp; refine hK _ ?_; clear hK K)); with_reducible refine wpStill_nil ?_)
        go_wp2_with fail
        generalize hw7 : (w6.setCell ⟨sb, 4, none⟩ (Value.int IntKind.i64 rlsn)).drew = w7
        have hs7 : Ln.StAt B w7 sb { t with limit := rlsn } := by rw [← hw7]; exact HS6.out.lim rlsn
        have hb7 : Ln.Fra B sb w w7 := by rw [← hw7]; exact (HB6.out.set h0 _ _).drew
        obtain ⟨_, v7, h17, _⟩ := id hs7
        obtain ⟨j0, j1, j2, j3, j4, j5, j6, j7⟩ := Ln.cells8 h17
        have hlt7 := Qu.blk_lt h17
        have HS7 := Lib.hid hs7
        have HB7 := Lib.hid hb7
        clear hw7 hs7 hb7 h17 j0 j1 j3 j5 j6 j7
        by_cases g3 : t.durable ≤ rlsn
        · rw [if_pos g3, ← HFIN.out] at hcap
          have HCAP := Lib.hid hcap
          clear hcap
          (refine wp_region_still_tail 11 (by kernel_rfl) (by kernel_rfl) ?_; simp only [List.take_succ_cons, List.take_zero, List.drop_succ_cons, List.drop_zero]; (iterate 11 ((with_reducible refine Ln.still_want (by kernel_rfl) (fun K hK => ?_)); go_simp; refine hK _ ?_; clear hK K)); with_reducible refine wpStill_nil ?_)
          go_wp2_with (go_at_call 58; first | ((with_reducible refine (may_true _).mono ?_); rintro e w' ⟨rfl, rfl⟩) | ((with_reducible refine (may_false _).mono ?_); rintro e w' ⟨rfl, rfl⟩))
          refine bodyPost_ret (results_none rfl _ _ _) rfl ?_
          exact ⟨HB7.out.drew, by rw [HCAP.out]; exact ⟨rfl, HS7.out.drew⟩⟩
        · rw [if_neg g3, ← HFIN.out] at hcap
          have HCAP := Lib.hid hcap
          clear hcap
          have g4 : rlsn < t.durable := by omega
          have e4 : decide (t.durable ≤ rlsn) = false := decide_eq_false g3
          clear g3
          (refine wp_region_still_tail 11 (by kernel_rfl) (by kernel_rfl) ?_; simp only [List.take_succ_cons, List.take_zero, List.drop_succ_cons, List.drop_zero]; (iterate 11 ((with_reducible refine Ln.still_want (by kernel_rfl) (fun K hK => ?_)); go_simp; refine hK _ ?_; clear hK K)); with_reducible refine wpStill_nil ?_)
          go_wp2_with (go_at_call 58; first | ((with_reducible refine (may_true _).mono ?_); rintro e w' ⟨rfl, rfl⟩) | ((with_reducible refine (may_false _).mono ?_); rintro e w' ⟨rfl, rfl⟩))
          exact ⟨rfl, HB7.out.drew, by rw [HCAP.out]; rfl⟩

end Go.Proofs.Ytgdeoodihhcdjaa
