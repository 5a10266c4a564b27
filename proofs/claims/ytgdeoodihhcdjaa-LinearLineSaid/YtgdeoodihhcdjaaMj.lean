/- The contract of read. -/
import Derived.Test.YtgdeoodihhcdjaaMi
namespace Go.Proofs.Ytgdeoodihhcdjaa
open Go.RowKit
set_option linter.unusedVariables false
set_option linter.unusedSimpArgs false


set_option maxHeartbeats 2000000 in
set_option maxRecDepth 100000 in
theorem read_ok (B sb : Nat) (ck clsn rlsn : Int) (d : List UInt8) (cd rd : Value) (rdata : List UInt8) (m : Ln.Mod) (w : World) (h : Ln.StAt B w sb m) (hB : B ≤ w.heap.size) (hc : Ln.Rd w cd (Ln.u8s d)) (hr : Ln.Rd w rd (Ln.u8s rdata)) (hlen : m.recs.length ≤ 1000) (hn0 : 0 ≤ m.next) (hw0 : 0 ≤ m.base) (hw1 : m.base ≤ m.first) (hw2 : m.next = m.base + m.recs.length) (hw3 : m.next ≤ 9223372036854775807) :
    Calls Try.prog 66 #[.pointer (some ⟨sb, 0, none⟩), .agg #[.int .i64 ck, .int .i64 clsn, cd], .agg #[.int .i64 0, .int .i64 rlsn, rd]] w (Ln.Did B sb w (if ((rlsn = clsn ∧ m.first ≤ clsn) ∧ clsn < m.next) ∧ rdata = Ln.recordF m clsn then Ln.raiseF m (clsn + 1) else none)) := by
  have HS := Lib.hid h
  have HC := Lib.hid hc
  have HR := Lib.hid hr
  obtain ⟨h0, v, h1, h2⟩ := h
  obtain ⟨c0, c1, c2, c3, c4, c5, c6, c7⟩ := Ln.cells8 h1
  have f6 := Qu.blk_frozen h1 6
  have hlt := Qu.blk_lt h1
  have H1 := Lib.hid h1
  clear h1 h2 hc hr c0 c5
  by_cases g1 : rlsn = clsn
  · subst g1
    by_cases g2 : m.first ≤ rlsn
    · have e2 : decide (m.first ≤ rlsn) = true := decide_eq_true g2
      by_cases g3 : rlsn < m.next
      · have e3 : decide (rlsn < m.next) = true := decide_eq_true g3
        have HEQ := equal_any
        have HRR := Lib.hid (raise_any B sb (rlsn + 1) m)
        have HW2 := Lib.hid hw2
        have hin : rlsn < m.base + m.recs.length := by omega
        clear hw2
        by_cases g4 : rdata = Ln.recordF m rlsn
        · rw [if_pos ⟨⟨⟨rfl, g2⟩, g3⟩, g4⟩]
          have hdec : decide (rdata = Ln.recordF m rlsn) = true := decide_eq_true g4
          have HDEC := Lib.hid hdec
          clear hdec g4
          go_enter Try.func66, Try.ntmps66
          go_wp2_with fail
          generalize hw5 : (w.alloc (Obj.cells #[Value.int IntKind.i64 ck, Value.int IntKind.i64 rlsn, cd] 62)).alloc (Obj.cells #[Value.int IntKind.i64 0, Value.int IntKind.i64 rlsn, rd] 64) = w5
          obtain ⟨hb5, hs5, hz5, x0, x1, x2, y0, y1, y2⟩ := Ln.boxed2 HS.out hB hw5
          obtain ⟨bx5, by5⟩ := Ln.boxed2h hw5
          have hcd5 := HC.out.keep (Ln.boxed2b hw5)
          have hrd5 := HR.out.keep (Ln.boxed2b hw5)
          obtain ⟨_, v5, h15, _⟩ := id hs5
          obtain ⟨k0, k1, k2, k3, k4, k5, k6, k7⟩ := Ln.cells8 h15
          have kf6 := Qu.blk_frozen h15 6
          have hlt5 := Qu.blk_lt h15
          have HS5 := Lib.hid hs5
          have HB5 := Lib.hid hb5
          have HC5 := Lib.hid hcd5
          have HR5 := Lib.hid hrd5
          have BX5 := Lib.hid bx5
          have BY5 := Lib.hid by5
          clear hw5 hs5 h15 hb5 hcd5 hrd5 bx5 by5
          obtain ⟨u, hu, hcall⟩ := record_at B sb rlsn m w5.drew HS5.out.drew (by omega) hin hw0 (by omega)
          have hequal := HEQ rd u rdata (Ln.recordF m rlsn) w5.drew HR5.out.drew hu
          rw [HDEC.out] at hequal
          have HREC := Lib.hid hcall
          have HEQ5 := Lib.hid hequal
          clear hcall hequal hu HEQ
          (refine wp_region_still_tail 30 (by kernel_rfl) (by kernel_rfl) ?_; simp only [List.take_succ_cons, List.take_zero, List.drop_succ_cons, List.drop_zero]; (iterate 27 ((with_reducible refine Ln.still_want (by kernel_rfl) (fun K hK => ?_)); go_simp; refine hK _ ?_; clear hK K)); ((with_reducible refine Ln.still_want (by kernel_rfl) (fun K hK => ?_)); go_simp; refine ⟨_, HREC.out, hK _ ?_⟩; clear hK K); ((with_reducible refine Ln.still_want (by kernel_rfl) (fun K hK => ?_)); go_simp; refine ⟨_, HEQ5.out, hK _ ?_⟩; clear hK K); ((with_reducible refine Ln.still_want (by kernel_rfl) (fun K hK => ?_)); go_simp; refine hK _ ?_; clear hK K); with_reducible refine wpStill_nil ?_)
          go_wp2_with (go_at_call 58; first | ((with_reducible refine (may_true _).mono ?_); rintro e w' ⟨rfl, rfl⟩) | ((with_reducible refine (may_false _).mono ?_); rintro e w' ⟨rfl, rfl⟩))
          refine (HRR.out _ HS5.out.drew).mono ?_
          intro e w6 hd
          cases ho : Ln.raiseF m (rlsn + 1) with
          | none =>
            rw [ho] at hd
            obtain ⟨rfl, hb⟩ := hd.none
            have HO := Lib.hid ho
            clear hd ho
            go_wp2
            exact ⟨rfl, HB5.out.drew.trans hb, by first | rfl | (rw [HO.out]; rfl)⟩
          | some t =>
            rw [ho] at hd
            obtain ⟨rfl, hb6, hs6⟩ := hd.some
            have HO := Lib.hid ho
            have HS6 := Lib.hid hs6
            have HB6 := Lib.hid hb6
            clear hd ho hs6 hb6
            go_wp2_with fail
            refine bodyPost_ret (results_none rfl _ _ _) rfl ?_
            exact ⟨HB5.out.drew.trans HB6.out, by first | exact ⟨rfl, HS6.out⟩ | (rw [HO.out]; exact ⟨rfl, HS6.out⟩)⟩
        · rw [if_neg (fun h => g4 h.2)]
          have hdec : decide (rdata = Ln.recordF m rlsn) = false := decide_eq_false g4
          have HDEC := Lib.hid hdec
          clear hdec g4 HRR
          go_enter Try.func66, Try.ntmps66
          go_wp2_with fail
          generalize hw5 : (w.alloc (Obj.cells #[Value.int IntKind.i64 ck, Value.int IntKind.i64 rlsn, cd] 62)).alloc (Obj.cells #[Value.int IntKind.i64 0, Value.int IntKind.i64 rlsn, rd] 64) = w5
          obtain ⟨hb5, hs5, hz5, x0, x1, x2, y0, y1, y2⟩ := Ln.boxed2 HS.out hB hw5
          obtain ⟨bx5, by5⟩ := Ln.boxed2h hw5
          have hcd5 := HC.out.keep (Ln.boxed2b hw5)
          have hrd5 := HR.out.keep (Ln.boxed2b hw5)
          obtain ⟨_, v5, h15, _⟩ := id hs5
          obtain ⟨k0, k1, k2, k3, k4, k5, k6, k7⟩ := Ln.cells8 h15
          have kf6 := Qu.blk_frozen h15 6
          have hlt5 := Qu.blk_lt h15
          have HS5 := Lib.hid hs5
          have HB5 := Lib.hid hb5
          have HC5 := Lib.hid hcd5
          have HR5 := Lib.hid hrd5
          have BX5 := Lib.hid bx5
          have BY5 := Lib.hid by5
          clear hw5 hs5 h15 hb5 hcd5 hrd5 bx5 by5
          obtain ⟨u, hu, hcall⟩ := record_at B sb rlsn m w5.drew HS5.out.drew (by omega) hin hw0 (by omega)
          have hequal := HEQ rd u rdata (Ln.recordF m rlsn) w5.drew HR5.out.drew hu
          rw [HDEC.out] at hequal
          have HREC := Lib.hid hcall
          have HEQ5 := Lib.hid hequal
          clear hcall hequal hu HEQ
          (refine wp_region_still_tail 30 (by kernel_rfl) (by kernel_rfl) ?_; simp only [List.take_succ_cons, List.take_zero, List.drop_succ_cons, List.drop_zero]; (iterate 27 ((with_reducible refine Ln.still_want (by kernel_rfl) (fun K hK => ?_)); go_simp; refine hK _ ?_; clear hK K)); ((with_reducible refine Ln.still_want (by kernel_rfl) (fun K hK => ?_)); go_simp; refine ⟨_, HREC.out, hK _ ?_⟩; clear hK K); ((with_reducible refine Ln.still_want (by kernel_rfl) (fun K hK => ?_)); go_simp; refine ⟨_, HEQ5.out, hK _ ?_⟩; clear hK K); ((with_reducible refine Ln.still_want (by kernel_rfl) (fun K hK => ?_)); go_simp; refine hK _ ?_; clear hK K); with_reducible refine wpStill_nil ?_)
          go_wp2_with (go_at_call 58; first | ((with_reducible refine (may_true _).mono ?_); rintro e w' ⟨rfl, rfl⟩) | ((with_reducible refine (may_false _).mono ?_); rintro e w' ⟨rfl, rfl⟩))
          exact ⟨rfl, HB5.out.drew, rfl⟩
      · rw [if_neg (fun h => g3 h.1.2)]
        have e3 : decide (rlsn < m.next) = false := decide_eq_false g3
        have g3' : m.next ≤ rlsn := by omega
        clear g3 hw2
        go_enter Try.func66, Try.ntmps66
        go_wp2_with fail
        generalize hw5 : (w.alloc (Obj.cells #[Value.int IntKind.i64 ck, Value.int IntKind.i64 rlsn, cd] 62)).alloc (Obj.cells #[Value.int IntKind.i64 0, Value.int IntKind.i64 rlsn, rd] 64) = w5
        obtain ⟨hb5, hs5, hz5, x0, x1, x2, y0, y1, y2⟩ := Ln.boxed2 HS.out hB hw5
        obtain ⟨bx5, by5⟩ := Ln.boxed2h hw5
        have hcd5 := HC.out.keep (Ln.boxed2b hw5)
        have hrd5 := HR.out.keep (Ln.boxed2b hw5)
        obtain ⟨_, v5, h15, _⟩ := id hs5
        obtain ⟨k0, k1, k2, k3, k4, k5, k6, k7⟩ := Ln.cells8 h15
        have kf6 := Qu.blk_frozen h15 6
        have hlt5 := Qu.blk_lt h15
        have HS5 := Lib.hid hs5
        have HB5 := Lib.hid hb5
        have HC5 := Lib.hid hcd5
        have HR5 := Lib.hid hrd5
        have BX5 := Lib.hid bx5
        have BY5 := Lib.hid by5
        clear hw5 hs5 h15 hb5 hcd5 hrd5 bx5 by5
        (refine wp_region_still_tail 30 (by kernel_rfl) (by kernel_rfl) ?_; simp only [List.take_succ_cons, List.take_zero, List.drop_succ_cons, List.drop_zero]; (iterate 23 ((with_reducible refine Ln.still_want (by kernel_rfl) (fun K hK => ?_)); go_simp; refine hK _ ?_; clear hK K)); (iterate 6 ((with_reducible refine Ln.still_skip (by kernel_rfl) (fun K hK => ?_)); go_simp; refine hK _ ?_; clear hK K)); (iterate 1 ((with_reducible refine Ln.still_want (by kernel_rfl) (fun K hK => ?_)); go_simp; refine hK _ ?_; clear hK K)); with_reducible refine wpStill_nil ?_)
        go_wp2_with (go_at_call 58; first | ((with_reducible refine (may_true _).mono ?_); rintro e w' ⟨rfl, rfl⟩) | ((with_reducible refine (may_false _).mono ?_); rintro e w' ⟨rfl, rfl⟩))
        exact ⟨rfl, HB5.out.drew, rfl⟩
    · rw [if_neg (fun h => g2 h.1.1.2)]
      have e2 : decide (m.first ≤ rlsn) = false := decide_eq_false g2
      have g2' : rlsn < m.first := by omega
      clear g2 hw2
      go_enter Try.func66, Try.ntmps66
      go_wp2_with fail
      generalize hw5 : (w.alloc (Obj.cells #[Value.int IntKind.i64 ck, Value.int IntKind.i64 rlsn, cd] 62)).alloc (Obj.cells #[Value.int IntKind.i64 0, Value.int IntKind.i64 rlsn, rd] 64) = w5
      obtain ⟨hb5, hs5, hz5, x0, x1, x2, y0, y1, y2⟩ := Ln.boxed2 HS.out hB hw5
      obtain ⟨bx5, by5⟩ := Ln.boxed2h hw5
      have hcd5 := HC.out.keep (Ln.boxed2b hw5)
      have hrd5 := HR.out.keep (Ln.boxed2b hw5)
      obtain ⟨_, v5, h15, _⟩ := id hs5
      obtain ⟨k0, k1, k2, k3, k4, k5, k6, k7⟩ := Ln.cells8 h15
      have kf6 := Qu.blk_frozen h15 6
      have hlt5 := Qu.blk_lt h15
      have HS5 := Lib.hid hs5
      have HB5 := Lib.hid hb5
      have HC5 := Lib.hid hcd5
      have HR5 := Lib.hid hrd5
      have BX5 := Lib.hid bx5
      have BY5 := Lib.hid by5
      clear hw5 hs5 h15 hb5 hcd5 hrd5 bx5 by5
      (refine wp_region_still_tail 30 (by kernel_rfl) (by kernel_rfl) ?_; simp only [List.take_succ_cons, List.take_zero, List.drop_succ_cons, List.drop_zero]; (iterate 14 ((with_reducible refine Ln.still_want (by kernel_rfl) (fun K hK => ?_)); go_simp; refine hK _ ?_; clear hK K)); (iterate 7 ((with_reducible refine Ln.still_skip (by kernel_rfl) (fun K hK => ?_)); go_simp; refine hK _ ?_; clear hK K)); (iterate 2 ((with_reducible refine Ln.still_want (by kernel_rfl) (fun K hK => ?_)); go_simp; refine hK _ ?_; clear hK K)); (iterate 6 ((with_reducible refine Ln.still_skip (by kernel_rfl) (fun K hK => ?_)); go_simp; refine hK _ ?_; clear hK K)); (iterate 1 ((with_reducible refine Ln.still_want (by kernel_rfl) (fun K hK => ?_)); go_simp; refine hK _ ?_; clear hK K)); with_reducible refine wpStill_nil ?_)
      go_wp2_with (go_at_call 58; first | ((with_reducible refine (may_true _).mono ?_); rintro e w' ⟨rfl, rfl⟩) | ((with_reducible refine (may_false _).mono ?_); rintro e w' ⟨rfl, rfl⟩))
      exact ⟨rfl, HB5.out.drew, rfl⟩
  · rw [if_neg (fun h => g1 h.1.1.1)]
    have e1 : (rlsn == clsn) = false := beq_eq_false_iff_ne.2 g1
    clear g1 hw2
    go_enter Try.func66, Try.ntmps66
    go_wp2_with fail
    generalize hw5 : (w.alloc (Obj.cells #[Value.int IntKind.i64 ck, Value.int IntKind.i64 clsn, cd] 62)).alloc (Obj.cells #[Value.int IntKind.i64 0, Value.int IntKind.i64 rlsn, rd] 64) = w5
    obtain ⟨hb5, hs5, hz5, x0, x1, x2, y0, y1, y2⟩ := Ln.boxed2 HS.out hB hw5
    obtain ⟨bx5, by5⟩ := Ln.boxed2h hw5
    have hcd5 := HC.out.keep (Ln.boxed2b hw5)
    have hrd5 := HR.out.keep (Ln.boxed2b hw5)
    obtain ⟨_, v5, h15, _⟩ := id hs5
    obtain ⟨k0, k1, k2, k3, k4, k5, k6, k7⟩ := Ln.cells8 h15
    have kf6 := Qu.blk_frozen h15 6
    have hlt5 := Qu.blk_lt h15
    have HS5 := Lib.hid hs5
    have HB5 := Lib.hid hb5
    have HC5 := Lib.hid hcd5
    have HR5 := Lib.hid hrd5
    have BX5 := Lib.hid bx5
    have BY5 := Lib.hid by5
    clear hw5 hs5 h15 hb5 hcd5 hrd5 bx5 by5
    (refine wp_region_still_tail 30 (by kernel_rfl) (by kernel_rfl) ?_; simp only [List.take_succ_cons, List.take_zero, List.drop_succ_cons, List.drop_zero]; (iterate 5 ((with_reducible refine Ln.still_want (by kernel_rfl) (fun K hK => ?_)); go_simp; refine hK _ ?_; clear hK K)); (iterate 7 ((with_reducible refine Ln.still_skip (by kernel_rfl) (fun K hK => ?_)); go_simp; refine hK _ ?_; clear hK K)); (iterate 2 ((with_reducible refine Ln.still_want (by kernel_rfl) (fun K hK => ?_)); go_simp; refine hK _ ?_; clear hK K)); (iterate 7 ((with_reducible refine Ln.still_skip (by kernel_rfl) (fun K hK => ?_)); go_simp; refine hK _ ?_; clear hK K)); (iterate 2 ((with_reducible refine Ln.still_want (by kernel_rfl) (fun K hK => ?_)); go_simp; refine hK _ ?_; clear hK K)); (iterate 6 ((with_reducible refine Ln.still_skip (by kernel_rfl) (fun K hK => ?_)); go_simp; refine hK _ ?_; clear hK K)); (iterate 1 ((with_reducible refine Ln.still_want (by kernel_rfl) (fun K hK => ?_)); go_simp; refine hK _ ?_; clear hK K)); with_reducible refine wpStill_nil ?_)
    go_wp2_with (go_at_call 58; first | ((with_reducible refine (may_true _).mono ?_); rintro e w' ⟨rfl, rfl⟩) | ((with_reducible refine (may_false _).mono ?_); rintro e w' ⟨rfl, rfl⟩))
    exact ⟨rfl, HB5.out.drew, rfl⟩

end Go.Proofs.Ytgdeoodihhcdjaa
