/- The contract of append. -/
import Derived.Test.YtgdeoodihhcdjaaMd
namespace Go.Proofs.Ytgdeoodihhcdjaa
open Go.RowKit
set_option linter.unusedVariables false
set_option linter.unusedSimpArgs false

theorem Qu.step_wanted {P : Program} {ops : Array Oper} {o : Oper} {a : Act} {w : World} {K : Act → World → Prop} {Q : Exit → Act → World → Prop} {E : Prop} (hgd : o.guard = none) (h : Oper.wp P o a w K Q) :
    if Region.wanted o (yielded ops a.tmps) = true then Oper.wp P o a w K Q else E := by
  have hw : Region.wanted o (yielded ops a.tmps) = true := by simp [Region.wanted, hgd]
  rw [if_pos hw]
  exact h
theorem Ln.still_want {P : Program} {ops : Array Oper} {w : World} {Q : Act → Prop} {a : Act} {o : Oper} {rest : List Oper} (hw : Region.wanted o (yielded ops a.tmps) = true) (h : ∀ K : Act → Prop, (∀ a, wpStill P ops w Q rest a → K a) → o.still P a w K) : wpStill P ops w Q (o :: rest) a :=
  wpStill_step fun K hK => by rw [if_pos hw]; exact h K hK
theorem Ln.still_skip {P : Program} {ops : Array Oper} {w : World} {Q : Act → Prop} {a : Act} {o : Oper} {rest : List Oper} (hw : Region.wanted o (yielded ops a.tmps) = false) (h : ∀ K : Act → Prop, (∀ a, wpStill P ops w Q rest a → K a) → K (a.put o.dst undef)) : wpStill P ops w Q (o :: rest) a :=
  wpStill_step fun K hK => by rw [if_neg (by rw [hw]; exact Bool.false_ne_true)]; exact h K hK
theorem Ln.boxed2b {w w5 : World} {o1 o2 : Obj} (hw : (w.alloc o1).alloc o2 = w5) : Below w.heap.size w w5 := by
  subst hw
  exact (Ln.below_alloc _ w (Nat.le_refl _) _).alloc (by simp) _
theorem Ln.StAt.drew {B sb : Nat} {m : Ln.Mod} {w : World} (h : Ln.StAt B w sb m) : Ln.StAt B w.drew sb m := h
theorem Ln.Rd.drew {w : World} {V : Value} {vs : List Value} (h : Ln.Rd w V vs) : Ln.Rd w.drew V vs := h
theorem Ln.Did.under {B sb : Nat} {w w1 : World} {o : Option Ln.Mod} {e : Ending} {w' : World} (hb : Ln.Fra B sb w w1) (h : Ln.Did B sb w1 o e w') : Ln.Did B sb w o e w' := ⟨hb.trans h.1, h.2⟩

set_option maxHeartbeats 600000 in
set_option maxRecDepth 100000 in
theorem append_ok (B sb : Nat) (ck clsn rlsn : Int) (d : List UInt8) (cd rd : Value) (rdata : List UInt8) (m : Ln.Mod) (w : World) (h : Ln.StAt B w sb m) (hB : B ≤ w.heap.size) (hc : Ln.Rd w cd (Ln.u8s d)) (hr : Ln.Rd w rd (Ln.u8s rdata)) (hlen : m.recs.length ≤ 1000) (hn0 : 0 ≤ m.next) :
    Calls Try.prog 67 #[.pointer (some ⟨sb, 0, none⟩), .agg #[.int .i64 ck, .int .i64 clsn, cd], .agg #[.int .i64 0, .int .i64 rlsn, rd]] w (Ln.Did B sb w (if ck = 2 ∨ rlsn < m.limit then Ln.addF m rlsn d else none)) := by
  have HS := Lib.hid h
  have HC := Lib.hid hc
  have HR := Lib.hid hr
  obtain ⟨h0, v, h1, h2⟩ := h
  obtain ⟨c0, c1, c2, c3, c4, c5, c6, c7⟩ := Ln.cells8 h1
  have hlt := Qu.blk_lt h1
  have H1 := Lib.hid h1
  clear h1 h2 hc hr c0 c5
  by_cases g : ck = 2 ∨ rlsn < m.limit
  · rw [if_pos g]
    have HA := fun (w5 : World) (h5 : Ln.StAt B w5 sb m) (hB5 : B ≤ w5.heap.size) (hd5 : Ln.Rd w5 cd (Ln.u8s d)) => add_any B sb rlsn d cd m w5 h5 hB5 hd5 hlen hn0
    have HAA := Lib.hid HA
    clear HA
    have hg : ck = 2 ∨ ((ck == 2) = false ∧ rlsn < m.limit) := by
      by_cases h2 : ck = 2
      · exact .inl h2
      · exact .inr ⟨beq_eq_false_iff_ne.2 h2, by omega⟩
    clear g
    rcases hg with rfl | ⟨g1, g2⟩
    · go_enter Try.func67, Try.ntmps67
      go_wp2_with fail
      generalize hw5 : (w.alloc (Obj.cells #[Value.int IntKind.i64 2, Value.int IntKind.i64 clsn, cd] 62)).alloc (Obj.cells #[Value.int IntKind.i64 0, Value.int IntKind.i64 rlsn, rd] 64) = w5
      obtain ⟨hb5, hs5, hz5, x0, x1, x2, y0, y1, y2⟩ := Ln.boxed2 HS.out hB hw5
      have hcd5 := HC.out.keep (Ln.boxed2b hw5)
      have hrd5 := HR.out.keep (Ln.boxed2b hw5)
      obtain ⟨_, v5, h15, _⟩ := id hs5
      obtain ⟨k0, k1, k2, k3, k4, k5, k6, k7⟩ := Ln.cells8 h15
      have hlt5 := Qu.blk_lt h15
      have HS5 := Lib.hid hs5
      have HB5 := Lib.hid hb5
      have HC5 := Lib.hid hcd5
      have HR5 := Lib.hid hrd5
      clear hw5 hs5 h15 hb5 hcd5 hrd5
      (refine wp_region_still_tail 13 (by kernel_rfl) (by kernel_rfl) ?_; simp only [List.take_succ_cons, List.take_zero, List.drop_succ_cons, List.drop_zero]; (iterate 4 ((with_reducible refine Ln.still_want (by kernel_rfl) (fun K hK => ?_)); go_simp; refine hK _ ?_; clear hK K)); (iterate 8 ((with_reducible refine Ln.still_skip (by kernel_rfl) (fun K hK => ?_)); go_simp; refine hK _ ?_; clear hK K)); (iterate 1 ((with_reducible refine Ln.still_want (by kernel_rfl) (fun K hK => ?_)); go_simp; refine hK _ ?_; clear hK K)); with_reducible refine wpStill_nil ?_)
      go_wp2_with (go_at_call 58; first | ((with_reducible refine (may_true _).mono ?_); rintro e w' ⟨rfl, rfl⟩) | ((with_reducible refine (may_false _).mono ?_); rintro e w' ⟨rfl, rfl⟩))
      refine (HAA.out _ HS5.out.drew (by simp; omega) HC5.out.drew).mono ?_
      intro e w6 hd
      have HD := Lib.hid hd
      cases ho : Ln.addF m rlsn d with
      | none =>
        rw [ho] at hd
        obtain ⟨rfl, hb⟩ := hd.none
        clear hd ho
        go_wp2
        exact ⟨rfl, HB5.out.drew.trans hb, rfl⟩
      | some t =>
        rw [ho] at hd
        obtain ⟨rfl, hb, hs⟩ := hd.some
        have HS6 := Lib.hid hs
        have HO := Lib.hid ho
        clear hd ho hs
        go_wp2
        go_end0
        exact ⟨HB5.out.drew.trans hb, by rw [HO.out]; exact ⟨rfl, HS6.out⟩⟩
    · have e2 : decide (rlsn < m.limit) = true := decide_eq_true g2
      go_enter Try.func67, Try.ntmps67
      go_wp2_with fail
      generalize hw5 : (w.alloc (Obj.cells #[Value.int IntKind.i64 ck, Value.int IntKind.i64 clsn, cd] 62)).alloc (Obj.cells #[Value.int IntKind.i64 0, Value.int IntKind.i64 rlsn, rd] 64) = w5
      obtain ⟨hb5, hs5, hz5, x0, x1, x2, y0, y1, y2⟩ := Ln.boxed2 HS.out hB hw5
      have hcd5 := HC.out.keep (Ln.boxed2b hw5)
      have hrd5 := HR.out.keep (Ln.boxed2b hw5)
      obtain ⟨_, v5, h15, _⟩ := id hs5
      obtain ⟨k0, k1, k2, k3, k4, k5, k6, k7⟩ := Ln.cells8 h15
      have hlt5 := Qu.blk_lt h15
      have HS5 := Lib.hid hs5
      have HB5 := Lib.hid hb5
      have HC5 := Lib.hid hcd5
      have HR5 := Lib.hid hrd5
      clear hw5 hs5 h15 hb5 hcd5 hrd5
      (refine wp_region_still_tail 13 (by kernel_rfl) (by kernel_rfl) ?_; simp only [List.take_succ_cons, List.take_zero, List.drop_succ_cons, List.drop_zero]; (iterate 13 ((with_reducible refine Ln.still_want (by kernel_rfl) (fun K hK => ?_)); go_simp; refine hK _ ?_; clear hK K)); with_reducible refine wpStill_nil ?_)
      go_wp2_with (go_at_call 58; first | ((with_reducible refine (may_true _).mono ?_); rintro e w' ⟨rfl, rfl⟩) | ((with_reducible refine (may_false _).mono ?_); rintro e w' ⟨rfl, rfl⟩))
      refine (HAA.out _ HS5.out.drew (by simp; omega) HC5.out.drew).mono ?_
      intro e w6 hd
      have HD := Lib.hid hd
      cases ho : Ln.addF m rlsn d with
      | none =>
        rw [ho] at hd
        obtain ⟨rfl, hb⟩ := hd.none
        clear hd ho
        go_wp2
        exact ⟨rfl, HB5.out.drew.trans hb, rfl⟩
      | some t =>
        rw [ho] at hd
        obtain ⟨rfl, hb, hs⟩ := hd.some
        have HS6 := Lib.hid hs
        have HO := Lib.hid ho
        clear hd ho hs
        go_wp2
        go_end0
        exact ⟨HB5.out.drew.trans hb, by rw [HO.out]; exact ⟨rfl, HS6.out⟩⟩
  · rw [if_neg g]
    have g1 : (ck == 2) = false := beq_eq_false_iff_ne.2 (fun h => g (.inl h))
    have g2 : m.limit ≤ rlsn := by omega
    have e2 : decide (rlsn < m.limit) = false := decide_eq_false (by omega)
    clear g
    go_enter Try.func67, Try.ntmps67
    go_wp2_with fail
    generalize hw5 : (w.alloc (Obj.cells #[Value.int IntKind.i64 ck, Value.int IntKind.i64 clsn, cd] 62)).alloc (Obj.cells #[Value.int IntKind.i64 0, Value.int IntKind.i64 rlsn, rd] 64) = w5
    obtain ⟨hb5, hs5, hz5, x0, x1, x2, y0, y1, y2⟩ := Ln.boxed2 HS.out hB hw5
    have hcd5 := HC.out.keep (Ln.boxed2b hw5)
    have hrd5 := HR.out.keep (Ln.boxed2b hw5)
    obtain ⟨_, v5, h15, _⟩ := id hs5
    obtain ⟨k0, k1, k2, k3, k4, k5, k6, k7⟩ := Ln.cells8 h15
    have hlt5 := Qu.blk_lt h15
    have HS5 := Lib.hid hs5
    have HB5 := Lib.hid hb5
    have HC5 := Lib.hid hcd5
    have HR5 := Lib.hid hrd5
    clear hw5 hs5 h15 hb5 hcd5 hrd5
    (refine wp_region_still_tail 13 (by kernel_rfl) (by kernel_rfl) ?_; simp only [List.take_succ_cons, List.take_zero, List.drop_succ_cons, List.drop_zero]; (iterate 13 ((with_reducible refine Ln.still_want (by kernel_rfl) (fun K hK => ?_)); go_simp; refine hK _ ?_; clear hK K)); with_reducible refine wpStill_nil ?_)
    go_wp2_with (go_at_call 58; first | ((with_reducible refine (may_true _).mono ?_); rintro e w' ⟨rfl, rfl⟩) | ((with_reducible refine (may_false _).mono ?_); rintro e w' ⟨rfl, rfl⟩))
    exact ⟨rfl, HB5.out.drew, rfl⟩

end Go.Proofs.Ytgdeoodihhcdjaa
