/- The contract of add. -/
import Derived.Test.YtgdeoodihhcdjaaMc
namespace Go.Proofs.Ytgdeoodihhcdjaa
open Go.RowKit
set_option linter.unusedVariables false
set_option linter.unusedSimpArgs false

theorem Ln.own_n {w : World} {base m : Nat} {e : TypeId} {v : Value} {vs : List Value} (hm : vs.length = m) (h : w.ownsRow base e 1 v (0 + vs.length) ([] ++ vs)) : w.ownsRow base e 1 v m vs := by
  rw [Nat.zero_add, List.nil_append, hm] at h
  exact h
theorem Ln.add_end {B sb : Nat} {w3 : World} {m : Ln.Mod} {v v3 : Value} {d : List UInt8} (h0 : B ≤ sb) (k3 : w3.heap[sb]? = some (.cells (Ln.cells m v) 118 (0, 0))) (hr3 : Ln.Recs B w3 v3 (m.recs ++ [d])) (n : Int) :
    Ln.StAt B ((w3.setCell ⟨sb, 5, none⟩ v3).setCell ⟨sb, 3, none⟩ (.int .i64 n)) sb { m with recs := m.recs ++ [d], next := n } := by
  have k4 : (w3.setCell ⟨sb, 5, none⟩ v3).heap[sb]? = some (.cells (Ln.cells { m with recs := m.recs ++ [d] } v3) 118 (0, 0)) := Qu.blk_set k3 5 v3
  have hr4 : Ln.Recs B (w3.setCell ⟨sb, 5, none⟩ v3) v3 (m.recs ++ [d]) := hr3.keep fun j cs t f hj ht => Below.heap_setCell _ _ _ _ (fun e => by
    subst e
    have hj : w3.heap[_]? = _ := hj
    rw [k3] at hj
    injection hj with hj
    injection hj with _ hj
    exact ht hj.symm)
  exact Ln.StAt.nxt ⟨h0, v3, k4, hr4⟩ n
theorem Ln.rd_new (w : World) (u : Value) (t : TypeId) : Ln.Rd (w.alloc (.cells #[u] t)) (.slice (some ⟨w.heap.size, 0, none⟩) 1 1) [u] := by
  refine .inr ⟨⟨w.heap.size, 0, none⟩, 1, rfl, fun j v hj => ?_⟩
  cases j with
  | zero =>
    have e : (⟨w.heap.size, 0, none⟩ : Addr).add 0 = ⟨w.heap.size, 0, none⟩ := by unfold Addr.add; rfl
    rw [e, cell_of_row _ w.heap.size 0 #[u] t (0, 0) (heap_alloc_new w _)]
    exact ⟨by simp, by simpa using hj⟩
  | succ j => simp at hj
theorem Ln.one_slice (A : Option Addr) (n c : Nat) : ∀ u ∈ [Value.slice A n c], u.oneCell' = true := by
  intro u hu
  rw [List.mem_singleton] at hu
  rw [hu]; rfl

set_option maxHeartbeats 2000000 in
set_option maxRecDepth 100000 in
theorem add_any (B sb : Nat) (lsn : Int) (d : List UInt8) (dv : Value) (m : Ln.Mod) (w : World) (h : Ln.StAt B w sb m) (hB : B ≤ w.heap.size) (hdv : Ln.Rd w dv (Ln.u8s d)) (hlen : m.recs.length ≤ 1000) (hn0 : 0 ≤ m.next) :
    Calls Try.prog 72 #[.pointer (some ⟨sb, 0, none⟩), .int .i64 lsn, dv] w (Ln.Did B sb w (Ln.addF m lsn d)) := by
  have hu8 : (Ln.u8s d).length = d.length := by simp [Ln.u8s]
  obtain ⟨A, cp, hA⟩ := hdv.slice
  rw [hu8] at hA
  subst hA
  have HS := Lib.hid h
  have HD := Lib.hid hdv
  have HU := Lib.hid hu8
  obtain ⟨h0, v, h1, h2⟩ := h
  obtain ⟨c0, c1, c2, c3, c4, c5, c6, c7⟩ := Ln.cells8 h1
  have f5 := Qu.blk_frozen h1 5
  have f3 := Qu.blk_frozen h1 3
  have hlt := Qu.blk_lt h1
  have H1 := Lib.hid h1
  have H2 := Lib.hid h2
  clear h1 h2 c0 c1 c2 c4 c6 c7 hdv hu8
  unfold Ln.addF
  cases hs : Ln.saneF m with
  | false =>
    rw [if_neg (by simp)]
    have HSN := Lib.hid hs
    clear hs
    go_enter Try.func72, Try.ntmps72
    go_wp2_with (go_at_call 76; refine (sane_bad B sb m _ HS.out HSN.out).mono ?_; rintro e w' ⟨rfl, rfl⟩)
    exact ⟨rfl, Ln.Fra.refl _ _ _, rfl⟩
  | true =>
    rw [if_pos rfl]
    have HSY := Lib.hid hs
    clear hs
    by_cases g1 : d.length ≤ 4096
    · have e1 : decide (d.length ≤ 4096) = true := decide_eq_true g1
      by_cases g2 : lsn = m.next
      · subst g2
        by_cases g3 : m.next < 9223372036854775807
        · rw [if_pos ⟨⟨g1, rfl⟩, g3⟩]
          have e3 : decide (m.next < 9223372036854775807) = true := decide_eq_true g3
          obtain ⟨xs, ho, hr⟩ := H2.out
          have HO := Lib.hid ho
          have HR := Lib.hid hr
          obtain ⟨A5, cp5, rfl⟩ := Ln.own_slice ho
          have hd4 : d.length ≤ 4096 := g1
          clear ho hr g1
          go_enter Try.func72, Try.ntmps72
          go_wp2_with (first | (go_at_call 58; first | ((with_reducible refine (may_true _).mono ?_); rintro e w' ⟨rfl, rfl⟩) | ((with_reducible refine (may_false _).mono ?_); rintro e w' ⟨rfl, rfl⟩)) | (go_at_call 76; refine (sane_ok B sb m _ HS.out HSY.out).mono ?_; rintro e w' ⟨rfl, rfl⟩))
          go_region_law (first
            | (refine Ln.step_append rfl (.const (.slice none 0 0)) (.tmp 31) 60 5 rfl Try.underlying60 _ 1 Try.info5 rfl (by decide) B (.slice none 0 0) 0 [] (Ln.u8s d) _ rfl rfl hB (World.ownsRow_nil _ _ _ _) HD.out (Ln.u8s_one d) (by rw [HU.out]; omega) ?_; intro v1 w1 ho1 hg1; have hg1 : World.grownBy { w with drawn := w.drawn + 1 } w1 none := hg1; have ho1 := Ln.own_n HU.out ho1; obtain ⟨A1, cp1, rfl⟩ := Ln.own_slice ho1; have hk1 := Qu.blk_grown (w := { w with drawn := w.drawn + 1 }) H1.out hg1 (by simp); have d5 := (Ln.cells8 hk1).2.2.2.2.2.1; have hlt1 := Qu.blk_lt hk1; clear hk1; have HO1 := Lib.hid ho1; have HG1 := Lib.hid hg1; clear ho1 hg1)
            | (refine Ln.step_append rfl (.tmp 30) (.tmp 33) 69 60 rfl Try.underlying69 _ 24 Try.info60 rfl (by decide) B (.slice A5 m.recs.length cp5) m.recs.length xs [.slice A1 d.length cp1] _ rfl rfl (Nat.le_trans hB (Nat.le_trans HG1.out.size (by simp))) ((World.ownsRow.kept (w := { w with drawn := w.drawn + 1 }) HO.out HG1.out (by cases (Value.slice A5 m.recs.length cp5).ownBlock <;> simp)).alloc _) (Ln.rd_new w1 (.slice A1 d.length cp1) 60) (Ln.one_slice _ _ _) (by simp only [List.length_cons, List.length_nil]; omega) ?_; intro v3 w3 ho3 hg3; obtain ⟨A3, cp3, rfl⟩ := Ln.own_slice ho3; obtain ⟨k3, hr3, hb3⟩ := Ln.add_rec (w := { w with drawn := w.drawn + 1 }) (d := d) hB H1.out HO.out HR.out HG1.out HO1.out hg3 ho3; have l3 := Qu.blk_lt k3; have j3 := (Ln.cells8 k3).2.2.2.1; have j5 := (Ln.cells8 k3).2.2.2.2.2.1; have jf3 := Qu.blk_frozen k3 3; have jf5 := Qu.blk_frozen k3 5; have K3 := Lib.hid k3; have HR3 := Lib.hid hr3; have hb3 : Ln.Fra B sb w w3 := ⟨⟨hb3.low.os, hb3.low.tape, hb3.low.output, hb3.low.size, hb3.low.block⟩, hb3.kp⟩; have HB3 := Lib.hid hb3; clear ho3 hg3 k3 hr3 hb3))
          all_goals
            go_wp2
            go_end0
            exact ⟨(HB3.out.set h0 _ _).set h0 _ _, rfl, Ln.add_end h0 K3.out HR3.out _⟩
        · rw [if_neg (by simp [g3])]
          have e3 : decide (m.next < 9223372036854775807) = false := decide_eq_false g3
          clear g3
          go_enter Try.func72, Try.ntmps72
          go_wp2_with (first | (go_at_call 58; first | ((with_reducible refine (may_true _).mono ?_); rintro e w' ⟨rfl, rfl⟩) | ((with_reducible refine (may_false _).mono ?_); rintro e w' ⟨rfl, rfl⟩)) | (go_at_call 76; refine (sane_ok B sb m _ HS.out HSY.out).mono ?_; rintro e w' ⟨rfl, rfl⟩))
          exact ⟨rfl, Ln.Fra.refl _ _ _, rfl⟩
      · rw [if_neg (by simp [g2])]
        have e2 : (lsn == m.next) = false := beq_eq_false_iff_ne.2 g2
        clear g2
        go_enter Try.func72, Try.ntmps72
        go_wp2_with (first | (go_at_call 58; first | ((with_reducible refine (may_true _).mono ?_); rintro e w' ⟨rfl, rfl⟩) | ((with_reducible refine (may_false _).mono ?_); rintro e w' ⟨rfl, rfl⟩)) | (go_at_call 76; refine (sane_ok B sb m _ HS.out HSY.out).mono ?_; rintro e w' ⟨rfl, rfl⟩))
        exact ⟨rfl, Ln.Fra.refl _ _ _, rfl⟩
    · rw [if_neg (by simp [g1])]
      have g1' : 4096 < d.length := by omega
      clear g1
      go_enter Try.func72, Try.ntmps72
      go_wp2_with (first | (go_at_call 58; first | ((with_reducible refine (may_true _).mono ?_); rintro e w' ⟨rfl, rfl⟩) | ((with_reducible refine (may_false _).mono ?_); rintro e w' ⟨rfl, rfl⟩)) | (go_at_call 76; refine (sane_ok B sb m _ HS.out HSY.out).mono ?_; rintro e w' ⟨rfl, rfl⟩))
      exact ⟨rfl, Ln.Fra.refl _ _ _, rfl⟩

end Go.Proofs.Ytgdeoodihhcdjaa
