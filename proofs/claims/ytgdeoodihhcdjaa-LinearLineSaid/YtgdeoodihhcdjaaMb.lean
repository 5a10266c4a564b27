/- The contracts of record, sync, close. -/
import Derived.Test.YtgdeoodihhcdjaaMa
namespace Go.Proofs.Ytgdeoodihhcdjaa
open Go.RowKit
set_option linter.unusedVariables false
set_option linter.unusedSimpArgs false

theorem Ln.own_slice {w : World} {base n : Nat} {e : TypeId} {size : Nat} {v : Value} {xs : List Value} (h : w.ownsRow base e size v n xs) : ∃ A c, v = .slice A n c := by
  obtain ⟨_, h⟩ := h
  rcases h with ⟨rfl, rfl⟩ | ⟨g, cap, cur, rfl, _⟩
  · exact ⟨none, 0, rfl⟩
  · exact ⟨_, _, rfl⟩

theorem record_any (B sb : Nat) (n : Int) (m : Ln.Mod) (w : World) (h : Ln.StAt B w sb m) (h0 : m.base ≤ n) (h1 : n < m.base + m.recs.length) (hb0 : 0 ≤ m.base) (hn : n < 9223372036854775807) :
    Calls Try.prog 74 #[.pointer (some ⟨sb, 0, none⟩), .int .i64 n] w fun e w' => ∃ v, e = .returned v ∧ w.ownsRow B 5 1 v (Ln.recordF m n).length (Ln.u8s (Ln.recordF m n)) ∧ w = w' := by
  obtain ⟨_, v, h2, h3⟩ := h
  obtain ⟨c0, c1, c2, c3, c4, c5, c6, c7⟩ := Ln.cells8 h2
  obtain ⟨xs, ⟨hl, hx⟩, h4⟩ := h3
  have hlt := Qu.blk_lt h2
  obtain ⟨i, hi⟩ : ∃ i : Nat, (i : Int) = n - m.base := ⟨(n - m.base).toNat, by omega⟩
  have h5 := h4 i (by omega)
  rcases hx with ⟨_, h6⟩ | ⟨rb, cap, row, rfl, h6, h7, h8, h9, h10, h11⟩
  · omega
  have hc : w.cell? ⟨rb, i, none⟩ = some (xs.getD i undef) := by
    rw [Qu.blk_cell h7, ← Array.getElem?_toList]
    have := congrArg (fun l => l[i]?) h11
    simp only [List.getElem?_take] at this
    rw [if_pos (by omega)] at this
    rw [this, List.getD_eq_getElem?_getD, List.getElem?_eq_getElem (by omega)]
    rfl
  have hrec : m.recs.getD i [] = Ln.recordF m n := by unfold Ln.recordF; rw [← hi, Int.toNat_natCast]
  rw [hrec] at h5
  generalize xs.getD i undef = u at hc h5
  obtain ⟨A, cp, rfl⟩ := Ln.own_slice h5
  have H5 := Lib.hid h5
  have hrl := Qu.blk_lt h7
  have hlen : i < m.recs.length := by omega
  obtain rfl : n = m.base + i := by omega
  have hcap := h8
  clear h2 h4 h5 h7 h6 h11 h10 h9 h8 hrec hi c1 c2 c3 c4 c6 c7 hl
  have e1 : m.base + (i : Int) - m.base = i := by omega
  have hd1 : decide (i < m.recs.length) = true := by simpa using hlen
  go_enter Try.func74, Try.ntmps74
  go_wp2_with (go_at_call 58; refine (may_true _).mono ?_; rintro e w' ⟨rfl, rfl⟩)
  go_ret
  exact ⟨_, rfl, H5.out, rfl⟩

theorem sane_ok (B sb : Nat) (m : Ln.Mod) (w : World) (h : Ln.StAt B w sb m) (hs : Ln.saneF m = true) : Calls Try.prog 76 #[.pointer (some ⟨sb, 0, none⟩)] w fun e w' => e = .returned (.tuple #[]) ∧ w = w' := by
  obtain ⟨_, v, h1, _⟩ := h
  obtain ⟨_, _, _, _, _, _, c6, c7⟩ := Ln.cells8 h1
  unfold Ln.saneF at hs
  simp only [Bool.and_eq_true, Bool.not_eq_true'] at hs
  rw [hs.1] at c6
  rw [hs.2] at c7
  exact sane_yes sb w c6 c7
theorem sane_bad (B sb : Nat) (m : Ln.Mod) (w : World) (h : Ln.StAt B w sb m) (hs : Ln.saneF m = false) : Calls Try.prog 76 #[.pointer (some ⟨sb, 0, none⟩)] w fun e w' => e = .panicked [{ v := .iface 127 (.agg #[]), recovered := false }] ∧ w = w' := by
  obtain ⟨_, v, h1, _⟩ := h
  obtain ⟨_, _, _, _, _, _, c6, c7⟩ := Ln.cells8 h1
  exact sane_no sb m.failed m.closed w c6 c7 hs

theorem Ln.below_alloc (B : Nat) (w : World) (h : B ≤ w.heap.size) (o : Obj) : Below B w (w.alloc o) := (Below.refl _ _).alloc h _

theorem Ln.StAt.fail {B sb : Nat} {m : Ln.Mod} {w : World} (h : Ln.StAt B w sb m) : Ln.StAt B (w.setCell ⟨sb, 6, none⟩ (.bool true)) sb { m with failed := true } := by
  obtain ⟨h0, v, h1, h2⟩ := h
  exact Ln.StAt.set (m' := { m with failed := true }) h0 h1 h2 6 (.bool true) rfl rfl
theorem Ln.StAt.shut {B sb : Nat} {m : Ln.Mod} {w : World} (h : Ln.StAt B w sb m) : Ln.StAt B (w.setCell ⟨sb, 7, none⟩ (.bool true)) sb { m with closed := true } := by
  obtain ⟨h0, v, h1, h2⟩ := h
  exact Ln.StAt.set (m' := { m with closed := true }) h0 h1 h2 7 (.bool true) rfl rfl
theorem Ln.StAt.lim {B sb : Nat} {m : Ln.Mod} {w : World} (h : Ln.StAt B w sb m) (n : Int) : Ln.StAt B (w.setCell ⟨sb, 4, none⟩ (.int .i64 n)) sb { m with limit := n } := by
  obtain ⟨h0, v, h1, h2⟩ := h
  exact Ln.StAt.set (m' := { m with limit := n }) h0 h1 h2 4 (.int .i64 n) rfl rfl
theorem Ln.StAt.nxt {B sb : Nat} {m : Ln.Mod} {w : World} (h : Ln.StAt B w sb m) (n : Int) : Ln.StAt B (w.setCell ⟨sb, 3, none⟩ (.int .i64 n)) sb { m with next := n } := by
  obtain ⟨h0, v, h1, h2⟩ := h
  exact Ln.StAt.set (m' := { m with next := n }) h0 h1 h2 3 (.int .i64 n) rfl rfl

theorem Ln.boxed1 {B sb : Nat} {m : Ln.Mod} {w w5 : World} {o : Obj} (h : Ln.StAt B w sb m) (hB : B ≤ w.heap.size) (hw : w.alloc o = w5) : Ln.Fra B sb w w5 ∧ Ln.StAt B w5 sb m ∧ B ≤ w5.heap.size := by
  subst hw
  exact ⟨Ln.Fra.new hB _, h.below (Ln.below_alloc _ w (Nat.le_refl _) _), by simp; omega⟩
theorem Ln.boxed2 {B sb : Nat} {m : Ln.Mod} {w w5 : World} {x0 x1 x2 y0 y1 y2 : Value} {t u : TypeId} (h : Ln.StAt B w sb m) (hB : B ≤ w.heap.size) (hw : (w.alloc (.cells #[x0, x1, x2] t)).alloc (.cells #[y0, y1, y2] u) = w5) :
    Ln.Fra B sb w w5 ∧ Ln.StAt B w5 sb m ∧ w.heap.size + 2 ≤ w5.heap.size ∧ w5.cell? ⟨w.heap.size, 0, none⟩ = some x0 ∧ w5.cell? ⟨w.heap.size, 1, none⟩ = some x1 ∧ w5.cell? ⟨w.heap.size, 2, none⟩ = some x2 ∧
      w5.cell? ⟨w.heap.size + 1, 0, none⟩ = some y0 ∧ w5.cell? ⟨w.heap.size + 1, 1, none⟩ = some y1 ∧ w5.cell? ⟨w.heap.size + 1, 2, none⟩ = some y2 := by
  subst hw
  have b1 := Qu.blk_alloc (heap_alloc_new w (.cells #[x0, x1, x2] t)) (.cells #[y0, y1, y2] u)
  have b2 := heap_alloc_new (w.alloc (.cells #[x0, x1, x2] t)) (.cells #[y0, y1, y2] u)
  have e : (w.alloc (.cells #[x0, x1, x2] t)).heap.size = w.heap.size + 1 := by simp
  rw [e] at b2
  exact ⟨(Ln.Fra.new hB _).alloc (by simp; omega) _, (h.below (Ln.below_alloc _ w (Nat.le_refl _) _)).below (Ln.below_alloc _ _ (Nat.le_refl _) _), by simp, Qu.blk_cell b1 0, Qu.blk_cell b1 1, Qu.blk_cell b1 2, Qu.blk_cell b2 0, Qu.blk_cell b2 1, Qu.blk_cell b2 2⟩

set_option maxRecDepth 100000 in
theorem sync_any (B sb : Nat) (r : Ln.Res) (dv : Value) (m : Ln.Mod) (w : World) (h : Ln.StAt B w sb m) (hB : B ≤ w.heap.size) :
    Calls Try.prog 69 #[.pointer (some ⟨sb, 0, none⟩), .agg #[.int .i64 r.err, .int .i64 r.lsn, dv]] w (Ln.Did B sb w (Ln.syncF m r)) := by
  obtain ⟨err, lsn, data⟩ := r
  have HS := Lib.hid h
  obtain ⟨h0, v, h1, h2⟩ := h
  obtain ⟨c0, c1, c2, c3, c4, c5, c6, c7⟩ := Ln.cells8 h1
  have hlt := Qu.blk_lt h1
  have H1 := Lib.hid h1
  have H2 := Lib.hid h2
  clear h1 h2 c0 c1 c2 c5 c7
  unfold Ln.syncF
  simp only
  by_cases hl : lsn = 0
  · subst hl
    rw [if_pos rfl]
    by_cases he : err = 0
    · subst he
      rw [if_pos rfl]
      cases hs : Ln.saneF m with
      | false =>
        rw [if_neg (by simp)]
        have HSN := Lib.hid hs
        clear hs
        go_enter Try.func69, Try.ntmps69
        go_wp2_with (first | (go_at_call 58; first | ((with_reducible refine (may_true _).mono ?_); rintro e w' ⟨rfl, rfl⟩) | ((with_reducible refine (may_false _).mono ?_); rintro e w' ⟨rfl, rfl⟩)) | (go_at_call 76; refine (sane_bad B sb m _ (HS.out.below ((Below.refl _ _).alloc (Nat.le_refl _) _)) HSN.out).mono ?_; rintro e w' ⟨rfl, rfl⟩))
        exact ⟨rfl, Ln.Fra.new hB _, rfl⟩
      | true =>
        rw [if_pos rfl]
        have HSY := Lib.hid hs
        clear hs
        by_cases hn : m.next ≤ m.limit
        · rw [if_pos hn]
          have hd : decide (m.next ≤ m.limit) = true := by simpa using hn
          clear hn
          go_enter Try.func69, Try.ntmps69
          go_wp2_with (first | (go_at_call 58; first | ((with_reducible refine (may_true _).mono ?_); rintro e w' ⟨rfl, rfl⟩) | ((with_reducible refine (may_false _).mono ?_); rintro e w' ⟨rfl, rfl⟩)) | (go_at_call 76; refine (sane_ok B sb m _ (HS.out.below ((Below.refl _ _).alloc (Nat.le_refl _) _)) HSY.out).mono ?_; rintro e w' ⟨rfl, rfl⟩))
          generalize hw5 : w.alloc (Obj.cells #[Value.int IntKind.i64 0, Value.int IntKind.i64 0, dv] 64) = w5
          obtain ⟨hb5, hs5, hz5⟩ := Ln.boxed1 HS.out hB hw5
          obtain ⟨_, v5, h15, _⟩ := id hs5
          obtain ⟨_, _, _, k3, k4, _⟩ := Ln.cells8 h15
          have HS5 := Lib.hid hs5
          have HB5 := Lib.hid hb5
          clear hw5 hs5 h15 hb5
          go_still_tail 11, (by kernel_rfl)
          go_wp2_with (first | (go_at_call 58; first | ((with_reducible refine (may_true _).mono ?_); rintro e w' ⟨rfl, rfl⟩) | ((with_reducible refine (may_false _).mono ?_); rintro e w' ⟨rfl, rfl⟩)) | (go_at_call 76; refine (sane_ok B sb m _ (HS.out.below ((Below.refl _ _).alloc (Nat.le_refl _) _)) HSY.out).mono ?_; rintro e w' ⟨rfl, rfl⟩))
          go_end0
          exact ⟨HB5.out.drew, rfl, HS5.out⟩
        · rw [if_neg hn]
          have hd : decide (m.next ≤ m.limit) = false := by simpa using hn
          clear hn
          go_enter Try.func69, Try.ntmps69
          go_wp2_with (first | (go_at_call 58; first | ((with_reducible refine (may_true _).mono ?_); rintro e w' ⟨rfl, rfl⟩) | ((with_reducible refine (may_false _).mono ?_); rintro e w' ⟨rfl, rfl⟩)) | (go_at_call 76; refine (sane_ok B sb m _ (HS.out.below ((Below.refl _ _).alloc (Nat.le_refl _) _)) HSY.out).mono ?_; rintro e w' ⟨rfl, rfl⟩))
          generalize hw5 : w.alloc (Obj.cells #[Value.int IntKind.i64 0, Value.int IntKind.i64 0, dv] 64) = w5
          obtain ⟨hb5, hs5, hz5⟩ := Ln.boxed1 HS.out hB hw5
          obtain ⟨_, v5, h15, _⟩ := id hs5
          obtain ⟨_, _, _, k3, k4, _⟩ := Ln.cells8 h15
          have HS5 := Lib.hid hs5
          have HB5 := Lib.hid hb5
          clear hw5 hs5 h15 hb5
          go_still_tail 11, (by kernel_rfl)
          go_wp2_with (go_at_call 58; first | ((with_reducible refine (may_true _).mono ?_); rintro e w' ⟨rfl, rfl⟩) | ((with_reducible refine (may_false _).mono ?_); rintro e w' ⟨rfl, rfl⟩))
          exact ⟨rfl, HB5.out.drew, rfl⟩
    · rw [if_neg he]
      have hd : (err == 0) = false := beq_eq_false_iff_ne.2 he
      by_cases h4 : err = 40
      · subst h4
        rw [if_pos rfl]
        have f6 := Qu.blk_frozen H1.out 6
        clear he hd
        go_enter Try.func69, Try.ntmps69
        go_wp2_with (first | (go_at_call 58; first | ((with_reducible refine (may_true _).mono ?_); rintro e w' ⟨rfl, rfl⟩) | ((with_reducible refine (may_false _).mono ?_); rintro e w' ⟨rfl, rfl⟩)))
        go_end0
        exact ⟨((Ln.Fra.refl _ _ _).set h0 _ _).alloc (by simpa using hB) _, rfl, HS.out.fail.below (Ln.below_alloc _ _ (Nat.le_refl _) _)⟩
      · rw [if_neg h4]
        have hd4 : (err == 40) = false := beq_eq_false_iff_ne.2 h4
        clear he h4
        go_enter Try.func69, Try.ntmps69
        go_wp2_with (first | (go_at_call 58; first | ((with_reducible refine (may_true _).mono ?_); rintro e w' ⟨rfl, rfl⟩) | ((with_reducible refine (may_false _).mono ?_); rintro e w' ⟨rfl, rfl⟩)))
        exact ⟨rfl, Ln.Fra.new hB _, rfl⟩
  · rw [if_neg hl]
    have hd : (lsn == 0) = false := beq_eq_false_iff_ne.2 hl
    clear hl
    go_enter Try.func69, Try.ntmps69
    go_wp2_with (first | (go_at_call 58; first | ((with_reducible refine (may_true _).mono ?_); rintro e w' ⟨rfl, rfl⟩) | ((with_reducible refine (may_false _).mono ?_); rintro e w' ⟨rfl, rfl⟩)))
    exact ⟨rfl, Ln.Fra.new hB _, rfl⟩

theorem close_any (B sb : Nat) (r : Ln.Res) (dv : Value) (m : Ln.Mod) (w : World) (h : Ln.StAt B w sb m) (hB : B ≤ w.heap.size) :
    Calls Try.prog 70 #[.pointer (some ⟨sb, 0, none⟩), .agg #[.int .i64 r.err, .int .i64 r.lsn, dv]] w (Ln.Did B sb w (Ln.closeF m r)) := by
  have HC := fun (w5 : World) (h5 : Ln.StAt B w5 sb m) (hB5 : B ≤ w5.heap.size) => sync_any B sb r dv m w5 h5 hB5
  have HS := Lib.hid h
  have h0 := h.1
  have hlt : sb < w.heap.size := by obtain ⟨_, v, h1, _⟩ := h; exact Qu.blk_lt h1
  unfold Ln.closeF
  clear h
  cases hr : Ln.syncF m r with
  | none =>
    rw [hr] at HC
    have HCC := Lib.hid HC
    clear HC hr
    go_enter Try.func70, Try.ntmps70
    go_wp2_with fail
    refine (HCC.out _ (HS.out.below (Ln.below_alloc _ w (Nat.le_refl _) _)) (by simp; omega)).mono ?_
    intro e w1 hd
    obtain ⟨rfl, hb⟩ := hd.none
    go_wp2
    exact ⟨rfl, (Ln.Fra.new hB _).trans hb, rfl⟩
  | some t =>
    rw [hr] at HC
    have HCC := Lib.hid HC
    clear HC hr
    go_enter Try.func70, Try.ntmps70
    go_wp2_with fail
    refine (HCC.out _ (HS.out.below (Ln.below_alloc _ w (Nat.le_refl _) _)) (by simp; omega)).mono ?_
    intro e w1 hd
    obtain ⟨rfl, hb, hs⟩ := hd.some
    clear hd
    have HS1 := Lib.hid hs
    obtain ⟨_, v1, h1, h2⟩ := hs
    have f7 := Qu.blk_frozen h1 7
    have c7 := (Ln.cells8 h1).2.2.2.2.2.2.2
    have hlt1 := Qu.blk_lt h1
    clear h1 h2
    go_wp2
    go_end0
    exact ⟨((Ln.Fra.new hB _).trans hb).set h0 _ _, rfl, HS1.out.shut⟩

end Go.Proofs.Ytgdeoodihhcdjaa
