/- The contract of truncate. -/
import Derived.Test.YtgdeoodihhcdjaaMg
namespace Go.Proofs.Ytgdeoodihhcdjaa
open Go.RowKit
set_option linter.unusedVariables false
set_option linter.unusedSimpArgs false


set_option maxHeartbeats 1000000 in
set_option maxRecDepth 100000 in
theorem trunc_fail (B sb : Nat) (ck clsn rlsn : Int) (d : List UInt8) (cd rd : Value) (rdata : List UInt8) (m : Ln.Mod) (w : World) (h : Ln.StAt B w sb m) (hB : B ≤ w.heap.size) (hc : Ln.Rd w cd (Ln.u8s d)) (hr : Ln.Rd w rd (Ln.u8s rdata)) (hlen : m.recs.length ≤ 1000) (hn0 : 0 ≤ m.next) :
    Calls Try.prog 68 #[.pointer (some ⟨sb, 0, none⟩), .agg #[.int .i64 ck, .int .i64 clsn, cd], .agg #[.int .i64 40, .int .i64 rlsn, rd]] w (Ln.Did B sb w (if rlsn = 0 then some { m with failed := true } else if rlsn = clsn ∧ m.first < clsn then (Ln.frontF m clsn).map fun t => { t with failed := true } else none)) := by
  have HS := Lib.hid h
  have HC := Lib.hid hc
  have HR := Lib.hid hr
  obtain ⟨h0, v, h1, h2⟩ := h
  obtain ⟨c0, c1, c2, c3, c4, c5, c6, c7⟩ := Ln.cells8 h1
  have f6 := Qu.blk_frozen h1 6
  have hlt := Qu.blk_lt h1
  have H1 := Lib.hid h1
  clear h1 h2 hc hr c0 c5
  by_cases g : rlsn = 0
  · subst g
    rw [if_pos rfl]
    go_enter Try.func68, Try.ntmps68
    go_wp2_with fail
    refine bodyPost_ret (results_none rfl _ _ _) rfl ?_
    exact ⟨(((Ln.Fra.refl _ _ _).set h0 _ _).alloc (by simpa using hB) _).alloc (by simp; omega) _, rfl, (HS.out.fail.below (Ln.below_alloc _ _ (Nat.le_refl _) _)).below (Ln.below_alloc _ _ (Nat.le_refl _) _)⟩
  · rw [if_neg g]
    have e0 : (rlsn != 0) = true := bne_iff_ne.2 g
    clear g
    by_cases g1 : rlsn = clsn
    · subst g1
      by_cases g2 : m.first < rlsn
      · rw [if_pos ⟨rfl, g2⟩]
        have e2 : decide (m.first < rlsn) = true := decide_eq_true g2
        have HF := fun (w5 : World) (h5 : Ln.StAt B w5 sb m) => front_any B sb rlsn m w5 h5
        have HFF := Lib.hid HF
        clear HF
        go_enter Try.func68, Try.ntmps68
        go_wp2_with (go_at_call 58; first | ((with_reducible refine (may_true _).mono ?_); rintro e w' ⟨rfl, rfl⟩) | ((with_reducible refine (may_false _).mono ?_); rintro e w' ⟨rfl, rfl⟩))
        refine (HFF.out _ ((HS.out.below (Ln.below_alloc _ _ (Nat.le_refl _) _)).below (Ln.below_alloc _ _ (Nat.le_refl _) _))).mono ?_
        intro e w6 hd
        cases ho : Ln.frontF m rlsn with
        | none =>
          rw [ho] at hd
          obtain ⟨rfl, hb⟩ := hd.none
          have HO := Lib.hid ho
          clear hd ho
          go_wp2
          exact ⟨rfl, ((Ln.Fra.new hB _).alloc (by simp; omega) _).trans hb, by first | rfl | (rw [HO.out]; rfl)⟩
        | some t =>
          rw [ho] at hd
          obtain ⟨rfl, hb6, hs6⟩ := hd.some
          have HO := Lib.hid ho
          obtain ⟨_, v6, h16, _⟩ := id hs6
          obtain ⟨j0, j1, j2, j3, j4, j5, j6, j7⟩ := Ln.cells8 h16
          have jf6 := Qu.blk_frozen h16 6
          have hlt6 := Qu.blk_lt h16
          have HS6 := Lib.hid hs6
          have HB6 := Lib.hid hb6
          clear hd ho hs6 hb6 h16 j0 j1 j2 j3 j4 j5 j7
          go_wp2_with fail
          refine bodyPost_ret (results_none rfl _ _ _) rfl ?_
          exact ⟨(((Ln.Fra.new hB _).alloc (by simp; omega) _).trans HB6.out).set h0 _ _, by first | exact ⟨rfl, HS6.out.fail⟩ | (rw [HO.out]; exact ⟨rfl, HS6.out.fail⟩)⟩
      · rw [if_neg (fun h => g2 h.2)]
        have e2 : decide (m.first < rlsn) = false := decide_eq_false g2
        have g3 : rlsn ≤ m.first := by omega
        clear g2
        go_enter Try.func68, Try.ntmps68
        go_wp2_with (go_at_call 58; first | ((with_reducible refine (may_true _).mono ?_); rintro e w' ⟨rfl, rfl⟩) | ((with_reducible refine (may_false _).mono ?_); rintro e w' ⟨rfl, rfl⟩))
        exact ⟨rfl, (Ln.Fra.new hB _).alloc (by simp; omega) _, rfl⟩
    · rw [if_neg (fun h => g1 h.1)]
      have e1 : (rlsn == clsn) = false := beq_eq_false_iff_ne.2 g1
      clear g1
      go_enter Try.func68, Try.ntmps68
      go_wp2_with (go_at_call 58; first | ((with_reducible refine (may_true _).mono ?_); rintro e w' ⟨rfl, rfl⟩) | ((with_reducible refine (may_false _).mono ?_); rintro e w' ⟨rfl, rfl⟩))
      exact ⟨rfl, (Ln.Fra.new hB _).alloc (by simp; omega) _, rfl⟩

set_option maxHeartbeats 1000000 in
set_option maxRecDepth 100000 in
theorem trunc_bad (B sb : Nat) (ck clsn err rlsn : Int) (d : List UInt8) (cd rd : Value) (rdata : List UInt8) (m : Ln.Mod) (w : World) (h : Ln.StAt B w sb m) (hB : B ≤ w.heap.size) (hc : Ln.Rd w cd (Ln.u8s d)) (hr : Ln.Rd w rd (Ln.u8s rdata)) (hlen : m.recs.length ≤ 1000) (hn0 : 0 ≤ m.next) (he : err ≠ 40) (hs : Ln.saneF m = false ∨ rlsn ≠ 0) :
    Calls Try.prog 68 #[.pointer (some ⟨sb, 0, none⟩), .agg #[.int .i64 ck, .int .i64 clsn, cd], .agg #[.int .i64 err, .int .i64 rlsn, rd]] w (Ln.Did B sb w none) := by
  have HS := Lib.hid h
  have HC := Lib.hid hc
  have HR := Lib.hid hr
  obtain ⟨h0, v, h1, h2⟩ := h
  obtain ⟨c0, c1, c2, c3, c4, c5, c6, c7⟩ := Ln.cells8 h1
  have f6 := Qu.blk_frozen h1 6
  have hlt := Qu.blk_lt h1
  have H1 := Lib.hid h1
  clear h1 h2 hc hr c0 c5
  have a40 : (err == 40) = false := beq_eq_false_iff_ne.2 he
  clear he
  cases hs1 : Ln.saneF m with
  | false =>
    have HSN := Lib.hid hs1
    clear hs hs1
    go_enter Try.func68, Try.ntmps68
    go_wp2_with (go_at_call 76; refine (sane_bad B sb m _ ((HS.out.below (Ln.below_alloc _ _ (Nat.le_refl _) _)).below (Ln.below_alloc _ _ (Nat.le_refl _) _)) HSN.out).mono ?_; rintro e w' ⟨rfl, rfl⟩)
    exact ⟨rfl, (Ln.Fra.new hB _).alloc (by simp; omega) _, rfl⟩
  | true =>
    have HSY := Lib.hid hs1
    have e0 : (rlsn == 0) = false := beq_eq_false_iff_ne.2 (hs.resolve_left (by rw [hs1]; simp))
    clear hs hs1
    go_enter Try.func68, Try.ntmps68
    go_wp2_with (first | (go_at_call 58; first | ((with_reducible refine (may_true _).mono ?_); rintro e w' ⟨rfl, rfl⟩) | ((with_reducible refine (may_false _).mono ?_); rintro e w' ⟨rfl, rfl⟩)) | (go_at_call 76; refine (sane_ok B sb m _ ((HS.out.below (Ln.below_alloc _ _ (Nat.le_refl _) _)).below (Ln.below_alloc _ _ (Nat.le_refl _) _)) HSY.out).mono ?_; rintro e w' ⟨rfl, rfl⟩))
    exact ⟨rfl, (Ln.Fra.new hB _).alloc (by simp; omega) _, rfl⟩

set_option maxHeartbeats 1000000 in
set_option maxRecDepth 100000 in
theorem trunc_ok (B sb : Nat) (ck clsn : Int) (d : List UInt8) (cd rd : Value) (rdata : List UInt8) (m : Ln.Mod) (w : World) (h : Ln.StAt B w sb m) (hB : B ≤ w.heap.size) (hc : Ln.Rd w cd (Ln.u8s d)) (hr : Ln.Rd w rd (Ln.u8s rdata)) (hlen : m.recs.length ≤ 1000) (hn0 : 0 ≤ m.next) (hs : Ln.saneF m = true) :
    Calls Try.prog 68 #[.pointer (some ⟨sb, 0, none⟩), .agg #[.int .i64 ck, .int .i64 clsn, cd], .agg #[.int .i64 0, .int .i64 0, rd]] w (Ln.Did B sb w (if m.first < clsn then Ln.frontF m clsn else some m)) := by
  have HS := Lib.hid h
  have HC := Lib.hid hc
  have HR := Lib.hid hr
  obtain ⟨h0, v, h1, h2⟩ := h
  obtain ⟨c0, c1, c2, c3, c4, c5, c6, c7⟩ := Ln.cells8 h1
  have f6 := Qu.blk_frozen h1 6
  have hlt := Qu.blk_lt h1
  have H1 := Lib.hid h1
  clear h1 h2 hc hr c0 c5
  have HSY := Lib.hid hs
  clear hs
  by_cases g2 : m.first < clsn
  · rw [if_pos g2]
    have e2 : decide (m.first < clsn) = true := decide_eq_true g2
    have HF := fun (w5 : World) (h5 : Ln.StAt B w5 sb m) => front_any B sb clsn m w5 h5
    have HFF := Lib.hid HF
    clear HF
    go_enter Try.func68, Try.ntmps68
    go_wp2_with (first | (go_at_call 58; first | ((with_reducible refine (may_true _).mono ?_); rintro e w' ⟨rfl, rfl⟩) | ((with_reducible refine (may_false _).mono ?_); rintro e w' ⟨rfl, rfl⟩)) | (go_at_call 76; refine (sane_ok B sb m _ ((HS.out.below (Ln.below_alloc _ _ (Nat.le_refl _) _)).below (Ln.below_alloc _ _ (Nat.le_refl _) _)) HSY.out).mono ?_; rintro e w' ⟨rfl, rfl⟩))
    refine (HFF.out _ ((HS.out.below (Ln.below_alloc _ _ (Nat.le_refl _) _)).below (Ln.below_alloc _ _ (Nat.le_refl _) _))).mono ?_
    intro e w6 hd
    cases ho : Ln.frontF m clsn with
    | none =>
      rw [ho] at hd
      obtain ⟨rfl, hb⟩ := hd.none
      have HO := Lib.hid ho
      clear hd ho
      go_wp2
      exact ⟨rfl, ((Ln.Fra.new hB _).alloc (by simp; omega) _).trans hb, by first | rfl | (rw [HO.out]; rfl)⟩
    | some t =>
      rw [ho] at hd
      obtain ⟨rfl, hb6, hs6⟩ := hd.some
      have HO := Lib.hid ho
      have HS6 := Lib.hid hs6
      have HB6 := Lib.hid hb6
      clear hd ho hs6 hb6
      go_wp2_with fail
      refine bodyPost_ret (results_none rfl _ _ _) rfl ?_
      exact ⟨((Ln.Fra.new hB _).alloc (by simp; omega) _).trans HB6.out, by first | exact ⟨rfl, HS6.out⟩ | (rw [HO.out]; exact ⟨rfl, HS6.out⟩)⟩
  · rw [if_neg g2]
    have g3 : clsn ≤ m.first := by omega
    have e2 : decide (m.first < clsn) = false := decide_eq_false g2
    clear g2
    go_enter Try.func68, Try.ntmps68
    go_wp2_with (first | (go_at_call 58; first | ((with_reducible refine (may_true _).mono ?_); rintro e w' ⟨rfl, rfl⟩) | ((with_reducible refine (may_false _).mono ?_); rintro e w' ⟨rfl, rfl⟩)) | (go_at_call 76; refine (sane_ok B sb m _ ((HS.out.below (Ln.below_alloc _ _ (Nat.le_refl _) _)).below (Ln.below_alloc _ _ (Nat.le_refl _) _)) HSY.out).mono ?_; rintro e w' ⟨rfl, rfl⟩))
    refine bodyPost_ret (results_none rfl _ _ _) rfl ?_
    exact ⟨(Ln.Fra.new hB _).alloc (by simp; omega) _, rfl, (HS.out.below (Ln.below_alloc _ _ (Nat.le_refl _) _)).below (Ln.below_alloc _ _ (Nat.le_refl _) _)⟩

set_option maxHeartbeats 1000000 in
set_option maxRecDepth 100000 in
theorem trunc_e8 (B sb : Nat) (ck clsn : Int) (d : List UInt8) (cd rd : Value) (rdata : List UInt8) (m : Ln.Mod) (w : World) (h : Ln.StAt B w sb m) (hB : B ≤ w.heap.size) (hc : Ln.Rd w cd (Ln.u8s d)) (hr : Ln.Rd w rd (Ln.u8s rdata)) (hlen : m.recs.length ≤ 1000) (hn0 : 0 ≤ m.next) (hs : Ln.saneF m = true) :
    Calls Try.prog 68 #[.pointer (some ⟨sb, 0, none⟩), .agg #[.int .i64 ck, .int .i64 clsn, cd], .agg #[.int .i64 8, .int .i64 0, rd]] w (Ln.Did B sb w (if m.durable < clsn ∧ m.first < clsn then some m else none)) := by
  have HS := Lib.hid h
  have HC := Lib.hid hc
  have HR := Lib.hid hr
  obtain ⟨h0, v, h1, h2⟩ := h
  obtain ⟨c0, c1, c2, c3, c4, c5, c6, c7⟩ := Ln.cells8 h1
  have f6 := Qu.blk_frozen h1 6
  have hlt := Qu.blk_lt h1
  have H1 := Lib.hid h1
  clear h1 h2 hc hr c0 c5
  have HSY := Lib.hid hs
  clear hs
  by_cases g1 : m.durable < clsn
  · by_cases g2 : m.first < clsn
    · rw [if_pos ⟨g1, g2⟩]
      have e1 : decide (m.durable < clsn) = true := decide_eq_true g1
      have e2 : decide (m.first < clsn) = true := decide_eq_true g2
      go_enter Try.func68, Try.ntmps68
      go_wp2_with (first | (go_at_call 58; first | ((with_reducible refine (may_true _).mono ?_); rintro e w' ⟨rfl, rfl⟩) | ((with_reducible refine (may_false _).mono ?_); rintro e w' ⟨rfl, rfl⟩)) | (go_at_call 76; refine (sane_ok B sb m _ ((HS.out.below (Ln.below_alloc _ _ (Nat.le_refl _) _)).below (Ln.below_alloc _ _ (Nat.le_refl _) _)) HSY.out).mono ?_; rintro e w' ⟨rfl, rfl⟩))
      refine bodyPost_ret (results_none rfl _ _ _) rfl ?_
      exact ⟨(Ln.Fra.new hB _).alloc (by simp; omega) _, rfl, (HS.out.below (Ln.below_alloc _ _ (Nat.le_refl _) _)).below (Ln.below_alloc _ _ (Nat.le_refl _) _)⟩
    · rw [if_neg (fun h => g2 h.2)]
      have e2 : decide (m.first < clsn) = false := decide_eq_false g2
      have g3 : clsn ≤ m.first := by omega
      clear g2
      go_enter Try.func68, Try.ntmps68
      go_wp2_with (first | (go_at_call 58; first | ((with_reducible refine (may_true _).mono ?_); rintro e w' ⟨rfl, rfl⟩) | ((with_reducible refine (may_false _).mono ?_); rintro e w' ⟨rfl, rfl⟩)) | (go_at_call 76; refine (sane_ok B sb m _ ((HS.out.below (Ln.below_alloc _ _ (Nat.le_refl _) _)).below (Ln.below_alloc _ _ (Nat.le_refl _) _)) HSY.out).mono ?_; rintro e w' ⟨rfl, rfl⟩))
      exact ⟨rfl, (Ln.Fra.new hB _).alloc (by simp; omega) _, rfl⟩
  · rw [if_neg (fun h => g1 h.1)]
    have e2 : decide (m.durable < clsn) = false := decide_eq_false g1
    have g3 : clsn ≤ m.durable := by omega
    clear g1
    go_enter Try.func68, Try.ntmps68
    go_wp2_with (first | (go_at_call 58; first | ((with_reducible refine (may_true _).mono ?_); rintro e w' ⟨rfl, rfl⟩) | ((with_reducible refine (may_false _).mono ?_); rintro e w' ⟨rfl, rfl⟩)) | (go_at_call 76; refine (sane_ok B sb m _ ((HS.out.below (Ln.below_alloc _ _ (Nat.le_refl _) _)).below (Ln.below_alloc _ _ (Nat.le_refl _) _)) HSY.out).mono ?_; rintro e w' ⟨rfl, rfl⟩))
    exact ⟨rfl, (Ln.Fra.new hB _).alloc (by simp; omega) _, rfl⟩

set_option maxHeartbeats 1000000 in
set_option maxRecDepth 100000 in
theorem trunc_e9 (B sb : Nat) (ck clsn : Int) (d : List UInt8) (cd rd : Value) (rdata : List UInt8) (m : Ln.Mod) (w : World) (h : Ln.StAt B w sb m) (hB : B ≤ w.heap.size) (hc : Ln.Rd w cd (Ln.u8s d)) (hr : Ln.Rd w rd (Ln.u8s rdata)) (hlen : m.recs.length ≤ 1000) (hn0 : 0 ≤ m.next) (hs : Ln.saneF m = true) :
    Calls Try.prog 68 #[.pointer (some ⟨sb, 0, none⟩), .agg #[.int .i64 ck, .int .i64 clsn, cd], .agg #[.int .i64 9, .int .i64 0, rd]] w (Ln.Did B sb w (some m)) := by
  have HS := Lib.hid h
  have HC := Lib.hid hc
  have HR := Lib.hid hr
  obtain ⟨h0, v, h1, h2⟩ := h
  obtain ⟨c0, c1, c2, c3, c4, c5, c6, c7⟩ := Ln.cells8 h1
  have f6 := Qu.blk_frozen h1 6
  have hlt := Qu.blk_lt h1
  have H1 := Lib.hid h1
  clear h1 h2 hc hr c0 c5
  have HSY := Lib.hid hs
  clear hs
  go_enter Try.func68, Try.ntmps68
  go_wp2_with (first | (go_at_call 58; first | ((with_reducible refine (may_true _).mono ?_); rintro e w' ⟨rfl, rfl⟩) | ((with_reducible refine (may_false _).mono ?_); rintro e w' ⟨rfl, rfl⟩)) | (go_at_call 76; refine (sane_ok B sb m _ ((HS.out.below (Ln.below_alloc _ _ (Nat.le_refl _) _)).below (Ln.below_alloc _ _ (Nat.le_refl _) _)) HSY.out).mono ?_; rintro e w' ⟨rfl, rfl⟩))
  refine bodyPost_ret (results_none rfl _ _ _) rfl ?_
  exact ⟨(Ln.Fra.new hB _).alloc (by simp; omega) _, rfl, (HS.out.below (Ln.below_alloc _ _ (Nat.le_refl _) _)).below (Ln.below_alloc _ _ (Nat.le_refl _) _)⟩

set_option maxHeartbeats 1000000 in
set_option maxRecDepth 100000 in
theorem trunc_else (B sb : Nat) (ck clsn err : Int) (d : List UInt8) (cd rd : Value) (rdata : List UInt8) (m : Ln.Mod) (w : World) (h : Ln.StAt B w sb m) (hB : B ≤ w.heap.size) (hc : Ln.Rd w cd (Ln.u8s d)) (hr : Ln.Rd w rd (Ln.u8s rdata)) (hlen : m.recs.length ≤ 1000) (hn0 : 0 ≤ m.next) (hs : Ln.saneF m = true) (e40 : err ≠ 40) (e0 : err ≠ 0) (e8 : err ≠ 8) (e9 : err ≠ 9) :
    Calls Try.prog 68 #[.pointer (some ⟨sb, 0, none⟩), .agg #[.int .i64 ck, .int .i64 clsn, cd], .agg #[.int .i64 err, .int .i64 0, rd]] w (Ln.Did B sb w none) := by
  have HS := Lib.hid h
  have HC := Lib.hid hc
  have HR := Lib.hid hr
  obtain ⟨h0, v, h1, h2⟩ := h
  obtain ⟨c0, c1, c2, c3, c4, c5, c6, c7⟩ := Ln.cells8 h1
  have f6 := Qu.blk_frozen h1 6
  have hlt := Qu.blk_lt h1
  have H1 := Lib.hid h1
  clear h1 h2 hc hr c0 c5
  have HSY := Lib.hid hs
  have a0 : (err == 0) = false := beq_eq_false_iff_ne.2 e0
  have a40 : (err == 40) = false := beq_eq_false_iff_ne.2 e40
  have a8 : (err == 8) = false := beq_eq_false_iff_ne.2 e8
  have a9 : (err == 9) = false := beq_eq_false_iff_ne.2 e9
  clear hs e40 e0 e8 e9
  go_enter Try.func68, Try.ntmps68
  go_wp2_with (first | (go_at_call 58; first | ((with_reducible refine (may_true _).mono ?_); rintro e w' ⟨rfl, rfl⟩) | ((with_reducible refine (may_false _).mono ?_); rintro e w' ⟨rfl, rfl⟩)) | (go_at_call 76; refine (sane_ok B sb m _ ((HS.out.below (Ln.below_alloc _ _ (Nat.le_refl _) _)).below (Ln.below_alloc _ _ (Nat.le_refl _) _)) HSY.out).mono ?_; rintro e w' ⟨rfl, rfl⟩))
  exact ⟨rfl, (Ln.Fra.new hB _).alloc (by simp; omega) _, rfl⟩

theorem trunc_any (B sb : Nat) (c : Ln.Call) (r : Ln.Res) (cd rd : Value) (m : Ln.Mod) (w : World) (h : Ln.StAt B w sb m) (hB : B ≤ w.heap.size) (hc : Ln.Rd w cd (Ln.u8s c.data)) (hr : Ln.Rd w rd (Ln.u8s r.data)) (hlen : m.recs.length ≤ 1000) (hn0 : 0 ≤ m.next) :
    Calls Try.prog 68 #[.pointer (some ⟨sb, 0, none⟩), .agg #[.int .i64 c.kind, .int .i64 c.lsn, cd], .agg #[.int .i64 r.err, .int .i64 r.lsn, rd]] w (Ln.Did B sb w (Ln.truncF m c r)) := by
  obtain ⟨ck, clsn, d⟩ := c
  obtain ⟨err, rlsn, rdata⟩ := r
  unfold Ln.truncF
  dsimp only at hc hr ⊢
  by_cases e40 : err = 40
  · subst e40
    rw [if_pos rfl]
    exact trunc_fail B sb ck clsn rlsn d cd rd rdata m w h hB hc hr hlen hn0
  · rw [if_neg e40]
    cases hs : Ln.saneF m with
    | false =>
      rw [if_neg (by simp)]
      exact trunc_bad B sb ck clsn err rlsn d cd rd rdata m w h hB hc hr hlen hn0 e40 (.inl hs)
    | true =>
      rw [if_pos rfl]
      by_cases g : rlsn = 0
      · subst g
        rw [if_pos rfl]
        by_cases e0 : err = 0
        · subst e0
          rw [if_pos rfl]
          exact trunc_ok B sb ck clsn d cd rd rdata m w h hB hc hr hlen hn0 hs
        · rw [if_neg e0]
          by_cases e8 : err = 8
          · subst e8
            rw [if_pos rfl]
            exact trunc_e8 B sb ck clsn d cd rd rdata m w h hB hc hr hlen hn0 hs
          · rw [if_neg e8]
            by_cases e9 : err = 9
            · subst e9
              rw [if_pos rfl]
              exact trunc_e9 B sb ck clsn d cd rd rdata m w h hB hc hr hlen hn0 hs
            · rw [if_neg e9]
              exact trunc_else B sb ck clsn err d cd rd rdata m w h hB hc hr hlen hn0 hs e40 e0 e8 e9
      · rw [if_neg g]
        exact trunc_bad B sb ck clsn err rlsn d cd rd rdata m w h hB hc hr hlen hn0 e40 (.inr g)

end Go.Proofs.Ytgdeoodihhcdjaa
