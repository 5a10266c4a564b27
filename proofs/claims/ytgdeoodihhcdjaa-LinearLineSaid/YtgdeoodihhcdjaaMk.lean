/- The contract of read, the other results; and whole. -/
import Derived.Test.YtgdeoodihhcdjaaMj
namespace Go.Proofs.Ytgdeoodihhcdjaa
open Go.RowKit
set_option linter.unusedVariables false
set_option linter.unusedSimpArgs false


set_option maxHeartbeats 1000000 in
set_option maxRecDepth 100000 in
theorem read_lsn (B sb : Nat) (ck clsn err rlsn : Int) (d : List UInt8) (cd rd : Value) (rdata : List UInt8) (m : Ln.Mod) (w : World) (h : Ln.StAt B w sb m) (hB : B ≤ w.heap.size) (hc : Ln.Rd w cd (Ln.u8s d)) (hr : Ln.Rd w rd (Ln.u8s rdata)) (hlen : m.recs.length ≤ 1000) (hn0 : 0 ≤ m.next) (he : err ≠ 0) (hl : rlsn ≠ 0) :
    Calls Try.prog 66 #[.pointer (some ⟨sb, 0, none⟩), .agg #[.int .i64 ck, .int .i64 clsn, cd], .agg #[.int .i64 err, .int .i64 rlsn, rd]] w (Ln.Did B sb w none) := by
  have HS := Lib.hid h
  have HC := Lib.hid hc
  have HR := Lib.hid hr
  obtain ⟨h0, v, h1, h2⟩ := h
  obtain ⟨c0, c1, c2, c3, c4, c5, c6, c7⟩ := Ln.cells8 h1
  have f6 := Qu.blk_frozen h1 6
  have hlt := Qu.blk_lt h1
  have H1 := Lib.hid h1
  clear h1 h2 hc hr c0 c5
  have a0 : (err == 0) = false := beq_eq_false_iff_ne.2 he
  have a1 : (rlsn == 0) = false := beq_eq_false_iff_ne.2 hl
  clear he hl
  go_enter Try.func66, Try.ntmps66
  go_wp2_with (go_at_call 58; first | ((with_reducible refine (may_true _).mono ?_); rintro e w' ⟨rfl, rfl⟩) | ((with_reducible refine (may_false _).mono ?_); rintro e w' ⟨rfl, rfl⟩))
  exact ⟨rfl, (Ln.Fra.new hB _).alloc (by simp; omega) _, rfl⟩

set_option maxHeartbeats 1000000 in
set_option maxRecDepth 100000 in
theorem read_e43 (B sb : Nat) (ck clsn : Int) (d : List UInt8) (cd rd : Value) (rdata : List UInt8) (m : Ln.Mod) (w : World) (h : Ln.StAt B w sb m) (hB : B ≤ w.heap.size) (hc : Ln.Rd w cd (Ln.u8s d)) (hr : Ln.Rd w rd (Ln.u8s rdata)) (hlen : m.recs.length ≤ 1000) (hn0 : 0 ≤ m.next) :
    Calls Try.prog 66 #[.pointer (some ⟨sb, 0, none⟩), .agg #[.int .i64 ck, .int .i64 clsn, cd], .agg #[.int .i64 43, .int .i64 0, rd]] w (Ln.Did B sb w (if clsn < m.first then some m else none)) := by
  have HS := Lib.hid h
  have HC := Lib.hid hc
  have HR := Lib.hid hr
  obtain ⟨h0, v, h1, h2⟩ := h
  obtain ⟨c0, c1, c2, c3, c4, c5, c6, c7⟩ := Ln.cells8 h1
  have f6 := Qu.blk_frozen h1 6
  have hlt := Qu.blk_lt h1
  have H1 := Lib.hid h1
  clear h1 h2 hc hr c0 c5
  by_cases g : clsn < m.first
  · rw [if_pos g]
    have e : decide (clsn < m.first) = true := decide_eq_true g
    go_enter Try.func66, Try.ntmps66
    go_wp2_with (go_at_call 58; first | ((with_reducible refine (may_true _).mono ?_); rintro e w' ⟨rfl, rfl⟩) | ((with_reducible refine (may_false _).mono ?_); rintro e w' ⟨rfl, rfl⟩))
    refine bodyPost_ret (results_none rfl _ _ _) rfl ?_
    exact ⟨(Ln.Fra.new hB _).alloc (by simp; omega) _, rfl, (HS.out.below (Ln.below_alloc _ _ (Nat.le_refl _) _)).below (Ln.below_alloc _ _ (Nat.le_refl _) _)⟩
  · rw [if_neg g]
    have e : decide (clsn < m.first) = false := decide_eq_false g
    have g' : m.first ≤ clsn := by omega
    clear g
    go_enter Try.func66, Try.ntmps66
    go_wp2_with (go_at_call 58; first | ((with_reducible refine (may_true _).mono ?_); rintro e w' ⟨rfl, rfl⟩) | ((with_reducible refine (may_false _).mono ?_); rintro e w' ⟨rfl, rfl⟩))
    exact ⟨rfl, (Ln.Fra.new hB _).alloc (by simp; omega) _, rfl⟩

set_option maxHeartbeats 1000000 in
set_option maxRecDepth 100000 in
theorem read_e22 (B sb : Nat) (ck clsn : Int) (d : List UInt8) (cd rd : Value) (rdata : List UInt8) (m : Ln.Mod) (w : World) (h : Ln.StAt B w sb m) (hB : B ≤ w.heap.size) (hc : Ln.Rd w cd (Ln.u8s d)) (hr : Ln.Rd w rd (Ln.u8s rdata)) (hlen : m.recs.length ≤ 1000) (hn0 : 0 ≤ m.next) :
    Calls Try.prog 66 #[.pointer (some ⟨sb, 0, none⟩), .agg #[.int .i64 ck, .int .i64 clsn, cd], .agg #[.int .i64 22, .int .i64 0, rd]] w (Ln.Did B sb w (if m.first ≤ clsn ∧ clsn < m.next then some m else none)) := by
  have HS := Lib.hid h
  have HC := Lib.hid hc
  have HR := Lib.hid hr
  obtain ⟨h0, v, h1, h2⟩ := h
  obtain ⟨c0, c1, c2, c3, c4, c5, c6, c7⟩ := Ln.cells8 h1
  have f6 := Qu.blk_frozen h1 6
  have hlt := Qu.blk_lt h1
  have H1 := Lib.hid h1
  clear h1 h2 hc hr c0 c5
  by_cases g1 : m.first ≤ clsn
  · by_cases g2 : clsn < m.next
    · rw [if_pos ⟨g1, g2⟩]
      have e1 : decide (m.first ≤ clsn) = true := decide_eq_true g1
      have e2 : decide (clsn < m.next) = true := decide_eq_true g2
      go_enter Try.func66, Try.ntmps66
      go_wp2_with (go_at_call 58; first | ((with_reducible refine (may_true _).mono ?_); rintro e w' ⟨rfl, rfl⟩) | ((with_reducible refine (may_false _).mono ?_); rintro e w' ⟨rfl, rfl⟩))
      refine bodyPost_ret (results_none rfl _ _ _) rfl ?_
      exact ⟨(Ln.Fra.new hB _).alloc (by simp; omega) _, rfl, (HS.out.below (Ln.below_alloc _ _ (Nat.le_refl _) _)).below (Ln.below_alloc _ _ (Nat.le_refl _) _)⟩
    · rw [if_neg (fun h => g2 h.2)]
      have e1 : decide (m.first ≤ clsn) = true := decide_eq_true g1
      have e2 : decide (clsn < m.next) = false := decide_eq_false g2
      have g2' : m.next ≤ clsn := by omega
      clear g2
      go_enter Try.func66, Try.ntmps66
      go_wp2_with (go_at_call 58; first | ((with_reducible refine (may_true _).mono ?_); rintro e w' ⟨rfl, rfl⟩) | ((with_reducible refine (may_false _).mono ?_); rintro e w' ⟨rfl, rfl⟩))
      exact ⟨rfl, (Ln.Fra.new hB _).alloc (by simp; omega) _, rfl⟩
  · rw [if_neg (fun h => g1 h.1)]
    have e1 : decide (m.first ≤ clsn) = false := decide_eq_false g1
    have g1' : clsn < m.first := by omega
    clear g1
    go_enter Try.func66, Try.ntmps66
    go_wp2_with (go_at_call 58; first | ((with_reducible refine (may_true _).mono ?_); rintro e w' ⟨rfl, rfl⟩) | ((with_reducible refine (may_false _).mono ?_); rintro e w' ⟨rfl, rfl⟩))
    exact ⟨rfl, (Ln.Fra.new hB _).alloc (by simp; omega) _, rfl⟩

set_option maxHeartbeats 1000000 in
set_option maxRecDepth 100000 in
theorem read_e42 (B sb : Nat) (clsn : Int) (d : List UInt8) (cd rd : Value) (rdata : List UInt8) (m : Ln.Mod) (w : World) (h : Ln.StAt B w sb m) (hB : B ≤ w.heap.size) (hc : Ln.Rd w cd (Ln.u8s d)) (hr : Ln.Rd w rd (Ln.u8s rdata)) (hlen : m.recs.length ≤ 1000) (hn0 : 0 ≤ m.next) :
    Calls Try.prog 66 #[.pointer (some ⟨sb, 0, none⟩), .agg #[.int .i64 4, .int .i64 clsn, cd], .agg #[.int .i64 42, .int .i64 0, rd]] w (Ln.Did B sb w (if m.durable ≤ clsn ∧ m.first ≤ clsn then some m else none)) := by
  have HS := Lib.hid h
  have HC := Lib.hid hc
  have HR := Lib.hid hr
  obtain ⟨h0, v, h1, h2⟩ := h
  obtain ⟨c0, c1, c2, c3, c4, c5, c6, c7⟩ := Ln.cells8 h1
  have f6 := Qu.blk_frozen h1 6
  have hlt := Qu.blk_lt h1
  have H1 := Lib.hid h1
  clear h1 h2 hc hr c0 c5
  by_cases g1 : m.durable ≤ clsn
  · by_cases g2 : m.first ≤ clsn
    · rw [if_pos ⟨g1, g2⟩]
      have e1 : decide (m.durable ≤ clsn) = true := decide_eq_true g1
      have e2 : decide (m.first ≤ clsn) = true := decide_eq_true g2
      go_enter Try.func66, Try.ntmps66
      go_wp2_with (go_at_call 58; first | ((with_reducible refine (may_true _).mono ?_); rintro e w' ⟨rfl, rfl⟩) | ((with_reducible refine (may_false _).mono ?_); rintro e w' ⟨rfl, rfl⟩))
      refine bodyPost_ret (results_none rfl _ _ _) rfl ?_
      exact ⟨(Ln.Fra.new hB _).alloc (by simp; omega) _, rfl, (HS.out.below (Ln.below_alloc _ _ (Nat.le_refl _) _)).below (Ln.below_alloc _ _ (Nat.le_refl _) _)⟩
    · rw [if_neg (fun h => g2 h.2)]
      have e1 : decide (m.durable ≤ clsn) = true := decide_eq_true g1
      have e2 : decide (m.first ≤ clsn) = false := decide_eq_false g2
      have g2' : clsn < m.first := by omega
      clear g2
      go_enter Try.func66, Try.ntmps66
      go_wp2_with (go_at_call 58; first | ((with_reducible refine (may_true _).mono ?_); rintro e w' ⟨rfl, rfl⟩) | ((with_reducible refine (may_false _).mono ?_); rintro e w' ⟨rfl, rfl⟩))
      exact ⟨rfl, (Ln.Fra.new hB _).alloc (by simp; omega) _, rfl⟩
  · rw [if_neg (fun h => g1 h.1)]
    have e1 : decide (m.durable ≤ clsn) = false := decide_eq_false g1
    have g1' : clsn < m.durable := by omega
    clear g1
    go_enter Try.func66, Try.ntmps66
    go_wp2_with (go_at_call 58; first | ((with_reducible refine (may_true _).mono ?_); rintro e w' ⟨rfl, rfl⟩) | ((with_reducible refine (may_false _).mono ?_); rintro e w' ⟨rfl, rfl⟩))
    exact ⟨rfl, (Ln.Fra.new hB _).alloc (by simp; omega) _, rfl⟩

set_option maxHeartbeats 1000000 in
set_option maxRecDepth 100000 in
theorem read_e40 (B sb : Nat) (clsn : Int) (d : List UInt8) (cd rd : Value) (rdata : List UInt8) (m : Ln.Mod) (w : World) (h : Ln.StAt B w sb m) (hB : B ≤ w.heap.size) (hc : Ln.Rd w cd (Ln.u8s d)) (hr : Ln.Rd w rd (Ln.u8s rdata)) (hlen : m.recs.length ≤ 1000) (hn0 : 0 ≤ m.next) :
    Calls Try.prog 66 #[.pointer (some ⟨sb, 0, none⟩), .agg #[.int .i64 5, .int .i64 clsn, cd], .agg #[.int .i64 40, .int .i64 0, rd]] w (Ln.Did B sb w (if m.durable ≤ clsn then some { m with failed := true } else none)) := by
  have HS := Lib.hid h
  have HC := Lib.hid hc
  have HR := Lib.hid hr
  obtain ⟨h0, v, h1, h2⟩ := h
  obtain ⟨c0, c1, c2, c3, c4, c5, c6, c7⟩ := Ln.cells8 h1
  have f6 := Qu.blk_frozen h1 6
  have hlt := Qu.blk_lt h1
  have H1 := Lib.hid h1
  clear h1 h2 hc hr c0 c5
  by_cases g : m.durable ≤ clsn
  · rw [if_pos g]
    have e : decide (m.durable ≤ clsn) = true := decide_eq_true g
    go_enter Try.func66, Try.ntmps66
    go_wp2_with (go_at_call 58; first | ((with_reducible refine (may_true _).mono ?_); rintro e w' ⟨rfl, rfl⟩) | ((with_reducible refine (may_false _).mono ?_); rintro e w' ⟨rfl, rfl⟩))
    refine bodyPost_ret (results_none rfl _ _ _) rfl ?_
    exact ⟨(((Ln.Fra.refl _ _ _).set h0 _ _).alloc (by simpa using hB) _).alloc (by simp; omega) _, rfl, (HS.out.fail.below (Ln.below_alloc _ _ (Nat.le_refl _) _)).below (Ln.below_alloc _ _ (Nat.le_refl _) _)⟩
  · rw [if_neg g]
    have e : decide (m.durable ≤ clsn) = false := decide_eq_false g
    have g' : clsn < m.durable := by omega
    clear g
    go_enter Try.func66, Try.ntmps66
    go_wp2_with (go_at_call 58; first | ((with_reducible refine (may_true _).mono ?_); rintro e w' ⟨rfl, rfl⟩) | ((with_reducible refine (may_false _).mono ?_); rintro e w' ⟨rfl, rfl⟩))
    exact ⟨rfl, (Ln.Fra.new hB _).alloc (by simp; omega) _, rfl⟩

set_option maxHeartbeats 1000000 in
set_option maxRecDepth 100000 in
theorem read_else (B sb : Nat) (ck clsn err : Int) (d : List UInt8) (cd rd : Value) (rdata : List UInt8) (m : Ln.Mod) (w : World) (h : Ln.StAt B w sb m) (hB : B ≤ w.heap.size) (hc : Ln.Rd w cd (Ln.u8s d)) (hr : Ln.Rd w rd (Ln.u8s rdata)) (hlen : m.recs.length ≤ 1000) (hn0 : 0 ≤ m.next) (e0 : err ≠ 0) (e43 : err ≠ 43) (e22 : err ≠ 22) (e42 : ¬ (err = 42 ∧ ck = 4)) (e40 : ¬ (err = 40 ∧ ck = 5)) :
    Calls Try.prog 66 #[.pointer (some ⟨sb, 0, none⟩), .agg #[.int .i64 ck, .int .i64 clsn, cd], .agg #[.int .i64 err, .int .i64 0, rd]] w (Ln.Did B sb w none) := by
  have HS := Lib.hid h
  have HC := Lib.hid hc
  have HR := Lib.hid hr
  obtain ⟨h0, v, h1, h2⟩ := h
  obtain ⟨c0, c1, c2, c3, c4, c5, c6, c7⟩ := Ln.cells8 h1
  have f6 := Qu.blk_frozen h1 6
  have hlt := Qu.blk_lt h1
  have H1 := Lib.hid h1
  clear h1 h2 hc hr c0 c5
  have a0 : (err == 0) = false := beq_eq_false_iff_ne.2 e0
  have a43 : (err == 43) = false := beq_eq_false_iff_ne.2 e43
  have a22 : (err == 22) = false := beq_eq_false_iff_ne.2 e22
  clear e0 e43 e22
  by_cases g42 : err = 42
  · subst g42
    have a4 : (ck == 4) = false := beq_eq_false_iff_ne.2 (fun h => e42 ⟨rfl, h⟩)
    clear e42 e40
    go_enter Try.func66, Try.ntmps66
    go_wp2_with (go_at_call 58; first | ((with_reducible refine (may_true _).mono ?_); rintro e w' ⟨rfl, rfl⟩) | ((with_reducible refine (may_false _).mono ?_); rintro e w' ⟨rfl, rfl⟩))
    exact ⟨rfl, (Ln.Fra.new hB _).alloc (by simp; omega) _, rfl⟩
  · have a42 : (err == 42) = false := beq_eq_false_iff_ne.2 g42
    clear g42 e42
    by_cases g40 : err = 40
    · subst g40
      have a5 : (ck == 5) = false := beq_eq_false_iff_ne.2 (fun h => e40 ⟨rfl, h⟩)
      clear e40
      go_enter Try.func66, Try.ntmps66
      go_wp2_with (go_at_call 58; first | ((with_reducible refine (may_true _).mono ?_); rintro e w' ⟨rfl, rfl⟩) | ((with_reducible refine (may_false _).mono ?_); rintro e w' ⟨rfl, rfl⟩))
      exact ⟨rfl, (Ln.Fra.new hB _).alloc (by simp; omega) _, rfl⟩
    · have a40 : (err == 40) = false := beq_eq_false_iff_ne.2 g40
      clear g40 e40
      go_enter Try.func66, Try.ntmps66
      go_wp2_with (go_at_call 58; first | ((with_reducible refine (may_true _).mono ?_); rintro e w' ⟨rfl, rfl⟩) | ((with_reducible refine (may_false _).mono ?_); rintro e w' ⟨rfl, rfl⟩))
      exact ⟨rfl, (Ln.Fra.new hB _).alloc (by simp; omega) _, rfl⟩

theorem read_any (B sb : Nat) (c : Ln.Call) (r : Ln.Res) (cd rd : Value) (m : Ln.Mod) (w : World) (h : Ln.StAt B w sb m) (hB : B ≤ w.heap.size) (hc : Ln.Rd w cd (Ln.u8s c.data)) (hr : Ln.Rd w rd (Ln.u8s r.data)) (hlen : m.recs.length ≤ 1000) (hn0 : 0 ≤ m.next)
    (hw0 : 0 ≤ m.base) (hw1 : m.base ≤ m.first) (hw2 : m.next = m.base + m.recs.length) (hw3 : m.next ≤ 9223372036854775807) :
    Calls Try.prog 66 #[.pointer (some ⟨sb, 0, none⟩), .agg #[.int .i64 c.kind, .int .i64 c.lsn, cd], .agg #[.int .i64 r.err, .int .i64 r.lsn, rd]] w (Ln.Did B sb w (Ln.readF m c r)) := by
  obtain ⟨ck, clsn, d⟩ := c
  obtain ⟨err, rlsn, rdata⟩ := r
  unfold Ln.readF
  dsimp only at hc hr ⊢
  by_cases e0 : err = 0
  · subst e0
    rw [if_pos rfl]
    exact read_ok B sb ck clsn rlsn d cd rd rdata m w h hB hc hr hlen hn0 hw0 hw1 hw2 hw3
  · rw [if_neg e0]
    by_cases g : rlsn = 0
    · subst g
      rw [if_pos rfl]
      by_cases e43 : err = 43
      · subst e43
        rw [if_pos rfl]
        exact read_e43 B sb ck clsn d cd rd rdata m w h hB hc hr hlen hn0
      · rw [if_neg e43]
        by_cases e22 : err = 22
        · subst e22
          rw [if_pos rfl]
          exact read_e22 B sb ck clsn d cd rd rdata m w h hB hc hr hlen hn0
        · rw [if_neg e22]
          by_cases e42 : err = 42 ∧ ck = 4
          · rw [if_pos e42]
            obtain ⟨rfl, rfl⟩ := e42
            exact read_e42 B sb clsn d cd rd rdata m w h hB hc hr hlen hn0
          · rw [if_neg e42]
            by_cases e40 : err = 40 ∧ ck = 5
            · rw [if_pos e40]
              obtain ⟨rfl, rfl⟩ := e40
              exact read_e40 B sb clsn d cd rd rdata m w h hB hc hr hlen hn0
            · rw [if_neg e40]
              exact read_else B sb ck clsn err d cd rd rdata m w h hB hc hr hlen hn0 e0 e43 e22 e42 e40
    · rw [if_neg g]
      exact read_lsn B sb ck clsn err rlsn d cd rd rdata m w h hB hc hr hlen hn0 e0 g

end Go.Proofs.Ytgdeoodihhcdjaa
