/- The contract of append, the other results; and whole. -/
import Derived.Test.YtgdeoodihhcdjaaMf
namespace Go.Proofs.Ytgdeoodihhcdjaa
open Go.RowKit
set_option linter.unusedVariables false
set_option linter.unusedSimpArgs false


set_option maxHeartbeats 1000000 in
set_option maxRecDepth 100000 in
theorem append_e3 (B sb : Nat) (ck clsn rlsn : Int) (d : List UInt8) (cd rd : Value) (rdata : List UInt8) (m : Ln.Mod) (w : World) (h : Ln.StAt B w sb m) (hB : B ≤ w.heap.size) (hc : Ln.Rd w cd (Ln.u8s d)) (hr : Ln.Rd w rd (Ln.u8s rdata)) (hlen : m.recs.length ≤ 1000) (hn0 : 0 ≤ m.next) :
    Calls Try.prog 67 #[.pointer (some ⟨sb, 0, none⟩), .agg #[.int .i64 ck, .int .i64 clsn, cd], .agg #[.int .i64 3, .int .i64 rlsn, rd]] w (Ln.Did B sb w (if Ln.saneF m = true then (if rlsn = 0 ∧ ((3 : Int) ≠ 44 ∨ m.next = 9223372036854775807) then some m else none) else none)) := by
  have HS := Lib.hid h
  have HC := Lib.hid hc
  have HR := Lib.hid hr
  obtain ⟨h0, v, h1, h2⟩ := h
  obtain ⟨c0, c1, c2, c3, c4, c5, c6, c7⟩ := Ln.cells8 h1
  have f6 := Qu.blk_frozen h1 6
  have hlt := Qu.blk_lt h1
  have H1 := Lib.hid h1
  clear h1 h2 hc hr c0 c5
  cases hs : Ln.saneF m with
  | false =>
    rw [if_neg (by simp)]
    have HSN := Lib.hid hs
    clear hs
    go_enter Try.func67, Try.ntmps67
    go_wp2_with (go_at_call 76; refine (sane_bad B sb m _ ((HS.out.below (Ln.below_alloc _ _ (Nat.le_refl _) _)).below (Ln.below_alloc _ _ (Nat.le_refl _) _)) HSN.out).mono ?_; rintro e w' ⟨rfl, rfl⟩)
    exact ⟨rfl, (Ln.Fra.new hB _).alloc (by simp; omega) _, rfl⟩
  | true =>
    rw [if_pos rfl]
    have HSY := Lib.hid hs
    clear hs
    by_cases g : rlsn = 0
    · subst g
      rw [if_pos ⟨rfl, .inl (by decide)⟩]
      go_enter Try.func67, Try.ntmps67
      go_wp2_with (first | (go_at_call 58; first | ((with_reducible refine (may_true _).mono ?_); rintro e w' ⟨rfl, rfl⟩) | ((with_reducible refine (may_false _).mono ?_); rintro e w' ⟨rfl, rfl⟩)) | (go_at_call 76; refine (sane_ok B sb m _ ((HS.out.below (Ln.below_alloc _ _ (Nat.le_refl _) _)).below (Ln.below_alloc _ _ (Nat.le_refl _) _)) HSY.out).mono ?_; rintro e w' ⟨rfl, rfl⟩))
      refine bodyPost_ret (results_none rfl _ _ _) rfl ?_
      exact ⟨(Ln.Fra.new hB _).alloc (by simp; omega) _, rfl, (HS.out.below (Ln.below_alloc _ _ (Nat.le_refl _) _)).below (Ln.below_alloc _ _ (Nat.le_refl _) _)⟩
    · rw [if_neg (fun h => g h.1)]
      have e0 : (rlsn == 0) = false := beq_eq_false_iff_ne.2 g
      clear g
      go_enter Try.func67, Try.ntmps67
      go_wp2_with (first | (go_at_call 58; first | ((with_reducible refine (may_true _).mono ?_); rintro e w' ⟨rfl, rfl⟩) | ((with_reducible refine (may_false _).mono ?_); rintro e w' ⟨rfl, rfl⟩)) | (go_at_call 76; refine (sane_ok B sb m _ ((HS.out.below (Ln.below_alloc _ _ (Nat.le_refl _) _)).below (Ln.below_alloc _ _ (Nat.le_refl _) _)) HSY.out).mono ?_; rintro e w' ⟨rfl, rfl⟩))
      exact ⟨rfl, (Ln.Fra.new hB _).alloc (by simp; omega) _, rfl⟩

set_option maxHeartbeats 1000000 in
set_option maxRecDepth 100000 in
theorem append_e44 (B sb : Nat) (ck clsn rlsn : Int) (d : List UInt8) (cd rd : Value) (rdata : List UInt8) (m : Ln.Mod) (w : World) (h : Ln.StAt B w sb m) (hB : B ≤ w.heap.size) (hc : Ln.Rd w cd (Ln.u8s d)) (hr : Ln.Rd w rd (Ln.u8s rdata)) (hlen : m.recs.length ≤ 1000) (hn0 : 0 ≤ m.next) :
    Calls Try.prog 67 #[.pointer (some ⟨sb, 0, none⟩), .agg #[.int .i64 ck, .int .i64 clsn, cd], .agg #[.int .i64 44, .int .i64 rlsn, rd]] w (Ln.Did B sb w (if Ln.saneF m = true then (if rlsn = 0 ∧ ((44 : Int) ≠ 44 ∨ m.next = 9223372036854775807) then some m else none) else none)) := by
  have HS := Lib.hid h
  have HC := Lib.hid hc
  have HR := Lib.hid hr
  obtain ⟨h0, v, h1, h2⟩ := h
  obtain ⟨c0, c1, c2, c3, c4, c5, c6, c7⟩ := Ln.cells8 h1
  have f6 := Qu.blk_frozen h1 6
  have hlt := Qu.blk_lt h1
  have H1 := Lib.hid h1
  clear h1 h2 hc hr c0 c5
  cases hs : Ln.saneF m with
  | false =>
    rw [if_neg (by simp)]
    have HSN := Lib.hid hs
    clear hs
    go_enter Try.func67, Try.ntmps67
    go_wp2_with (go_at_call 76; refine (sane_bad B sb m _ ((HS.out.below (Ln.below_alloc _ _ (Nat.le_refl _) _)).below (Ln.below_alloc _ _ (Nat.le_refl _) _)) HSN.out).mono ?_; rintro e w' ⟨rfl, rfl⟩)
    exact ⟨rfl, (Ln.Fra.new hB _).alloc (by simp; omega) _, rfl⟩
  | true =>
    rw [if_pos rfl]
    have HSY := Lib.hid hs
    clear hs
    by_cases g : rlsn = 0
    · subst g
      by_cases g1 : m.next = 9223372036854775807
      · rw [if_pos ⟨rfl, .inr g1⟩]
        have e1 : (m.next == 9223372036854775807) = true := beq_iff_eq.2 g1
        clear g1
        go_enter Try.func67, Try.ntmps67
        go_wp2_with (first | (go_at_call 58; first | ((with_reducible refine (may_true _).mono ?_); rintro e w' ⟨rfl, rfl⟩) | ((with_reducible refine (may_false _).mono ?_); rintro e w' ⟨rfl, rfl⟩)) | (go_at_call 76; refine (sane_ok B sb m _ ((HS.out.below (Ln.below_alloc _ _ (Nat.le_refl _) _)).below (Ln.below_alloc _ _ (Nat.le_refl _) _)) HSY.out).mono ?_; rintro e w' ⟨rfl, rfl⟩))
        refine bodyPost_ret (results_none rfl _ _ _) rfl ?_
        exact ⟨(Ln.Fra.new hB _).alloc (by simp; omega) _, rfl, (HS.out.below (Ln.below_alloc _ _ (Nat.le_refl _) _)).below (Ln.below_alloc _ _ (Nat.le_refl _) _)⟩
      · rw [if_neg (fun h => h.2.elim (fun h => h rfl) g1)]
        have e1 : (m.next == 9223372036854775807) = false := beq_eq_false_iff_ne.2 g1
        clear g1
        go_enter Try.func67, Try.ntmps67
        go_wp2_with (first | (go_at_call 58; first | ((with_reducible refine (may_true _).mono ?_); rintro e w' ⟨rfl, rfl⟩) | ((with_reducible refine (may_false _).mono ?_); rintro e w' ⟨rfl, rfl⟩)) | (go_at_call 76; refine (sane_ok B sb m _ ((HS.out.below (Ln.below_alloc _ _ (Nat.le_refl _) _)).below (Ln.below_alloc _ _ (Nat.le_refl _) _)) HSY.out).mono ?_; rintro e w' ⟨rfl, rfl⟩))
        exact ⟨rfl, (Ln.Fra.new hB _).alloc (by simp; omega) _, rfl⟩
    · rw [if_neg (fun h => g h.1)]
      have e0 : (rlsn == 0) = false := beq_eq_false_iff_ne.2 g
      clear g
      go_enter Try.func67, Try.ntmps67
      go_wp2_with (first | (go_at_call 58; first | ((with_reducible refine (may_true _).mono ?_); rintro e w' ⟨rfl, rfl⟩) | ((with_reducible refine (may_false _).mono ?_); rintro e w' ⟨rfl, rfl⟩)) | (go_at_call 76; refine (sane_ok B sb m _ ((HS.out.below (Ln.below_alloc _ _ (Nat.le_refl _) _)).below (Ln.below_alloc _ _ (Nat.le_refl _) _)) HSY.out).mono ?_; rintro e w' ⟨rfl, rfl⟩))
      exact ⟨rfl, (Ln.Fra.new hB _).alloc (by simp; omega) _, rfl⟩

set_option maxHeartbeats 1000000 in
set_option maxRecDepth 100000 in
theorem append_e9 (B sb : Nat) (ck clsn rlsn : Int) (d : List UInt8) (cd rd : Value) (rdata : List UInt8) (m : Ln.Mod) (w : World) (h : Ln.StAt B w sb m) (hB : B ≤ w.heap.size) (hc : Ln.Rd w cd (Ln.u8s d)) (hr : Ln.Rd w rd (Ln.u8s rdata)) (hlen : m.recs.length ≤ 1000) (hn0 : 0 ≤ m.next) :
    Calls Try.prog 67 #[.pointer (some ⟨sb, 0, none⟩), .agg #[.int .i64 ck, .int .i64 clsn, cd], .agg #[.int .i64 9, .int .i64 rlsn, rd]] w (Ln.Did B sb w (if Ln.saneF m = true then (if rlsn = 0 ∧ ((9 : Int) ≠ 44 ∨ m.next = 9223372036854775807) then some m else none) else none)) := by
  have HS := Lib.hid h
  have HC := Lib.hid hc
  have HR := Lib.hid hr
  obtain ⟨h0, v, h1, h2⟩ := h
  obtain ⟨c0, c1, c2, c3, c4, c5, c6, c7⟩ := Ln.cells8 h1
  have f6 := Qu.blk_frozen h1 6
  have hlt := Qu.blk_lt h1
  have H1 := Lib.hid h1
  clear h1 h2 hc hr c0 c5
  cases hs : Ln.saneF m with
  | false =>
    rw [if_neg (by simp)]
    have HSN := Lib.hid hs
    clear hs
    go_enter Try.func67, Try.ntmps67
    go_wp2_with (go_at_call 76; refine (sane_bad B sb m _ ((HS.out.below (Ln.below_alloc _ _ (Nat.le_refl _) _)).below (Ln.below_alloc _ _ (Nat.le_refl _) _)) HSN.out).mono ?_; rintro e w' ⟨rfl, rfl⟩)
    exact ⟨rfl, (Ln.Fra.new hB _).alloc (by simp; omega) _, rfl⟩
  | true =>
    rw [if_pos rfl]
    have HSY := Lib.hid hs
    clear hs
    by_cases g : rlsn = 0
    · subst g
      rw [if_pos ⟨rfl, .inl (by decide)⟩]
      go_enter Try.func67, Try.ntmps67
      go_wp2_with (first | (go_at_call 58; first | ((with_reducible refine (may_true _).mono ?_); rintro e w' ⟨rfl, rfl⟩) | ((with_reducible refine (may_false _).mono ?_); rintro e w' ⟨rfl, rfl⟩)) | (go_at_call 76; refine (sane_ok B sb m _ ((HS.out.below (Ln.below_alloc _ _ (Nat.le_refl _) _)).below (Ln.below_alloc _ _ (Nat.le_refl _) _)) HSY.out).mono ?_; rintro e w' ⟨rfl, rfl⟩))
      refine bodyPost_ret (results_none rfl _ _ _) rfl ?_
      exact ⟨(Ln.Fra.new hB _).alloc (by simp; omega) _, rfl, (HS.out.below (Ln.below_alloc _ _ (Nat.le_refl _) _)).below (Ln.below_alloc _ _ (Nat.le_refl _) _)⟩
    · rw [if_neg (fun h => g h.1)]
      have e0 : (rlsn == 0) = false := beq_eq_false_iff_ne.2 g
      clear g
      go_enter Try.func67, Try.ntmps67
      go_wp2_with (first | (go_at_call 58; first | ((with_reducible refine (may_true _).mono ?_); rintro e w' ⟨rfl, rfl⟩) | ((with_reducible refine (may_false _).mono ?_); rintro e w' ⟨rfl, rfl⟩)) | (go_at_call 76; refine (sane_ok B sb m _ ((HS.out.below (Ln.below_alloc _ _ (Nat.le_refl _) _)).below (Ln.below_alloc _ _ (Nat.le_refl _) _)) HSY.out).mono ?_; rintro e w' ⟨rfl, rfl⟩))
      exact ⟨rfl, (Ln.Fra.new hB _).alloc (by simp; omega) _, rfl⟩

set_option maxHeartbeats 1000000 in
set_option maxRecDepth 100000 in
theorem append_else (B sb : Nat) (ck clsn err rlsn : Int) (d : List UInt8) (cd rd : Value) (rdata : List UInt8) (m : Ln.Mod) (w : World) (h : Ln.StAt B w sb m) (hB : B ≤ w.heap.size) (hc : Ln.Rd w cd (Ln.u8s d)) (hr : Ln.Rd w rd (Ln.u8s rdata)) (hlen : m.recs.length ≤ 1000) (hn0 : 0 ≤ m.next) (e0 : err ≠ 0) (e40 : err ≠ 40) (e3 : err ≠ 3) (e44 : err ≠ 44) (e9 : err ≠ 9) :
    Calls Try.prog 67 #[.pointer (some ⟨sb, 0, none⟩), .agg #[.int .i64 ck, .int .i64 clsn, cd], .agg #[.int .i64 err, .int .i64 rlsn, rd]] w (Ln.Did B sb w none) := by
  have HS := Lib.hid h
  have HC := Lib.hid hc
  have HR := Lib.hid hr
  obtain ⟨h0, v, h1, h2⟩ := h
  obtain ⟨c0, c1, c2, c3, c4, c5, c6, c7⟩ := Ln.cells8 h1
  have f6 := Qu.blk_frozen h1 6
  have hlt := Qu.blk_lt h1
  have H1 := Lib.hid h1
  clear h1 h2 hc hr c0 c5
  have a0 : (err == 0) = false := beq_eq_false_iff_ne.2 e0
  have a40 : (err == 40) = false := beq_eq_false_iff_ne.2 e40
  have a3 : (err == 3) = false := beq_eq_false_iff_ne.2 e3
  have a44 : (err == 44) = false := beq_eq_false_iff_ne.2 e44
  have a9 : (err == 9) = false := beq_eq_false_iff_ne.2 e9
  clear e0 e40 e3 e44 e9
  go_enter Try.func67, Try.ntmps67
  go_wp2_with (go_at_call 58; first | ((with_reducible refine (may_true _).mono ?_); rintro e w' ⟨rfl, rfl⟩) | ((with_reducible refine (may_false _).mono ?_); rintro e w' ⟨rfl, rfl⟩))
  exact ⟨rfl, (Ln.Fra.new hB _).alloc (by simp; omega) _, rfl⟩

theorem append_any (B sb : Nat) (c : Ln.Call) (r : Ln.Res) (cd rd : Value) (m : Ln.Mod) (w : World) (h : Ln.StAt B w sb m) (hB : B ≤ w.heap.size) (hc : Ln.Rd w cd (Ln.u8s c.data)) (hr : Ln.Rd w rd (Ln.u8s r.data)) (hlen : m.recs.length ≤ 1000) (hn0 : 0 ≤ m.next) :
    Calls Try.prog 67 #[.pointer (some ⟨sb, 0, none⟩), .agg #[.int .i64 c.kind, .int .i64 c.lsn, cd], .agg #[.int .i64 r.err, .int .i64 r.lsn, rd]] w (Ln.Did B sb w (Ln.appendF m c r)) := by
  obtain ⟨ck, clsn, d⟩ := c
  obtain ⟨err, rlsn, rdata⟩ := r
  unfold Ln.appendF
  dsimp only at hc hr ⊢
  by_cases e0 : err = 0
  · subst e0
    rw [if_pos rfl]
    exact append_ok B sb ck clsn rlsn d cd rd rdata m w h hB hc hr hlen hn0
  · rw [if_neg e0]
    by_cases e40 : err = 40
    · subst e40
      rw [if_pos rfl]
      exact append_fail B sb ck clsn rlsn d cd rd rdata m w h hB hc hr hlen hn0
    · rw [if_neg e40]
      by_cases e3 : err = 3
      · subst e3
        rw [if_pos (.inl rfl)]
        exact append_e3 B sb ck clsn rlsn d cd rd rdata m w h hB hc hr hlen hn0
      · by_cases e44 : err = 44
        · subst e44
          rw [if_pos (.inr (.inl rfl))]
          exact append_e44 B sb ck clsn rlsn d cd rd rdata m w h hB hc hr hlen hn0
        · by_cases e9 : err = 9
          · subst e9
            rw [if_pos (.inr (.inr rfl))]
            exact append_e9 B sb ck clsn rlsn d cd rd rdata m w h hB hc hr hlen hn0
          · rw [if_neg (by omega)]
            exact append_else B sb ck clsn err rlsn d cd rd rdata m w h hB hc hr hlen hn0 e0 e40 e3 e44 e9

end Go.Proofs.Ytgdeoodihhcdjaa
