/- The contract of answer. -/
import Derived.Test.YtgdeoodihhcdjaaMk
namespace Go.Proofs.Ytgdeoodihhcdjaa
open Go.RowKit
set_option linter.unusedVariables false
set_option linter.unusedSimpArgs false


set_option maxHeartbeats 1000000 in
set_option maxRecDepth 100000 in
theorem ans4_n0 (B sb : Nat) (clsn err rlsn : Int) (d : List UInt8) (cd : Value) (A : Option Addr) (n cp : Nat) (rdata : List UInt8) (m : Ln.Mod) (w : World) (h : Ln.StAt B w sb m) (hB : B ≤ w.heap.size) (hc : Ln.Rd w cd (Ln.u8s d)) (hr : Ln.Rd w (.slice A 0 cp) (Ln.u8s rdata)) (o : Option Ln.Mod) (HCAL : Hid (∀ w5, Ln.StAt B w5 sb m → B ≤ w5.heap.size → Ln.Rd w5 cd (Ln.u8s d) → Ln.Rd w5 (.slice A 0 cp) (Ln.u8s rdata) → Calls Try.prog 66 #[.pointer (some ⟨sb, 0, none⟩), .agg #[.int .i64 4, .int .i64 clsn, cd], .agg #[.int .i64 err, .int .i64 rlsn, .slice A 0 cp]] w5 (Ln.Did B sb w5 o))) :
    Calls Try.prog 59 #[.pointer (some ⟨sb, 0, none⟩), .agg #[.int .i64 4, .int .i64 clsn, cd], .agg #[.int .i64 err, .int .i64 rlsn, .slice A 0 cp]] w (Ln.Did B sb w o) := by
  have HS := Lib.hid h
  have HC := Lib.hid hc
  have HR := Lib.hid hr
  obtain ⟨h0, v, h1, h2⟩ := h
  obtain ⟨c0, c1, c2, c3, c4, c5, c6, c7⟩ := Ln.cells8 h1
  have f6 := Qu.blk_frozen h1 6
  have hlt := Qu.blk_lt h1
  have H1 := Lib.hid h1
  clear h1 h2 hc hr c0 c5
  go_enter Try.func59, Try.ntmps59
  go_wp2_with (go_at_call 58; first | ((with_reducible refine (may_true _).mono ?_); rintro e w' ⟨rfl, rfl⟩) | ((with_reducible refine (may_false _).mono ?_); rintro e w' ⟨rfl, rfl⟩))
  refine (HCAL.out _ ((HS.out.below (Ln.below_alloc _ _ (Nat.le_refl _) _)).below (Ln.below_alloc _ _ (Nat.le_refl _) _)) (by simp; omega) (HC.out.keep ((Ln.below_alloc _ w (Nat.le_refl _) _).alloc (by simp) _)) (HR.out.keep ((Ln.below_alloc _ w (Nat.le_refl _) _).alloc (by simp) _))).mono ?_
  intro e w6 hd
  cases o with
  | none =>
    obtain ⟨rfl, hb⟩ := hd.none
    clear hd
    go_wp2
    exact ⟨rfl, ((Ln.Fra.new hB _).alloc (by simp; omega) _).trans hb, rfl⟩
  | some t =>
    obtain ⟨rfl, hb6, hs6⟩ := hd.some
    have HS6 := Lib.hid hs6
    have HB6 := Lib.hid hb6
    clear hd hs6 hb6
    go_wp2_with fail
    refine bodyPost_ret (results_none rfl _ _ _) rfl ?_
    exact ⟨((Ln.Fra.new hB _).alloc (by simp; omega) _).trans HB6.out, rfl, HS6.out⟩

set_option maxHeartbeats 1000000 in
set_option maxRecDepth 100000 in
theorem ans4_e0 (B sb : Nat) (clsn rlsn : Int) (d : List UInt8) (cd : Value) (A : Option Addr) (n cp : Nat) (rdata : List UInt8) (m : Ln.Mod) (w : World) (h : Ln.StAt B w sb m) (hB : B ≤ w.heap.size) (hc : Ln.Rd w cd (Ln.u8s d)) (hr : Ln.Rd w (.slice A n cp) (Ln.u8s rdata)) (hn : n ≠ 0) (o : Option Ln.Mod) (HCAL : Hid (∀ w5, Ln.StAt B w5 sb m → B ≤ w5.heap.size → Ln.Rd w5 cd (Ln.u8s d) → Ln.Rd w5 (.slice A n cp) (Ln.u8s rdata) → Calls Try.prog 66 #[.pointer (some ⟨sb, 0, none⟩), .agg #[.int .i64 4, .int .i64 clsn, cd], .agg #[.int .i64 0, .int .i64 rlsn, .slice A n cp]] w5 (Ln.Did B sb w5 o))) :
    Calls Try.prog 59 #[.pointer (some ⟨sb, 0, none⟩), .agg #[.int .i64 4, .int .i64 clsn, cd], .agg #[.int .i64 0, .int .i64 rlsn, .slice A n cp]] w (Ln.Did B sb w o) := by
  have HS := Lib.hid h
  have HC := Lib.hid hc
  have HR := Lib.hid hr
  obtain ⟨h0, v, h1, h2⟩ := h
  obtain ⟨c0, c1, c2, c3, c4, c5, c6, c7⟩ := Ln.cells8 h1
  have f6 := Qu.blk_frozen h1 6
  have hlt := Qu.blk_lt h1
  have H1 := Lib.hid h1
  clear h1 h2 hc hr c0 c5
  have en : ((n : Int) == 0) = false := beq_eq_false_iff_ne.2 (by omega)
  have en' : (n == 0) = false := beq_eq_false_iff_ne.2 hn
  clear hn
  go_enter Try.func59, Try.ntmps59
  go_wp2_with (go_at_call 58; first | ((with_reducible refine (may_true _).mono ?_); rintro e w' ⟨rfl, rfl⟩) | ((with_reducible refine (may_false _).mono ?_); rintro e w' ⟨rfl, rfl⟩))
  refine (HCAL.out _ ((HS.out.below (Ln.below_alloc _ _ (Nat.le_refl _) _)).below (Ln.below_alloc _ _ (Nat.le_refl _) _)) (by simp; omega) (HC.out.keep ((Ln.below_alloc _ w (Nat.le_refl _) _).alloc (by simp) _)) (HR.out.keep ((Ln.below_alloc _ w (Nat.le_refl _) _).alloc (by simp) _))).mono ?_
  intro e w6 hd
  cases o with
  | none =>
    obtain ⟨rfl, hb⟩ := hd.none
    clear hd
    go_wp2
    exact ⟨rfl, ((Ln.Fra.new hB _).alloc (by simp; omega) _).trans hb, rfl⟩
  | some t =>
    obtain ⟨rfl, hb6, hs6⟩ := hd.some
    have HS6 := Lib.hid hs6
    have HB6 := Lib.hid hb6
    clear hd hs6 hb6
    go_wp2_with fail
    refine bodyPost_ret (results_none rfl _ _ _) rfl ?_
    exact ⟨((Ln.Fra.new hB _).alloc (by simp; omega) _).trans HB6.out, rfl, HS6.out⟩

set_option maxHeartbeats 1000000 in
set_option maxRecDepth 100000 in
theorem ans4_bad (B sb : Nat) (clsn err rlsn : Int) (d : List UInt8) (cd : Value) (A : Option Addr) (n cp : Nat) (rdata : List UInt8) (m : Ln.Mod) (w : World) (h : Ln.StAt B w sb m) (hB : B ≤ w.heap.size) (hc : Ln.Rd w cd (Ln.u8s d)) (hr : Ln.Rd w (.slice A n cp) (Ln.u8s rdata)) (hn : n ≠ 0) (he : err ≠ 0) :
    Calls Try.prog 59 #[.pointer (some ⟨sb, 0, none⟩), .agg #[.int .i64 4, .int .i64 clsn, cd], .agg #[.int .i64 err, .int .i64 rlsn, .slice A n cp]] w (Ln.Did B sb w none) := by
  have HS := Lib.hid h
  have HC := Lib.hid hc
  have HR := Lib.hid hr
  obtain ⟨h0, v, h1, h2⟩ := h
  obtain ⟨c0, c1, c2, c3, c4, c5, c6, c7⟩ := Ln.cells8 h1
  have f6 := Qu.blk_frozen h1 6
  have hlt := Qu.blk_lt h1
  have H1 := Lib.hid h1
  clear h1 h2 hc hr c0 c5
  have en : ((n : Int) == 0) = false := beq_eq_false_iff_ne.2 (by omega)
  have en' : (n == 0) = false := beq_eq_false_iff_ne.2 hn
  clear hn
  have ee : (err == 0) = false := beq_eq_false_iff_ne.2 he
  clear he
  go_enter Try.func59, Try.ntmps59
  go_wp2_with (go_at_call 58; first | ((with_reducible refine (may_true _).mono ?_); rintro e w' ⟨rfl, rfl⟩) | ((with_reducible refine (may_false _).mono ?_); rintro e w' ⟨rfl, rfl⟩))
  exact ⟨rfl, (Ln.Fra.new hB _).alloc (by simp; omega) _, rfl⟩

set_option maxHeartbeats 1000000 in
set_option maxRecDepth 100000 in
theorem ans5_n0 (B sb : Nat) (clsn err rlsn : Int) (d : List UInt8) (cd : Value) (A : Option Addr) (n cp : Nat) (rdata : List UInt8) (m : Ln.Mod) (w : World) (h : Ln.StAt B w sb m) (hB : B ≤ w.heap.size) (hc : Ln.Rd w cd (Ln.u8s d)) (hr : Ln.Rd w (.slice A 0 cp) (Ln.u8s rdata)) (o : Option Ln.Mod) (HCAL : Hid (∀ w5, Ln.StAt B w5 sb m → B ≤ w5.heap.size → Ln.Rd w5 cd (Ln.u8s d) → Ln.Rd w5 (.slice A 0 cp) (Ln.u8s rdata) → Calls Try.prog 66 #[.pointer (some ⟨sb, 0, none⟩), .agg #[.int .i64 5, .int .i64 clsn, cd], .agg #[.int .i64 err, .int .i64 rlsn, .slice A 0 cp]] w5 (Ln.Did B sb w5 o))) :
    Calls Try.prog 59 #[.pointer (some ⟨sb, 0, none⟩), .agg #[.int .i64 5, .int .i64 clsn, cd], .agg #[.int .i64 err, .int .i64 rlsn, .slice A 0 cp]] w (Ln.Did B sb w o) := by
  have HS := Lib.hid h
  have HC := Lib.hid hc
  have HR := Lib.hid hr
  obtain ⟨h0, v, h1, h2⟩ := h
  obtain ⟨c0, c1, c2, c3, c4, c5, c6, c7⟩ := Ln.cells8 h1
  have f6 := Qu.blk_frozen h1 6
  have hlt := Qu.blk_lt h1
  have H1 := Lib.hid h1
  clear h1 h2 hc hr c0 c5
  go_enter Try.func59, Try.ntmps59
  go_wp2_with (go_at_call 58; first | ((with_reducible refine (may_true _).mono ?_); rintro e w' ⟨rfl, rfl⟩) | ((with_reducible refine (may_false _).mono ?_); rintro e w' ⟨rfl, rfl⟩))
  refine (HCAL.out _ ((HS.out.below (Ln.below_alloc _ _ (Nat.le_refl _) _)).below (Ln.below_alloc _ _ (Nat.le_refl _) _)) (by simp; omega) (HC.out.keep ((Ln.below_alloc _ w (Nat.le_refl _) _).alloc (by simp) _)) (HR.out.keep ((Ln.below_alloc _ w (Nat.le_refl _) _).alloc (by simp) _))).mono ?_
  intro e w6 hd
  cases o with
  | none =>
    obtain ⟨rfl, hb⟩ := hd.none
    clear hd
    go_wp2
    exact ⟨rfl, ((Ln.Fra.new hB _).alloc (by simp; omega) _).trans hb, rfl⟩
  | some t =>
    obtain ⟨rfl, hb6, hs6⟩ := hd.some
    have HS6 := Lib.hid hs6
    have HB6 := Lib.hid hb6
    clear hd hs6 hb6
    go_wp2_with fail
    refine bodyPost_ret (results_none rfl _ _ _) rfl ?_
    exact ⟨((Ln.Fra.new hB _).alloc (by simp; omega) _).trans HB6.out, rfl, HS6.out⟩

set_option maxHeartbeats 1000000 in
set_option maxRecDepth 100000 in
theorem ans5_e0 (B sb : Nat) (clsn rlsn : Int) (d : List UInt8) (cd : Value) (A : Option Addr) (n cp : Nat) (rdata : List UInt8) (m : Ln.Mod) (w : World) (h : Ln.StAt B w sb m) (hB : B ≤ w.heap.size) (hc : Ln.Rd w cd (Ln.u8s d)) (hr : Ln.Rd w (.slice A n cp) (Ln.u8s rdata)) (hn : n ≠ 0) (o : Option Ln.Mod) (HCAL : Hid (∀ w5, Ln.StAt B w5 sb m → B ≤ w5.heap.size → Ln.Rd w5 cd (Ln.u8s d) → Ln.Rd w5 (.slice A n cp) (Ln.u8s rdata) → Calls Try.prog 66 #[.pointer (some ⟨sb, 0, none⟩), .agg #[.int .i64 5, .int .i64 clsn, cd], .agg #[.int .i64 0, .int .i64 rlsn, .slice A n cp]] w5 (Ln.Did B sb w5 o))) :
    Calls Try.prog 59 #[.pointer (some ⟨sb, 0, none⟩), .agg #[.int .i64 5, .int .i64 clsn, cd], .agg #[.int .i64 0, .int .i64 rlsn, .slice A n cp]] w (Ln.Did B sb w o) := by
  have HS := Lib.hid h
  have HC := Lib.hid hc
  have HR := Lib.hid hr
  obtain ⟨h0, v, h1, h2⟩ := h
  obtain ⟨c0, c1, c2, c3, c4, c5, c6, c7⟩ := Ln.cells8 h1
  have f6 := Qu.blk_frozen h1 6
  have hlt := Qu.blk_lt h1
  have H1 := Lib.hid h1
  clear h1 h2 hc hr c0 c5
  have en : ((n : Int) == 0) = false := beq_eq_false_iff_ne.2 (by omega)
  have en' : (n == 0) = false := beq_eq_false_iff_ne.2 hn
  clear hn
  go_enter Try.func59, Try.ntmps59
  go_wp2_with (go_at_call 58; first | ((with_reducible refine (may_true _).mono ?_); rintro e w' ⟨rfl, rfl⟩) | ((with_reducible refine (may_false _).mono ?_); rintro e w' ⟨rfl, rfl⟩))
  refine (HCAL.out _ ((HS.out.below (Ln.below_alloc _ _ (Nat.le_refl _) _)).below (Ln.below_alloc _ _ (Nat.le_refl _) _)) (by simp; omega) (HC.out.keep ((Ln.below_alloc _ w (Nat.le_refl _) _).alloc (by simp) _)) (HR.out.keep ((Ln.below_alloc _ w (Nat.le_refl _) _).alloc (by simp) _))).mono ?_
  intro e w6 hd
  cases o with
  | none =>
    obtain ⟨rfl, hb⟩ := hd.none
    clear hd
    go_wp2
    exact ⟨rfl, ((Ln.Fra.new hB _).alloc (by simp; omega) _).trans hb, rfl⟩
  | some t =>
    obtain ⟨rfl, hb6, hs6⟩ := hd.some
    have HS6 := Lib.hid hs6
    have HB6 := Lib.hid hb6
    clear hd hs6 hb6
    go_wp2_with fail
    refine bodyPost_ret (results_none rfl _ _ _) rfl ?_
    exact ⟨((Ln.Fra.new hB _).alloc (by simp; omega) _).trans HB6.out, rfl, HS6.out⟩

set_option maxHeartbeats 1000000 in
set_option maxRecDepth 100000 in
theorem ans5_bad (B sb : Nat) (clsn err rlsn : Int) (d : List UInt8) (cd : Value) (A : Option Addr) (n cp : Nat) (rdata : List UInt8) (m : Ln.Mod) (w : World) (h : Ln.StAt B w sb m) (hB : B ≤ w.heap.size) (hc : Ln.Rd w cd (Ln.u8s d)) (hr : Ln.Rd w (.slice A n cp) (Ln.u8s rdata)) (hn : n ≠ 0) (he : err ≠ 0) :
    Calls Try.prog 59 #[.pointer (some ⟨sb, 0, none⟩), .agg #[.int .i64 5, .int .i64 clsn, cd], .agg #[.int .i64 err, .int .i64 rlsn, .slice A n cp]] w (Ln.Did B sb w none) := by
  have HS := Lib.hid h
  have HC := Lib.hid hc
  have HR := Lib.hid hr
  obtain ⟨h0, v, h1, h2⟩ := h
  obtain ⟨c0, c1, c2, c3, c4, c5, c6, c7⟩ := Ln.cells8 h1
  have f6 := Qu.blk_frozen h1 6
  have hlt := Qu.blk_lt h1
  have H1 := Lib.hid h1
  clear h1 h2 hc hr c0 c5
  have en : ((n : Int) == 0) = false := beq_eq_false_iff_ne.2 (by omega)
  have en' : (n == 0) = false := beq_eq_false_iff_ne.2 hn
  clear hn
  have ee : (err == 0) = false := beq_eq_false_iff_ne.2 he
  clear he
  go_enter Try.func59, Try.ntmps59
  go_wp2_with (go_at_call 58; first | ((with_reducible refine (may_true _).mono ?_); rintro e w' ⟨rfl, rfl⟩) | ((with_reducible refine (may_false _).mono ?_); rintro e w' ⟨rfl, rfl⟩))
  exact ⟨rfl, (Ln.Fra.new hB _).alloc (by simp; omega) _, rfl⟩

set_option maxHeartbeats 1000000 in
set_option maxRecDepth 100000 in
theorem ans1_n0 (B sb : Nat) (clsn err rlsn : Int) (d : List UInt8) (cd : Value) (A : Option Addr) (n cp : Nat) (rdata : List UInt8) (m : Ln.Mod) (w : World) (h : Ln.StAt B w sb m) (hB : B ≤ w.heap.size) (hc : Ln.Rd w cd (Ln.u8s d)) (hr : Ln.Rd w (.slice A 0 cp) (Ln.u8s rdata)) (o : Option Ln.Mod) (HCAL : Hid (∀ w5, Ln.StAt B w5 sb m → B ≤ w5.heap.size → Ln.Rd w5 cd (Ln.u8s d) → Ln.Rd w5 (.slice A 0 cp) (Ln.u8s rdata) → Calls Try.prog 67 #[.pointer (some ⟨sb, 0, none⟩), .agg #[.int .i64 1, .int .i64 clsn, cd], .agg #[.int .i64 err, .int .i64 rlsn, .slice A 0 cp]] w5 (Ln.Did B sb w5 o))) :
    Calls Try.prog 59 #[.pointer (some ⟨sb, 0, none⟩), .agg #[.int .i64 1, .int .i64 clsn, cd], .agg #[.int .i64 err, .int .i64 rlsn, .slice A 0 cp]] w (Ln.Did B sb w o) := by
  have HS := Lib.hid h
  have HC := Lib.hid hc
  have HR := Lib.hid hr
  obtain ⟨h0, v, h1, h2⟩ := h
  obtain ⟨c0, c1, c2, c3, c4, c5, c6, c7⟩ := Ln.cells8 h1
  have f6 := Qu.blk_frozen h1 6
  have hlt := Qu.blk_lt h1
  have H1 := Lib.hid h1
  clear h1 h2 hc hr c0 c5
  go_enter Try.func59, Try.ntmps59
  go_wp2_with (go_at_call 58; first | ((with_reducible refine (may_true _).mono ?_); rintro e w' ⟨rfl, rfl⟩) | ((with_reducible refine (may_false _).mono ?_); rintro e w' ⟨rfl, rfl⟩))
  refine (HCAL.out _ ((HS.out.below (Ln.below_alloc _ _ (Nat.le_refl _) _)).below (Ln.below_alloc _ _ (Nat.le_refl _) _)) (by simp; omega) (HC.out.keep ((Ln.below_alloc _ w (Nat.le_refl _) _).alloc (by simp) _)) (HR.out.keep ((Ln.below_alloc _ w (Nat.le_refl _) _).alloc (by simp) _))).mono ?_
  intro e w6 hd
  cases o with
  | none =>
    obtain ⟨rfl, hb⟩ := hd.none
    clear hd
    go_wp2
    exact ⟨rfl, ((Ln.Fra.new hB _).alloc (by simp; omega) _).trans hb, rfl⟩
  | some t =>
    obtain ⟨rfl, hb6, hs6⟩ := hd.some
    have HS6 := Lib.hid hs6
    have HB6 := Lib.hid hb6
    clear hd hs6 hb6
    go_wp2_with fail
    refine bodyPost_ret (results_none rfl _ _ _) rfl ?_
    exact ⟨((Ln.Fra.new hB _).alloc (by simp; omega) _).trans HB6.out, rfl, HS6.out⟩

set_option maxHeartbeats 1000000 in
set_option maxRecDepth 100000 in
theorem ans1_bad (B sb : Nat) (clsn err rlsn : Int) (d : List UInt8) (cd : Value) (A : Option Addr) (n cp : Nat) (rdata : List UInt8) (m : Ln.Mod) (w : World) (h : Ln.StAt B w sb m) (hB : B ≤ w.heap.size) (hc : Ln.Rd w cd (Ln.u8s d)) (hr : Ln.Rd w (.slice A n cp) (Ln.u8s rdata)) (hn : n ≠ 0) :
    Calls Try.prog 59 #[.pointer (some ⟨sb, 0, none⟩), .agg #[.int .i64 1, .int .i64 clsn, cd], .agg #[.int .i64 err, .int .i64 rlsn, .slice A n cp]] w (Ln.Did B sb w none) := by
  have HS := Lib.hid h
  have HC := Lib.hid hc
  have HR := Lib.hid hr
  obtain ⟨h0, v, h1, h2⟩ := h
  obtain ⟨c0, c1, c2, c3, c4, c5, c6, c7⟩ := Ln.cells8 h1
  have f6 := Qu.blk_frozen h1 6
  have hlt := Qu.blk_lt h1
  have H1 := Lib.hid h1
  clear h1 h2 hc hr c0 c5
  have en : ((n : Int) == 0) = false := beq_eq_false_iff_ne.2 (by omega)
  have en' : (n == 0) = false := beq_eq_false_iff_ne.2 hn
  clear hn
  go_enter Try.func59, Try.ntmps59
  go_wp2_with (go_at_call 58; first | ((with_reducible refine (may_true _).mono ?_); rintro e w' ⟨rfl, rfl⟩) | ((with_reducible refine (may_false _).mono ?_); rintro e w' ⟨rfl, rfl⟩))
  exact ⟨rfl, (Ln.Fra.new hB _).alloc (by simp; omega) _, rfl⟩

set_option maxHeartbeats 1000000 in
set_option maxRecDepth 100000 in
theorem ans2_n0 (B sb : Nat) (clsn err rlsn : Int) (d : List UInt8) (cd : Value) (A : Option Addr) (n cp : Nat) (rdata : List UInt8) (m : Ln.Mod) (w : World) (h : Ln.StAt B w sb m) (hB : B ≤ w.heap.size) (hc : Ln.Rd w cd (Ln.u8s d)) (hr : Ln.Rd w (.slice A 0 cp) (Ln.u8s rdata)) (o : Option Ln.Mod) (HCAL : Hid (∀ w5, Ln.StAt B w5 sb m → B ≤ w5.heap.size → Ln.Rd w5 cd (Ln.u8s d) → Ln.Rd w5 (.slice A 0 cp) (Ln.u8s rdata) → Calls Try.prog 67 #[.pointer (some ⟨sb, 0, none⟩), .agg #[.int .i64 2, .int .i64 clsn, cd], .agg #[.int .i64 err, .int .i64 rlsn, .slice A 0 cp]] w5 (Ln.Did B sb w5 o))) :
    Calls Try.prog 59 #[.pointer (some ⟨sb, 0, none⟩), .agg #[.int .i64 2, .int .i64 clsn, cd], .agg #[.int .i64 err, .int .i64 rlsn, .slice A 0 cp]] w (Ln.Did B sb w o) := by
  have HS := Lib.hid h
  have HC := Lib.hid hc
  have HR := Lib.hid hr
  obtain ⟨h0, v, h1, h2⟩ := h
  obtain ⟨c0, c1, c2, c3, c4, c5, c6, c7⟩ := Ln.cells8 h1
  have f6 := Qu.blk_frozen h1 6
  have hlt := Qu.blk_lt h1
  have H1 := Lib.hid h1
  clear h1 h2 hc hr c0 c5
  go_enter Try.func59, Try.ntmps59
  go_wp2_with (go_at_call 58; first | ((with_reducible refine (may_true _).mono ?_); rintro e w' ⟨rfl, rfl⟩) | ((with_reducible refine (may_false _).mono ?_); rintro e w' ⟨rfl, rfl⟩))
  refine (HCAL.out _ ((HS.out.below (Ln.below_alloc _ _ (Nat.le_refl _) _)).below (Ln.below_alloc _ _ (Nat.le_refl _) _)) (by simp; omega) (HC.out.keep ((Ln.below_alloc _ w (Nat.le_refl _) _).alloc (by simp) _)) (HR.out.keep ((Ln.below_alloc _ w (Nat.le_refl _) _).alloc (by simp) _))).mono ?_
  intro e w6 hd
  cases o with
  | none =>
    obtain ⟨rfl, hb⟩ := hd.none
    clear hd
    go_wp2
    exact ⟨rfl, ((Ln.Fra.new hB _).alloc (by simp; omega) _).trans hb, rfl⟩
  | some t =>
    obtain ⟨rfl, hb6, hs6⟩ := hd.some
    have HS6 := Lib.hid hs6
    have HB6 := Lib.hid hb6
    clear hd hs6 hb6
    go_wp2_with fail
    refine bodyPost_ret (results_none rfl _ _ _) rfl ?_
    exact ⟨((Ln.Fra.new hB _).alloc (by simp; omega) _).trans HB6.out, rfl, HS6.out⟩

set_option maxHeartbeats 1000000 in
set_option maxRecDepth 100000 in
theorem ans2_bad (B sb : Nat) (clsn err rlsn : Int) (d : List UInt8) (cd : Value) (A : Option Addr) (n cp : Nat) (rdata : List UInt8) (m : Ln.Mod) (w : World) (h : Ln.StAt B w sb m) (hB : B ≤ w.heap.size) (hc : Ln.Rd w cd (Ln.u8s d)) (hr : Ln.Rd w (.slice A n cp) (Ln.u8s rdata)) (hn : n ≠ 0) :
    Calls Try.prog 59 #[.pointer (some ⟨sb, 0, none⟩), .agg #[.int .i64 2, .int .i64 clsn, cd], .agg #[.int .i64 err, .int .i64 rlsn, .slice A n cp]] w (Ln.Did B sb w none) := by
  have HS := Lib.hid h
  have HC := Lib.hid hc
  have HR := Lib.hid hr
  obtain ⟨h0, v, h1, h2⟩ := h
  obtain ⟨c0, c1, c2, c3, c4, c5, c6, c7⟩ := Ln.cells8 h1
  have f6 := Qu.blk_frozen h1 6
  have hlt := Qu.blk_lt h1
  have H1 := Lib.hid h1
  clear h1 h2 hc hr c0 c5
  have en : ((n : Int) == 0) = false := beq_eq_false_iff_ne.2 (by omega)
  have en' : (n == 0) = false := beq_eq_false_iff_ne.2 hn
  clear hn
  go_enter Try.func59, Try.ntmps59
  go_wp2_with (go_at_call 58; first | ((with_reducible refine (may_true _).mono ?_); rintro e w' ⟨rfl, rfl⟩) | ((with_reducible refine (may_false _).mono ?_); rintro e w' ⟨rfl, rfl⟩))
  exact ⟨rfl, (Ln.Fra.new hB _).alloc (by simp; omega) _, rfl⟩

set_option maxHeartbeats 1000000 in
set_option maxRecDepth 100000 in
theorem ans6_n0 (B sb : Nat) (clsn err rlsn : Int) (d : List UInt8) (cd : Value) (A : Option Addr) (n cp : Nat) (rdata : List UInt8) (m : Ln.Mod) (w : World) (h : Ln.StAt B w sb m) (hB : B ≤ w.heap.size) (hc : Ln.Rd w cd (Ln.u8s d)) (hr : Ln.Rd w (.slice A 0 cp) (Ln.u8s rdata)) (o : Option Ln.Mod) (HCAL : Hid (∀ w5, Ln.StAt B w5 sb m → B ≤ w5.heap.size → Ln.Rd w5 cd (Ln.u8s d) → Ln.Rd w5 (.slice A 0 cp) (Ln.u8s rdata) → Calls Try.prog 68 #[.pointer (some ⟨sb, 0, none⟩), .agg #[.int .i64 6, .int .i64 clsn, cd], .agg #[.int .i64 err, .int .i64 rlsn, .slice A 0 cp]] w5 (Ln.Did B sb w5 o))) :
    Calls Try.prog 59 #[.pointer (some ⟨sb, 0, none⟩), .agg #[.int .i64 6, .int .i64 clsn, cd], .agg #[.int .i64 err, .int .i64 rlsn, .slice A 0 cp]] w (Ln.Did B sb w o) := by
  have HS := Lib.hid h
  have HC := Lib.hid hc
  have HR := Lib.hid hr
  obtain ⟨h0, v, h1, h2⟩ := h
  obtain ⟨c0, c1, c2, c3, c4, c5, c6, c7⟩ := Ln.cells8 h1
  have f6 := Qu.blk_frozen h1 6
  have hlt := Qu.blk_lt h1
  have H1 := Lib.hid h1
  clear h1 h2 hc hr c0 c5
  go_enter Try.func59, Try.ntmps59
  go_wp2_with (go_at_call 58; first | ((with_reducible refine (may_true _).mono ?_); rintro e w' ⟨rfl, rfl⟩) | ((with_reducible refine (may_false _).mono ?_); rintro e w' ⟨rfl, rfl⟩))
  refine (HCAL.out _ ((HS.out.below (Ln.below_alloc _ _ (Nat.le_refl _) _)).below (Ln.below_alloc _ _ (Nat.le_refl _) _)) (by simp; omega) (HC.out.keep ((Ln.below_alloc _ w (Nat.le_refl _) _).alloc (by simp) _)) (HR.out.keep ((Ln.below_alloc _ w (Nat.le_refl _) _).alloc (by simp) _))).mono ?_
  intro e w6 hd
  cases o with
  | none =>
    obtain ⟨rfl, hb⟩ := hd.none
    clear hd
    go_wp2
    exact ⟨rfl, ((Ln.Fra.new hB _).alloc (by simp; omega) _).trans hb, rfl⟩
  | some t =>
    obtain ⟨rfl, hb6, hs6⟩ := hd.some
    have HS6 := Lib.hid hs6
    have HB6 := Lib.hid hb6
    clear hd hs6 hb6
    go_wp2_with fail
    refine bodyPost_ret (results_none rfl _ _ _) rfl ?_
    exact ⟨((Ln.Fra.new hB _).alloc (by simp; omega) _).trans HB6.out, rfl, HS6.out⟩

set_option maxHeartbeats 1000000 in
set_option maxRecDepth 100000 in
theorem ans6_bad (B sb : Nat) (clsn err rlsn : Int) (d : List UInt8) (cd : Value) (A : Option Addr) (n cp : Nat) (rdata : List UInt8) (m : Ln.Mod) (w : World) (h : Ln.StAt B w sb m) (hB : B ≤ w.heap.size) (hc : Ln.Rd w cd (Ln.u8s d)) (hr : Ln.Rd w (.slice A n cp) (Ln.u8s rdata)) (hn : n ≠ 0) :
    Calls Try.prog 59 #[.pointer (some ⟨sb, 0, none⟩), .agg #[.int .i64 6, .int .i64 clsn, cd], .agg #[.int .i64 err, .int .i64 rlsn, .slice A n cp]] w (Ln.Did B sb w none) := by
  have HS := Lib.hid h
  have HC := Lib.hid hc
  have HR := Lib.hid hr
  obtain ⟨h0, v, h1, h2⟩ := h
  obtain ⟨c0, c1, c2, c3, c4, c5, c6, c7⟩ := Ln.cells8 h1
  have f6 := Qu.blk_frozen h1 6
  have hlt := Qu.blk_lt h1
  have H1 := Lib.hid h1
  clear h1 h2 hc hr c0 c5
  have en : ((n : Int) == 0) = false := beq_eq_false_iff_ne.2 (by omega)
  have en' : (n == 0) = false := beq_eq_false_iff_ne.2 hn
  clear hn
  go_enter Try.func59, Try.ntmps59
  go_wp2_with (go_at_call 58; first | ((with_reducible refine (may_true _).mono ?_); rintro e w' ⟨rfl, rfl⟩) | ((with_reducible refine (may_false _).mono ?_); rintro e w' ⟨rfl, rfl⟩))
  exact ⟨rfl, (Ln.Fra.new hB _).alloc (by simp; omega) _, rfl⟩

set_option maxHeartbeats 1000000 in
set_option maxRecDepth 100000 in
theorem ans3_n0 (B sb : Nat) (clsn err rlsn : Int) (d : List UInt8) (cd : Value) (A : Option Addr) (n cp : Nat) (rdata : List UInt8) (m : Ln.Mod) (w : World) (h : Ln.StAt B w sb m) (hB : B ≤ w.heap.size) (hc : Ln.Rd w cd (Ln.u8s d)) (hr : Ln.Rd w (.slice A 0 cp) (Ln.u8s rdata)) (o : Option Ln.Mod) (HCAL : Hid (∀ w5, Ln.StAt B w5 sb m → B ≤ w5.heap.size → Ln.Rd w5 cd (Ln.u8s d) → Ln.Rd w5 (.slice A 0 cp) (Ln.u8s rdata) → Calls Try.prog 69 #[.pointer (some ⟨sb, 0, none⟩), .agg #[.int .i64 err, .int .i64 rlsn, .slice A 0 cp]] w5 (Ln.Did B sb w5 o))) :
    Calls Try.prog 59 #[.pointer (some ⟨sb, 0, none⟩), .agg #[.int .i64 3, .int .i64 clsn, cd], .agg #[.int .i64 err, .int .i64 rlsn, .slice A 0 cp]] w (Ln.Did B sb w o) := by
  have HS := Lib.hid h
  have HC := Lib.hid hc
  have HR := Lib.hid hr
  obtain ⟨h0, v, h1, h2⟩ := h
  obtain ⟨c0, c1, c2, c3, c4, c5, c6, c7⟩ := Ln.cells8 h1
  have f6 := Qu.blk_frozen h1 6
  have hlt := Qu.blk_lt h1
  have H1 := Lib.hid h1
  clear h1 h2 hc hr c0 c5
  go_enter Try.func59, Try.ntmps59
  go_wp2_with (go_at_call 58; first | ((with_reducible refine (may_true _).mono ?_); rintro e w' ⟨rfl, rfl⟩) | ((with_reducible refine (may_false _).mono ?_); rintro e w' ⟨rfl, rfl⟩))
  refine (HCAL.out _ ((HS.out.below (Ln.below_alloc _ _ (Nat.le_refl _) _)).below (Ln.below_alloc _ _ (Nat.le_refl _) _)) (by simp; omega) (HC.out.keep ((Ln.below_alloc _ w (Nat.le_refl _) _).alloc (by simp) _)) (HR.out.keep ((Ln.below_alloc _ w (Nat.le_refl _) _).alloc (by simp) _))).mono ?_
  intro e w6 hd
  cases o with
  | none =>
    obtain ⟨rfl, hb⟩ := hd.none
    clear hd
    go_wp2
    exact ⟨rfl, ((Ln.Fra.new hB _).alloc (by simp; omega) _).trans hb, rfl⟩
  | some t =>
    obtain ⟨rfl, hb6, hs6⟩ := hd.some
    have HS6 := Lib.hid hs6
    have HB6 := Lib.hid hb6
    clear hd hs6 hb6
    go_wp2_with fail
    refine bodyPost_ret (results_none rfl _ _ _) rfl ?_
    exact ⟨((Ln.Fra.new hB _).alloc (by simp; omega) _).trans HB6.out, rfl, HS6.out⟩

set_option maxHeartbeats 1000000 in
set_option maxRecDepth 100000 in
theorem ans3_bad (B sb : Nat) (clsn err rlsn : Int) (d : List UInt8) (cd : Value) (A : Option Addr) (n cp : Nat) (rdata : List UInt8) (m : Ln.Mod) (w : World) (h : Ln.StAt B w sb m) (hB : B ≤ w.heap.size) (hc : Ln.Rd w cd (Ln.u8s d)) (hr : Ln.Rd w (.slice A n cp) (Ln.u8s rdata)) (hn : n ≠ 0) :
    Calls Try.prog 59 #[.pointer (some ⟨sb, 0, none⟩), .agg #[.int .i64 3, .int .i64 clsn, cd], .agg #[.int .i64 err, .int .i64 rlsn, .slice A n cp]] w (Ln.Did B sb w none) := by
  have HS := Lib.hid h
  have HC := Lib.hid hc
  have HR := Lib.hid hr
  obtain ⟨h0, v, h1, h2⟩ := h
  obtain ⟨c0, c1, c2, c3, c4, c5, c6, c7⟩ := Ln.cells8 h1
  have f6 := Qu.blk_frozen h1 6
  have hlt := Qu.blk_lt h1
  have H1 := Lib.hid h1
  clear h1 h2 hc hr c0 c5
  have en : ((n : Int) == 0) = false := beq_eq_false_iff_ne.2 (by omega)
  have en' : (n == 0) = false := beq_eq_false_iff_ne.2 hn
  clear hn
  go_enter Try.func59, Try.ntmps59
  go_wp2_with (go_at_call 58; first | ((with_reducible refine (may_true _).mono ?_); rintro e w' ⟨rfl, rfl⟩) | ((with_reducible refine (may_false _).mono ?_); rintro e w' ⟨rfl, rfl⟩))
  exact ⟨rfl, (Ln.Fra.new hB _).alloc (by simp; omega) _, rfl⟩

set_option maxHeartbeats 1000000 in
set_option maxRecDepth 100000 in
theorem ansX_n0 (B sb : Nat) (ck clsn err rlsn : Int) (d : List UInt8) (cd : Value) (A : Option Addr) (n cp : Nat) (rdata : List UInt8) (m : Ln.Mod) (w : World) (h : Ln.StAt B w sb m) (hB : B ≤ w.heap.size) (hc : Ln.Rd w cd (Ln.u8s d)) (hr : Ln.Rd w (.slice A 0 cp) (Ln.u8s rdata)) (k1 : ck ≠ 1) (k2 : ck ≠ 2) (k3 : ck ≠ 3) (k4 : ck ≠ 4) (k5 : ck ≠ 5) (k6 : ck ≠ 6) (o : Option Ln.Mod) (HCAL : Hid (∀ w5, Ln.StAt B w5 sb m → B ≤ w5.heap.size → Ln.Rd w5 cd (Ln.u8s d) → Ln.Rd w5 (.slice A 0 cp) (Ln.u8s rdata) → Calls Try.prog 70 #[.pointer (some ⟨sb, 0, none⟩), .agg #[.int .i64 err, .int .i64 rlsn, .slice A 0 cp]] w5 (Ln.Did B sb w5 o))) :
    Calls Try.prog 59 #[.pointer (some ⟨sb, 0, none⟩), .agg #[.int .i64 ck, .int .i64 clsn, cd], .agg #[.int .i64 err, .int .i64 rlsn, .slice A 0 cp]] w (Ln.Did B sb w o) := by
  have HS := Lib.hid h
  have HC := Lib.hid hc
  have HR := Lib.hid hr
  obtain ⟨h0, v, h1, h2⟩ := h
  obtain ⟨c0, c1, c2, c3, c4, c5, c6, c7⟩ := Ln.cells8 h1
  have f6 := Qu.blk_frozen h1 6
  have hlt := Qu.blk_lt h1
  have H1 := Lib.hid h1
  clear h1 h2 hc hr c0 c5
  have a1 : (ck == 1) = false := beq_eq_false_iff_ne.2 k1
  have a2 : (ck == 2) = false := beq_eq_false_iff_ne.2 k2
  have a3 : (ck == 3) = false := beq_eq_false_iff_ne.2 k3
  have a4 : (ck == 4) = false := beq_eq_false_iff_ne.2 k4
  have a5 : (ck == 5) = false := beq_eq_false_iff_ne.2 k5
  have a6 : (ck == 6) = false := beq_eq_false_iff_ne.2 k6
  clear k1 k2 k3 k4 k5 k6
  go_enter Try.func59, Try.ntmps59
  go_wp2_with (go_at_call 58; first | ((with_reducible refine (may_true _).mono ?_); rintro e w' ⟨rfl, rfl⟩) | ((with_reducible refine (may_false _).mono ?_); rintro e w' ⟨rfl, rfl⟩))
  refine (HCAL.out _ ((HS.out.below (Ln.below_alloc _ _ (Nat.le_refl _) _)).below (Ln.below_alloc _ _ (Nat.le_refl _) _)) (by simp; omega) (HC.out.keep ((Ln.below_alloc _ w (Nat.le_refl _) _).alloc (by simp) _)) (HR.out.keep ((Ln.below_alloc _ w (Nat.le_refl _) _).alloc (by simp) _))).mono ?_
  intro e w6 hd
  cases o with
  | none =>
    obtain ⟨rfl, hb⟩ := hd.none
    clear hd
    go_wp2
    exact ⟨rfl, ((Ln.Fra.new hB _).alloc (by simp; omega) _).trans hb, rfl⟩
  | some t =>
    obtain ⟨rfl, hb6, hs6⟩ := hd.some
    have HS6 := Lib.hid hs6
    have HB6 := Lib.hid hb6
    clear hd hs6 hb6
    go_wp2_with fail
    refine bodyPost_ret (results_none rfl _ _ _) rfl ?_
    exact ⟨((Ln.Fra.new hB _).alloc (by simp; omega) _).trans HB6.out, rfl, HS6.out⟩

set_option maxHeartbeats 1000000 in
set_option maxRecDepth 100000 in
theorem ansX_bad (B sb : Nat) (ck clsn err rlsn : Int) (d : List UInt8) (cd : Value) (A : Option Addr) (n cp : Nat) (rdata : List UInt8) (m : Ln.Mod) (w : World) (h : Ln.StAt B w sb m) (hB : B ≤ w.heap.size) (hc : Ln.Rd w cd (Ln.u8s d)) (hr : Ln.Rd w (.slice A n cp) (Ln.u8s rdata)) (hn : n ≠ 0) (k1 : ck ≠ 1) (k2 : ck ≠ 2) (k3 : ck ≠ 3) (k4 : ck ≠ 4) (k5 : ck ≠ 5) (k6 : ck ≠ 6) :
    Calls Try.prog 59 #[.pointer (some ⟨sb, 0, none⟩), .agg #[.int .i64 ck, .int .i64 clsn, cd], .agg #[.int .i64 err, .int .i64 rlsn, .slice A n cp]] w (Ln.Did B sb w none) := by
  have HS := Lib.hid h
  have HC := Lib.hid hc
  have HR := Lib.hid hr
  obtain ⟨h0, v, h1, h2⟩ := h
  obtain ⟨c0, c1, c2, c3, c4, c5, c6, c7⟩ := Ln.cells8 h1
  have f6 := Qu.blk_frozen h1 6
  have hlt := Qu.blk_lt h1
  have H1 := Lib.hid h1
  clear h1 h2 hc hr c0 c5
  have a1 : (ck == 1) = false := beq_eq_false_iff_ne.2 k1
  have a2 : (ck == 2) = false := beq_eq_false_iff_ne.2 k2
  have a3 : (ck == 3) = false := beq_eq_false_iff_ne.2 k3
  have a4 : (ck == 4) = false := beq_eq_false_iff_ne.2 k4
  have a5 : (ck == 5) = false := beq_eq_false_iff_ne.2 k5
  have a6 : (ck == 6) = false := beq_eq_false_iff_ne.2 k6
  clear k1 k2 k3 k4 k5 k6
  have en : ((n : Int) == 0) = false := beq_eq_false_iff_ne.2 (by omega)
  have en' : (n == 0) = false := beq_eq_false_iff_ne.2 hn
  clear hn
  go_enter Try.func59, Try.ntmps59
  go_wp2_with (go_at_call 58; first | ((with_reducible refine (may_true _).mono ?_); rintro e w' ⟨rfl, rfl⟩) | ((with_reducible refine (may_false _).mono ?_); rintro e w' ⟨rfl, rfl⟩))
  exact ⟨rfl, (Ln.Fra.new hB _).alloc (by simp; omega) _, rfl⟩

end Go.Proofs.Ytgdeoodihhcdjaa
