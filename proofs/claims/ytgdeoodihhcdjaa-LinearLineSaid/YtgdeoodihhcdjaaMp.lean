/- The contract of Apply's closure. -/
import Derived.Test.YtgdeoodihhcdjaaMo
namespace Go.Proofs.Ytgdeoodihhcdjaa
open Go.RowKit
set_option linter.unusedVariables false
set_option linter.unusedSimpArgs false


set_option maxHeartbeats 1000000 in
set_option maxRecDepth 100000 in
theorem ap41y (B sb cb rb : Nat) (ck clsn : Int) (d : List UInt8) (cd : Value) (A : Option Addr) (n cp : Nat) (rdata : List UInt8) (m : Ln.Mod) (w : World) (h : Ln.StAt B w sb m) (hB : B ≤ w.heap.size) (hc : Ln.Rd w cd (Ln.u8s d)) (hr : Ln.Rd w (.slice A 0 cp) (Ln.u8s rdata)) (hcb : w.heap[cb]? = some (.cells #[.int .i64 ck, .int .i64 clsn, cd] 62 (0, 0))) (hrb : w.heap[rb]? = some (.cells #[.int .i64 41, .int .i64 0, .slice A 0 cp] 64 (0, 0))) (hcl : m.closed = true) :
    Calls Try.prog 57 #[.pointer (some ⟨sb, 0, none⟩), .pointer (some ⟨rb, 0, none⟩), .pointer (some ⟨cb, 0, none⟩)] w (Ln.Did B sb w (some m)) := by
  have HS := Lib.hid h
  have HC := Lib.hid hc
  have HR := Lib.hid hr
  obtain ⟨h0, v, h1, h2⟩ := h
  obtain ⟨c0, c1, c2, c3, c4, c5, c6, c7⟩ := Ln.cells8 h1
  have f7 := Qu.blk_frozen h1 7
  have hlt := Qu.blk_lt h1
  have hltc := Qu.blk_lt hcb
  have hltr := Qu.blk_lt hrb
  have x0 := Qu.blk_cell hcb 0
  have x1 := Qu.blk_cell hcb 1
  have x2 := Qu.blk_cell hcb 2
  have y0 := Qu.blk_cell hrb 0
  have y1 := Qu.blk_cell hrb 1
  have y2 := Qu.blk_cell hrb 2
  simp only [List.getElem?_toArray, List.getElem?_cons_succ, List.getElem?_cons_zero] at x0 x1 x2 y0 y1 y2
  clear h1 h2 hc hr hcb hrb c0 c1 c2 c3 c4 c5 c6
  rw [hcl] at c7
  clear hcl
  go_enter Try.func57, Try.ntmps57
  go_wp2_with (go_at_call 58; first | ((with_reducible refine (may_true _).mono ?_); rintro e w' ⟨rfl, rfl⟩) | ((with_reducible refine (may_false _).mono ?_); rintro e w' ⟨rfl, rfl⟩))
  refine bodyPost_ret (results_none rfl _ _ _) rfl ?_
  exact ⟨Ln.Fra.refl _ _ _, rfl, HS.out⟩

set_option maxHeartbeats 1000000 in
set_option maxRecDepth 100000 in
theorem ap41c (B sb cb rb : Nat) (ck clsn rlsn : Int) (d : List UInt8) (cd : Value) (A : Option Addr) (n cp : Nat) (rdata : List UInt8) (m : Ln.Mod) (w : World) (h : Ln.StAt B w sb m) (hB : B ≤ w.heap.size) (hc : Ln.Rd w cd (Ln.u8s d)) (hr : Ln.Rd w (.slice A n cp) (Ln.u8s rdata)) (hcb : w.heap[cb]? = some (.cells #[.int .i64 ck, .int .i64 clsn, cd] 62 (0, 0))) (hrb : w.heap[rb]? = some (.cells #[.int .i64 41, .int .i64 rlsn, .slice A n cp] 64 (0, 0))) (hcl : m.closed = false) :
    Calls Try.prog 57 #[.pointer (some ⟨sb, 0, none⟩), .pointer (some ⟨rb, 0, none⟩), .pointer (some ⟨cb, 0, none⟩)] w (Ln.Did B sb w none) := by
  have HS := Lib.hid h
  have HC := Lib.hid hc
  have HR := Lib.hid hr
  obtain ⟨h0, v, h1, h2⟩ := h
  obtain ⟨c0, c1, c2, c3, c4, c5, c6, c7⟩ := Ln.cells8 h1
  have f7 := Qu.blk_frozen h1 7
  have hlt := Qu.blk_lt h1
  have hltc := Qu.blk_lt hcb
  have hltr := Qu.blk_lt hrb
  have x0 := Qu.blk_cell hcb 0
  have x1 := Qu.blk_cell hcb 1
  have x2 := Qu.blk_cell hcb 2
  have y0 := Qu.blk_cell hrb 0
  have y1 := Qu.blk_cell hrb 1
  have y2 := Qu.blk_cell hrb 2
  simp only [List.getElem?_toArray, List.getElem?_cons_succ, List.getElem?_cons_zero] at x0 x1 x2 y0 y1 y2
  clear h1 h2 hc hr hcb hrb c0 c1 c2 c3 c4 c5 c6
  rw [hcl] at c7
  clear hcl
  go_enter Try.func57, Try.ntmps57
  go_wp2_with (go_at_call 58; first | ((with_reducible refine (may_true _).mono ?_); rintro e w' ⟨rfl, rfl⟩) | ((with_reducible refine (may_false _).mono ?_); rintro e w' ⟨rfl, rfl⟩))
  exact ⟨rfl, Ln.Fra.refl _ _ _, rfl⟩

set_option maxHeartbeats 1000000 in
set_option maxRecDepth 100000 in
theorem ap41l (B sb cb rb : Nat) (ck clsn rlsn : Int) (d : List UInt8) (cd : Value) (A : Option Addr) (n cp : Nat) (rdata : List UInt8) (m : Ln.Mod) (w : World) (h : Ln.StAt B w sb m) (hB : B ≤ w.heap.size) (hc : Ln.Rd w cd (Ln.u8s d)) (hr : Ln.Rd w (.slice A n cp) (Ln.u8s rdata)) (hcb : w.heap[cb]? = some (.cells #[.int .i64 ck, .int .i64 clsn, cd] 62 (0, 0))) (hrb : w.heap[rb]? = some (.cells #[.int .i64 41, .int .i64 rlsn, .slice A n cp] 64 (0, 0))) (hcl : m.closed = true) (hl : rlsn ≠ 0) :
    Calls Try.prog 57 #[.pointer (some ⟨sb, 0, none⟩), .pointer (some ⟨rb, 0, none⟩), .pointer (some ⟨cb, 0, none⟩)] w (Ln.Did B sb w none) := by
  have HS := Lib.hid h
  have HC := Lib.hid hc
  have HR := Lib.hid hr
  obtain ⟨h0, v, h1, h2⟩ := h
  obtain ⟨c0, c1, c2, c3, c4, c5, c6, c7⟩ := Ln.cells8 h1
  have f7 := Qu.blk_frozen h1 7
  have hlt := Qu.blk_lt h1
  have hltc := Qu.blk_lt hcb
  have hltr := Qu.blk_lt hrb
  have x0 := Qu.blk_cell hcb 0
  have x1 := Qu.blk_cell hcb 1
  have x2 := Qu.blk_cell hcb 2
  have y0 := Qu.blk_cell hrb 0
  have y1 := Qu.blk_cell hrb 1
  have y2 := Qu.blk_cell hrb 2
  simp only [List.getElem?_toArray, List.getElem?_cons_succ, List.getElem?_cons_zero] at x0 x1 x2 y0 y1 y2
  clear h1 h2 hc hr hcb hrb c0 c1 c2 c3 c4 c5 c6
  rw [hcl] at c7
  have el : (rlsn == 0) = false := beq_eq_false_iff_ne.2 hl
  clear hcl hl
  go_enter Try.func57, Try.ntmps57
  go_wp2_with (go_at_call 58; first | ((with_reducible refine (may_true _).mono ?_); rintro e w' ⟨rfl, rfl⟩) | ((with_reducible refine (may_false _).mono ?_); rintro e w' ⟨rfl, rfl⟩))
  exact ⟨rfl, Ln.Fra.refl _ _ _, rfl⟩

set_option maxHeartbeats 1000000 in
set_option maxRecDepth 100000 in
theorem ap41n (B sb cb rb : Nat) (ck clsn : Int) (d : List UInt8) (cd : Value) (A : Option Addr) (n cp : Nat) (rdata : List UInt8) (m : Ln.Mod) (w : World) (h : Ln.StAt B w sb m) (hB : B ≤ w.heap.size) (hc : Ln.Rd w cd (Ln.u8s d)) (hr : Ln.Rd w (.slice A n cp) (Ln.u8s rdata)) (hcb : w.heap[cb]? = some (.cells #[.int .i64 ck, .int .i64 clsn, cd] 62 (0, 0))) (hrb : w.heap[rb]? = some (.cells #[.int .i64 41, .int .i64 0, .slice A n cp] 64 (0, 0))) (hcl : m.closed = true) (hn : n ≠ 0) :
    Calls Try.prog 57 #[.pointer (some ⟨sb, 0, none⟩), .pointer (some ⟨rb, 0, none⟩), .pointer (some ⟨cb, 0, none⟩)] w (Ln.Did B sb w none) := by
  have HS := Lib.hid h
  have HC := Lib.hid hc
  have HR := Lib.hid hr
  obtain ⟨h0, v, h1, h2⟩ := h
  obtain ⟨c0, c1, c2, c3, c4, c5, c6, c7⟩ := Ln.cells8 h1
  have f7 := Qu.blk_frozen h1 7
  have hlt := Qu.blk_lt h1
  have hltc := Qu.blk_lt hcb
  have hltr := Qu.blk_lt hrb
  have x0 := Qu.blk_cell hcb 0
  have x1 := Qu.blk_cell hcb 1
  have x2 := Qu.blk_cell hcb 2
  have y0 := Qu.blk_cell hrb 0
  have y1 := Qu.blk_cell hrb 1
  have y2 := Qu.blk_cell hrb 2
  simp only [List.getElem?_toArray, List.getElem?_cons_succ, List.getElem?_cons_zero] at x0 x1 x2 y0 y1 y2
  clear h1 h2 hc hr hcb hrb c0 c1 c2 c3 c4 c5 c6
  rw [hcl] at c7
  clear hcl
  have en : ((n : Int) == 0) = false := beq_eq_false_iff_ne.2 (by omega)
  have en' : (n == 0) = false := beq_eq_false_iff_ne.2 hn
  clear hn
  go_enter Try.func57, Try.ntmps57
  go_wp2_with (go_at_call 58; first | ((with_reducible refine (may_true _).mono ?_); rintro e w' ⟨rfl, rfl⟩) | ((with_reducible refine (may_false _).mono ?_); rintro e w' ⟨rfl, rfl⟩))
  exact ⟨rfl, Ln.Fra.refl _ _ _, rfl⟩

set_option maxHeartbeats 1000000 in
set_option maxRecDepth 100000 in
theorem apXc (B sb cb rb : Nat) (ck clsn err rlsn : Int) (d : List UInt8) (cd : Value) (A : Option Addr) (n cp : Nat) (rdata : List UInt8) (m : Ln.Mod) (w : World) (h : Ln.StAt B w sb m) (hB : B ≤ w.heap.size) (hc : Ln.Rd w cd (Ln.u8s d)) (hr : Ln.Rd w (.slice A n cp) (Ln.u8s rdata)) (hcb : w.heap[cb]? = some (.cells #[.int .i64 ck, .int .i64 clsn, cd] 62 (0, 0))) (hrb : w.heap[rb]? = some (.cells #[.int .i64 err, .int .i64 rlsn, .slice A n cp] 64 (0, 0))) (he : err ≠ 41) (hcl : m.closed = true) :
    Calls Try.prog 57 #[.pointer (some ⟨sb, 0, none⟩), .pointer (some ⟨rb, 0, none⟩), .pointer (some ⟨cb, 0, none⟩)] w (Ln.Did B sb w none) := by
  have HS := Lib.hid h
  have HC := Lib.hid hc
  have HR := Lib.hid hr
  obtain ⟨h0, v, h1, h2⟩ := h
  obtain ⟨c0, c1, c2, c3, c4, c5, c6, c7⟩ := Ln.cells8 h1
  have f7 := Qu.blk_frozen h1 7
  have hlt := Qu.blk_lt h1
  have hltc := Qu.blk_lt hcb
  have hltr := Qu.blk_lt hrb
  have x0 := Qu.blk_cell hcb 0
  have x1 := Qu.blk_cell hcb 1
  have x2 := Qu.blk_cell hcb 2
  have y0 := Qu.blk_cell hrb 0
  have y1 := Qu.blk_cell hrb 1
  have y2 := Qu.blk_cell hrb 2
  simp only [List.getElem?_toArray, List.getElem?_cons_succ, List.getElem?_cons_zero] at x0 x1 x2 y0 y1 y2
  clear h1 h2 hc hr hcb hrb c0 c1 c2 c3 c4 c5 c6
  rw [hcl] at c7
  clear hcl
  have e41 : (err == 41) = false := beq_eq_false_iff_ne.2 he
  clear he
  go_enter Try.func57, Try.ntmps57
  go_wp2_with (go_at_call 58; first | ((with_reducible refine (may_true _).mono ?_); rintro e w' ⟨rfl, rfl⟩) | ((with_reducible refine (may_false _).mono ?_); rintro e w' ⟨rfl, rfl⟩))
  exact ⟨rfl, Ln.Fra.refl _ _ _, rfl⟩

set_option maxHeartbeats 1000000 in
set_option maxRecDepth 100000 in
theorem apXy (B sb cb rb : Nat) (ck clsn err rlsn : Int) (d : List UInt8) (cd : Value) (A : Option Addr) (n cp : Nat) (rdata : List UInt8) (m : Ln.Mod) (w : World) (h : Ln.StAt B w sb m) (hB : B ≤ w.heap.size) (hc : Ln.Rd w cd (Ln.u8s d)) (hr : Ln.Rd w (.slice A n cp) (Ln.u8s rdata)) (hcb : w.heap[cb]? = some (.cells #[.int .i64 ck, .int .i64 clsn, cd] 62 (0, 0))) (hrb : w.heap[rb]? = some (.cells #[.int .i64 err, .int .i64 rlsn, .slice A n cp] 64 (0, 0))) (he : err ≠ 41) (hcl : m.closed = false) (o : Option Ln.Mod) (HCAL : Hid (Calls Try.prog 59 #[.pointer (some ⟨sb, 0, none⟩), .agg #[.int .i64 ck, .int .i64 clsn, cd], .agg #[.int .i64 err, .int .i64 rlsn, .slice A n cp]] w (Ln.Did B sb w o))) :
    Calls Try.prog 57 #[.pointer (some ⟨sb, 0, none⟩), .pointer (some ⟨rb, 0, none⟩), .pointer (some ⟨cb, 0, none⟩)] w (Ln.Did B sb w o) := by
  have HS := Lib.hid h
  have HC := Lib.hid hc
  have HR := Lib.hid hr
  obtain ⟨h0, v, h1, h2⟩ := h
  obtain ⟨c0, c1, c2, c3, c4, c5, c6, c7⟩ := Ln.cells8 h1
  have f7 := Qu.blk_frozen h1 7
  have hlt := Qu.blk_lt h1
  have hltc := Qu.blk_lt hcb
  have hltr := Qu.blk_lt hrb
  have x0 := Qu.blk_cell hcb 0
  have x1 := Qu.blk_cell hcb 1
  have x2 := Qu.blk_cell hcb 2
  have y0 := Qu.blk_cell hrb 0
  have y1 := Qu.blk_cell hrb 1
  have y2 := Qu.blk_cell hrb 2
  simp only [List.getElem?_toArray, List.getElem?_cons_succ, List.getElem?_cons_zero] at x0 x1 x2 y0 y1 y2
  clear h1 h2 hc hr hcb hrb c0 c1 c2 c3 c4 c5 c6
  rw [hcl] at c7
  clear hcl
  have e41 : (err == 41) = false := beq_eq_false_iff_ne.2 he
  clear he
  go_enter Try.func57, Try.ntmps57
  go_wp2_with (go_at_call 58; first | ((with_reducible refine (may_true _).mono ?_); rintro e w' ⟨rfl, rfl⟩) | ((with_reducible refine (may_false _).mono ?_); rintro e w' ⟨rfl, rfl⟩))
  refine HCAL.out.mono ?_
  intro e w6 hd
  cases o with
  | none =>
    obtain ⟨rfl, hb⟩ := hd.none
    clear hd
    go_wp2
    exact ⟨rfl, hb, rfl⟩
  | some t =>
    obtain ⟨rfl, hb6, hs6⟩ := hd.some
    have HS6 := Lib.hid hs6
    have HB6 := Lib.hid hb6
    clear hd hs6 hb6
    go_wp2_with fail
    refine bodyPost_ret (results_none rfl _ _ _) rfl ?_
    exact ⟨HB6.out, rfl, HS6.out⟩

def Ln.insideF (m : Ln.Mod) (c : Ln.Call) (r : Ln.Res) : Option Ln.Mod :=
  if r.err = 41 then (if (m.closed = true ∧ r.lsn = 0) ∧ r.data.length = 0 then some m else none)
  else if m.closed = true then none else Ln.answerF m c r

theorem ap_any (B sb cb rb : Nat) (c : Ln.Call) (r : Ln.Res) (cd rd : Value) (m : Ln.Mod) (w : World) (h : Ln.StAt B w sb m) (hB : B ≤ w.heap.size) (hc : Ln.Rd w cd (Ln.u8s c.data)) (hr : Ln.Rd w rd (Ln.u8s r.data))
    (hcb : w.heap[cb]? = some (.cells #[.int .i64 c.kind, .int .i64 c.lsn, cd] 62 (0, 0))) (hrb : w.heap[rb]? = some (.cells #[.int .i64 r.err, .int .i64 r.lsn, rd] 64 (0, 0))) (hw : Ln.WF m) :
    Calls Try.prog 57 #[.pointer (some ⟨sb, 0, none⟩), .pointer (some ⟨rb, 0, none⟩), .pointer (some ⟨cb, 0, none⟩)] w (Ln.Did B sb w (Ln.insideF m c r)) := by
  have hans := answer_any B sb c r cd rd m w h hB hc hr hw
  obtain ⟨A, cp, hA⟩ := hr.slice
  have hl : (Ln.u8s r.data).length = r.data.length := by simp [Ln.u8s]
  rw [hl] at hA
  subst hA
  clear hl
  obtain ⟨ck, clsn, d⟩ := c
  obtain ⟨err, rlsn, rdata⟩ := r
  unfold Ln.insideF
  dsimp only at hc hr hcb hrb hans ⊢
  by_cases he : err = 41
  · subst he
    rw [if_pos rfl]
    cases hcl : m.closed with
    | false =>
      rw [if_neg (by simp)]
      exact ap41c B sb cb rb ck clsn rlsn d cd A _ cp rdata m w h hB hc hr hcb hrb hcl
    | true =>
      by_cases hl : rlsn = 0
      · subst hl
        by_cases hn : rdata.length = 0
        · rw [if_pos ⟨⟨rfl, rfl⟩, hn⟩]
          rw [hn] at hr hrb
          exact ap41y B sb cb rb ck clsn d cd A 0 cp rdata m w h hB hc hr hcb hrb hcl
        · rw [if_neg (fun h => hn h.2)]
          exact ap41n B sb cb rb ck clsn d cd A _ cp rdata m w h hB hc hr hcb hrb hcl hn
      · rw [if_neg (fun h => hl h.1.2)]
        exact ap41l B sb cb rb ck clsn rlsn d cd A _ cp rdata m w h hB hc hr hcb hrb hcl hl
  · rw [if_neg he]
    cases hcl : m.closed with
    | true =>
      rw [if_pos rfl]
      exact apXc B sb cb rb ck clsn err rlsn d cd A _ cp rdata m w h hB hc hr hcb hrb he hcl
    | false =>
      rw [if_neg (by simp)]
      exact apXy B sb cb rb ck clsn err rlsn d cd A _ cp rdata m w h hB hc hr hcb hrb he hcl _ hans

end Go.Proofs.Ytgdeoodihhcdjaa
