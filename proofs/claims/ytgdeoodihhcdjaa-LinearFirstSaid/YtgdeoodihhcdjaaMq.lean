/- The contract of Half's closure. -/
import Derived.Test.YtgdeoodihhcdjaaMp
namespace Go.Proofs.Ytgdeoodihhcdjaa
open Go.RowKit
set_option linter.unusedVariables false
set_option linter.unusedSimpArgs false


set_option maxHeartbeats 1000000 in
set_option maxRecDepth 100000 in
theorem hf1 (B sb cb : Nat) (clsn : Int) (d : List UInt8) (cd : Value) (m : Ln.Mod) (w : World) (h : Ln.StAt B w sb m) (hB : B ≤ w.heap.size) (hc : Ln.Rd w cd (Ln.u8s d)) (hcb : w.heap[cb]? = some (.cells #[.int .i64 1, .int .i64 clsn, cd] 62 (0, 0))) (o : Option Ln.Mod) (HCAL : Hid (Calls Try.prog 72 #[.pointer (some ⟨sb, 0, none⟩), .int .i64 m.next, cd] w.drew (Ln.Did B sb w.drew o))) :
    Calls Try.prog 71 #[.pointer (some ⟨sb, 0, none⟩), .pointer (some ⟨cb, 0, none⟩)] w (Ln.Did B sb w o) := by
  have HS := Lib.hid h
  have HC := Lib.hid hc
  obtain ⟨h0, v, h1, h2⟩ := h
  obtain ⟨c0, c1, c2, c3, c4, c5, c6, c7⟩ := Ln.cells8 h1
  have f7 := Qu.blk_frozen h1 7
  have hlt := Qu.blk_lt h1
  have hltc := Qu.blk_lt hcb
  have x0 := Qu.blk_cell hcb 0
  have x1 := Qu.blk_cell hcb 1
  have x2 := Qu.blk_cell hcb 2
  simp only [List.getElem?_toArray, List.getElem?_cons_succ, List.getElem?_cons_zero] at x0 x1 x2
  clear h1 h2 hc hcb c0 c1 c2 c4 c5 c6
  go_enter Try.func71, Try.ntmps71
  go_wp2_with fail
  (refine wp_region_still_tail 8 (by kernel_rfl) (by kernel_rfl) ?_; simp only [List.take_succ_cons, List.take_zero, List.drop_succ_cons, List.drop_zero]; (iterate 8 ((with_reducible refine Ln.still_want (by kernel_rfl) (fun K hK => ?_)); go_simp; refine hK _ ?_; clear hK K)); with_reducible refine wpStill_nil ?_)
  go_wp2_with fail
  refine HCAL.out.mono ?_
  intro e w6 hd
  cases o with
  | none =>
    obtain ⟨rfl, hb⟩ := hd.none
    clear hd
    go_wp2
    exact ⟨rfl, (Ln.Fra.refl B sb w).drew.trans hb, rfl⟩
  | some t =>
    obtain ⟨rfl, hb6, hs6⟩ := hd.some
    have HS6 := Lib.hid hs6
    have HB6 := Lib.hid hb6
    clear hd hs6 hb6
    go_wp2_with fail
    refine bodyPost_ret (results_none rfl _ _ _) rfl ?_
    exact ⟨(Ln.Fra.refl B sb w).drew.trans HB6.out, rfl, HS6.out⟩

set_option maxHeartbeats 1000000 in
set_option maxRecDepth 100000 in
theorem hf2 (B sb cb : Nat) (clsn : Int) (d : List UInt8) (cd : Value) (m : Ln.Mod) (w : World) (h : Ln.StAt B w sb m) (hB : B ≤ w.heap.size) (hc : Ln.Rd w cd (Ln.u8s d)) (hcb : w.heap[cb]? = some (.cells #[.int .i64 2, .int .i64 clsn, cd] 62 (0, 0))) (o : Option Ln.Mod) (HCAL : Hid (Calls Try.prog 72 #[.pointer (some ⟨sb, 0, none⟩), .int .i64 m.next, cd] w.drew (Ln.Did B sb w.drew o))) :
    Calls Try.prog 71 #[.pointer (some ⟨sb, 0, none⟩), .pointer (some ⟨cb, 0, none⟩)] w (Ln.Did B sb w o) := by
  have HS := Lib.hid h
  have HC := Lib.hid hc
  obtain ⟨h0, v, h1, h2⟩ := h
  obtain ⟨c0, c1, c2, c3, c4, c5, c6, c7⟩ := Ln.cells8 h1
  have f7 := Qu.blk_frozen h1 7
  have hlt := Qu.blk_lt h1
  have hltc := Qu.blk_lt hcb
  have x0 := Qu.blk_cell hcb 0
  have x1 := Qu.blk_cell hcb 1
  have x2 := Qu.blk_cell hcb 2
  simp only [List.getElem?_toArray, List.getElem?_cons_succ, List.getElem?_cons_zero] at x0 x1 x2
  clear h1 h2 hc hcb c0 c1 c2 c4 c5 c6
  go_enter Try.func71, Try.ntmps71
  go_wp2_with fail
  (refine wp_region_still_tail 8 (by kernel_rfl) (by kernel_rfl) ?_; simp only [List.take_succ_cons, List.take_zero, List.drop_succ_cons, List.drop_zero]; (iterate 8 ((with_reducible refine Ln.still_want (by kernel_rfl) (fun K hK => ?_)); go_simp; refine hK _ ?_; clear hK K)); with_reducible refine wpStill_nil ?_)
  go_wp2_with fail
  refine HCAL.out.mono ?_
  intro e w6 hd
  cases o with
  | none =>
    obtain ⟨rfl, hb⟩ := hd.none
    clear hd
    go_wp2
    exact ⟨rfl, (Ln.Fra.refl B sb w).drew.trans hb, rfl⟩
  | some t =>
    obtain ⟨rfl, hb6, hs6⟩ := hd.some
    have HS6 := Lib.hid hs6
    have HB6 := Lib.hid hb6
    clear hd hs6 hb6
    go_wp2_with fail
    refine bodyPost_ret (results_none rfl _ _ _) rfl ?_
    exact ⟨(Ln.Fra.refl B sb w).drew.trans HB6.out, rfl, HS6.out⟩

set_option maxHeartbeats 1000000 in
set_option maxRecDepth 100000 in
theorem hf6c (B sb cb : Nat) (clsn : Int) (d : List UInt8) (cd : Value) (m : Ln.Mod) (w : World) (h : Ln.StAt B w sb m) (hB : B ≤ w.heap.size) (hc : Ln.Rd w cd (Ln.u8s d)) (hcb : w.heap[cb]? = some (.cells #[.int .i64 6, .int .i64 clsn, cd] 62 (0, 0))) (hcl : m.closed = true) :
    Calls Try.prog 71 #[.pointer (some ⟨sb, 0, none⟩), .pointer (some ⟨cb, 0, none⟩)] w (Ln.Did B sb w none) := by
  have HS := Lib.hid h
  have HC := Lib.hid hc
  obtain ⟨h0, v, h1, h2⟩ := h
  obtain ⟨c0, c1, c2, c3, c4, c5, c6, c7⟩ := Ln.cells8 h1
  have f7 := Qu.blk_frozen h1 7
  have hlt := Qu.blk_lt h1
  have hltc := Qu.blk_lt hcb
  have x0 := Qu.blk_cell hcb 0
  have x1 := Qu.blk_cell hcb 1
  have x2 := Qu.blk_cell hcb 2
  simp only [List.getElem?_toArray, List.getElem?_cons_succ, List.getElem?_cons_zero] at x0 x1 x2
  clear h1 h2 hc hcb c0 c1 c2 c4 c5 c6
  rw [hcl] at c7
  clear hcl
  go_enter Try.func71, Try.ntmps71
  go_wp2_with (go_at_call 58; first | ((with_reducible refine (may_true _).mono ?_); rintro e w' ⟨rfl, rfl⟩) | ((with_reducible refine (may_false _).mono ?_); rintro e w' ⟨rfl, rfl⟩))
  exact ⟨rfl, Ln.Fra.refl _ _ _, rfl⟩

set_option maxHeartbeats 1000000 in
set_option maxRecDepth 100000 in
theorem hf6y (B sb cb : Nat) (clsn : Int) (d : List UInt8) (cd : Value) (m : Ln.Mod) (w : World) (h : Ln.StAt B w sb m) (hB : B ≤ w.heap.size) (hc : Ln.Rd w cd (Ln.u8s d)) (hcb : w.heap[cb]? = some (.cells #[.int .i64 6, .int .i64 clsn, cd] 62 (0, 0))) (hcl : m.closed = false) (o : Option Ln.Mod) (HCAL : Hid (Calls Try.prog 68 #[.pointer (some ⟨sb, 0, none⟩), .agg #[.int .i64 6, .int .i64 clsn, cd], .agg #[.int .i64 0, .int .i64 0, .slice none 0 0]] w (Ln.Did B sb w o))) :
    Calls Try.prog 71 #[.pointer (some ⟨sb, 0, none⟩), .pointer (some ⟨cb, 0, none⟩)] w (Ln.Did B sb w o) := by
  have HS := Lib.hid h
  have HC := Lib.hid hc
  obtain ⟨h0, v, h1, h2⟩ := h
  obtain ⟨c0, c1, c2, c3, c4, c5, c6, c7⟩ := Ln.cells8 h1
  have f7 := Qu.blk_frozen h1 7
  have hlt := Qu.blk_lt h1
  have hltc := Qu.blk_lt hcb
  have x0 := Qu.blk_cell hcb 0
  have x1 := Qu.blk_cell hcb 1
  have x2 := Qu.blk_cell hcb 2
  simp only [List.getElem?_toArray, List.getElem?_cons_succ, List.getElem?_cons_zero] at x0 x1 x2
  clear h1 h2 hc hcb c0 c1 c2 c4 c5 c6
  rw [hcl] at c7
  clear hcl
  go_enter Try.func71, Try.ntmps71
  go_wp2_with (go_at_call 58; first | ((with_reducible refine (may_true _).mono ?_); rintro e w' ⟨rfl, rfl⟩) | ((with_reducible refine (may_false _).mono ?_); rintro e w' ⟨rfl, rfl⟩))
  refine HCAL.out.mono ?_
  intro e w6 hd
  cases o with
  | none =>
    obtain ⟨rfl, hb⟩ := hd.none
    clear hd
    go_wp2
    exact ⟨rfl, hb, rfl⟩
  | some t =>
    obtain ⟨rfl, hb6, hs6⟩ := hd.some
    have HS6 := Lib.hid hs6
    have HB6 := Lib.hid hb6
    clear hd hs6 hb6
    go_wp2_with fail
    refine bodyPost_ret (results_none rfl _ _ _) rfl ?_
    exact ⟨HB6.out, rfl, HS6.out⟩

set_option maxHeartbeats 1000000 in
set_option maxRecDepth 100000 in
theorem hf7c (B sb cb : Nat) (clsn : Int) (d : List UInt8) (cd : Value) (m : Ln.Mod) (w : World) (h : Ln.StAt B w sb m) (hB : B ≤ w.heap.size) (hc : Ln.Rd w cd (Ln.u8s d)) (hcb : w.heap[cb]? = some (.cells #[.int .i64 7, .int .i64 clsn, cd] 62 (0, 0))) (hcl : m.closed = true) :
    Calls Try.prog 71 #[.pointer (some ⟨sb, 0, none⟩), .pointer (some ⟨cb, 0, none⟩)] w (Ln.Did B sb w none) := by
  have HS := Lib.hid h
  have HC := Lib.hid hc
  obtain ⟨h0, v, h1, h2⟩ := h
  obtain ⟨c0, c1, c2, c3, c4, c5, c6, c7⟩ := Ln.cells8 h1
  have f7 := Qu.blk_frozen h1 7
  have hlt := Qu.blk_lt h1
  have hltc := Qu.blk_lt hcb
  have x0 := Qu.blk_cell hcb 0
  have x1 := Qu.blk_cell hcb 1
  have x2 := Qu.blk_cell hcb 2
  simp only [List.getElem?_toArray, List.getElem?_cons_succ, List.getElem?_cons_zero] at x0 x1 x2
  clear h1 h2 hc hcb c0 c1 c2 c4 c5 c6
  rw [hcl] at c7
  clear hcl
  go_enter Try.func71, Try.ntmps71
  go_wp2_with (go_at_call 58; first | ((with_reducible refine (may_true _).mono ?_); rintro e w' ⟨rfl, rfl⟩) | ((with_reducible refine (may_false _).mono ?_); rintro e w' ⟨rfl, rfl⟩))
  exact ⟨rfl, Ln.Fra.refl _ _ _, rfl⟩

set_option maxHeartbeats 1000000 in
set_option maxRecDepth 100000 in
theorem hf7y (B sb cb : Nat) (clsn : Int) (d : List UInt8) (cd : Value) (m : Ln.Mod) (w : World) (h : Ln.StAt B w sb m) (hB : B ≤ w.heap.size) (hc : Ln.Rd w cd (Ln.u8s d)) (hcb : w.heap[cb]? = some (.cells #[.int .i64 7, .int .i64 clsn, cd] 62 (0, 0))) (hcl : m.closed = false) :
    Calls Try.prog 71 #[.pointer (some ⟨sb, 0, none⟩), .pointer (some ⟨cb, 0, none⟩)] w (Ln.Did B sb w (some { m with closed := true })) := by
  have HS := Lib.hid h
  have HC := Lib.hid hc
  obtain ⟨h0, v, h1, h2⟩ := h
  obtain ⟨c0, c1, c2, c3, c4, c5, c6, c7⟩ := Ln.cells8 h1
  have f7 := Qu.blk_frozen h1 7
  have hlt := Qu.blk_lt h1
  have hltc := Qu.blk_lt hcb
  have x0 := Qu.blk_cell hcb 0
  have x1 := Qu.blk_cell hcb 1
  have x2 := Qu.blk_cell hcb 2
  simp only [List.getElem?_toArray, List.getElem?_cons_succ, List.getElem?_cons_zero] at x0 x1 x2
  clear h1 h2 hc hcb c0 c1 c2 c4 c5 c6
  rw [hcl] at c7
  clear hcl
  go_enter Try.func71, Try.ntmps71
  go_wp2_with (go_at_call 58; first | ((with_reducible refine (may_true _).mono ?_); rintro e w' ⟨rfl, rfl⟩) | ((with_reducible refine (may_false _).mono ?_); rintro e w' ⟨rfl, rfl⟩))
  refine bodyPost_ret (results_none rfl _ _ _) rfl ?_
  exact ⟨(Ln.Fra.refl _ _ _).set h0 _ _, rfl, HS.out.shut⟩

set_option maxHeartbeats 1000000 in
set_option maxRecDepth 100000 in
theorem hfX (B sb cb : Nat) (ck clsn : Int) (d : List UInt8) (cd : Value) (m : Ln.Mod) (w : World) (h : Ln.StAt B w sb m) (hB : B ≤ w.heap.size) (hc : Ln.Rd w cd (Ln.u8s d)) (hcb : w.heap[cb]? = some (.cells #[.int .i64 ck, .int .i64 clsn, cd] 62 (0, 0))) (k1 : ck ≠ 1) (k2 : ck ≠ 2) (k6 : ck ≠ 6) (k7 : ck ≠ 7) :
    Calls Try.prog 71 #[.pointer (some ⟨sb, 0, none⟩), .pointer (some ⟨cb, 0, none⟩)] w (Ln.Did B sb w none) := by
  have HS := Lib.hid h
  have HC := Lib.hid hc
  obtain ⟨h0, v, h1, h2⟩ := h
  obtain ⟨c0, c1, c2, c3, c4, c5, c6, c7⟩ := Ln.cells8 h1
  have f7 := Qu.blk_frozen h1 7
  have hlt := Qu.blk_lt h1
  have hltc := Qu.blk_lt hcb
  have x0 := Qu.blk_cell hcb 0
  have x1 := Qu.blk_cell hcb 1
  have x2 := Qu.blk_cell hcb 2
  simp only [List.getElem?_toArray, List.getElem?_cons_succ, List.getElem?_cons_zero] at x0 x1 x2
  clear h1 h2 hc hcb c0 c1 c2 c4 c5 c6
  have a1 : (ck == 1) = false := beq_eq_false_iff_ne.2 k1
  have a2 : (ck == 2) = false := beq_eq_false_iff_ne.2 k2
  have a6 : (ck == 6) = false := beq_eq_false_iff_ne.2 k6
  have a7 : (ck == 7) = false := beq_eq_false_iff_ne.2 k7
  clear k1 k2 k6 k7
  go_enter Try.func71, Try.ntmps71
  go_wp2_with (go_at_call 58; first | ((with_reducible refine (may_true _).mono ?_); rintro e w' ⟨rfl, rfl⟩) | ((with_reducible refine (may_false _).mono ?_); rintro e w' ⟨rfl, rfl⟩))
  exact ⟨rfl, Ln.Fra.refl _ _ _, rfl⟩

def Ln.insideH (m : Ln.Mod) (c : Ln.Call) : Option Ln.Mod :=
  if c.kind = 1 ∨ c.kind = 2 then Ln.addF m m.next c.data
  else if c.kind = 6 then (if m.closed = true then none else Ln.truncF m c ⟨0, 0, []⟩)
  else if c.kind = 7 then (if m.closed = true then none else some { m with closed := true })
  else none

theorem hf_any (B sb cb : Nat) (c : Ln.Call) (cd : Value) (m : Ln.Mod) (w : World) (h : Ln.StAt B w sb m) (hB : B ≤ w.heap.size) (hc : Ln.Rd w cd (Ln.u8s c.data))
    (hcb : w.heap[cb]? = some (.cells #[.int .i64 c.kind, .int .i64 c.lsn, cd] 62 (0, 0))) (hw : Ln.WF m) :
    Calls Try.prog 71 #[.pointer (some ⟨sb, 0, none⟩), .pointer (some ⟨cb, 0, none⟩)] w (Ln.Did B sb w (Ln.insideH m c)) := by
  have hadd := add_any B sb m.next c.data cd m w.drew h.drew hB hc.drew hw.ln hw.n0
  have htr := trunc_any B sb c ⟨0, 0, []⟩ cd (.slice none 0 0) m w h hB hc (.inl ⟨rfl, rfl⟩) hw.ln hw.n0
  obtain ⟨ck, clsn, d⟩ := c
  unfold Ln.insideH
  dsimp only at hc hcb hadd htr ⊢
  by_cases k1 : ck = 1
  · subst k1
    rw [if_pos (.inl rfl)]
    exact hf1 B sb cb clsn d cd m w h hB hc hcb _ hadd
  by_cases k2 : ck = 2
  · subst k2
    rw [if_pos (.inr rfl)]
    exact hf2 B sb cb clsn d cd m w h hB hc hcb _ hadd
  rw [if_neg (by omega)]
  by_cases k6 : ck = 6
  · subst k6
    rw [if_pos rfl]
    cases hcl : m.closed with
    | true => rw [if_pos rfl]; exact hf6c B sb cb clsn d cd m w h hB hc hcb hcl
    | false => rw [if_neg (by simp)]; exact hf6y B sb cb clsn d cd m w h hB hc hcb hcl _ htr
  rw [if_neg k6]
  by_cases k7 : ck = 7
  · subst k7
    rw [if_pos rfl]
    cases hcl : m.closed with
    | true => rw [if_pos rfl]; exact hf7c B sb cb clsn d cd m w h hB hc hcb hcl
    | false => rw [if_neg (by simp)]; exact hf7y B sb cb clsn d cd m w h hB hc hcb hcl
  rw [if_neg k7]
  exact hfX B sb cb ck clsn d cd m w h hB hc hcb k1 k2 k6 k7

end Go.Proofs.Ytgdeoodihhcdjaa
