/- The reference's Take. -/
import Derived.Test.YtgdeoodihhcdjaaRd
import Derived.Test.YtgdeoodihhcdjaaQq
namespace Go.Proofs.Ytgdeoodihhcdjaa
open Go.RowKit
set_option linter.unusedVariables false
set_option linter.unusedSimpArgs false

def Qu.RTaken (w : World) (rb c : Nat) (b : Int) (B1 B2 : Option Nat) (ys : List (Int × Int)) (G : List (Int × Int) × List (Int × Int)) (v1 v2 : Value) (w' : World) : Prop :=
  ∃ LO, Qu.Line w' v1 G.1 LO ∧ (∀ i, LO = some i → w.heap.size ≤ i) ∧ w'.ownsRow w.heap.size 2 1 v2 (Qu.enterF c b G.2 ys (Qu.sum G.2)).2.2.2.length (Qu.ints (Qu.enterF c b G.2 ys (Qu.sum G.2)).2.2.2) ∧
    Qu.RTo w rb c b B1 B2 (Qu.enterF c b G.2 ys (Qu.sum G.2)).1 (Qu.enterF c b G.2 ys (Qu.sum G.2)).2.1 w'

structure Qu.RTakeRel (w : World) (rb c : Nat) (b : Int) (B1 B2 : Option Nat) (ys xs0 : List (Int × Int)) (G : List (Int × Int) × List (Int × Int)) (most bytes : Int) (gk : Nat) (l : Value) (wr : World) : Prop where
  mk :: (out : ∃ (xs out : List (Int × Int)) (C1 LO : Option Nat), gk = xs.length ∧ Qu.RAt wr rb c b xs ys C1 B2 ∧ Qu.Line wr l out LO ∧ (∀ i, LO = some i → w.heap.size ≤ i) ∧ (∀ i, LO = some i → C1 ≠ some i) ∧
    Qu.Fr (fun i => i = rb ∨ B1 = some i ∨ B2 = some i) w wr ∧ (C1 = B1 ∨ ∀ i, C1 = some i → w.heap.size ≤ i) ∧ G = Qu.takeF most bytes out (Qu.sum out) xs ∧ out ++ xs = xs0)

theorem Qu.rtake_end {w wr w2 : World} {rb c : Nat} {b : Int} {B1 B2 C1 LO : Option Nat} {ys xs out : List (Int × Int)} {l v2 : Value} (hB2 : ∀ i, B2 = some i → i < w.heap.size)
    (hat : Qu.RAt wr rb c b xs ys C1 B2) (hl : Qu.Line wr l out LO) (hlo : ∀ i, LO = some i → w.heap.size ≤ i) (hne : ∀ i, LO = some i → C1 ≠ some i) (hf : Qu.Fr (fun i => i = rb ∨ B1 = some i ∨ B2 = some i) w wr)
    (hC1 : C1 = B1 ∨ ∀ i, C1 = some i → w.heap.size ≤ i) (hcame : Qu.Came wr rb c b C1 B2 (Qu.enterF c b xs ys (Qu.sum xs)) v2 w2) : Qu.RTaken w rb c b B1 B2 ys (out, xs) l v2 w2 := by
  obtain ⟨D1, D2, h1, h2, h3, h4, h5⟩ := hcame
  obtain ⟨V1, V2, hblk, hl1, hl2, hne12⟩ := hat
  refine ⟨LO, hl.keep (fun i hi => h3.block i (hl.lt i hi) ?_), hlo, Qu.own_base h2 hf.size, D1, D2, h1, hf.trans h3 ?_, ?_, h5.imp_right (fun h i hi => Nat.le_trans hf.size (h i hi))⟩
  · rintro (h | h | h)
    · exact hl.ne90 hblk i hi h
    · exact hne i hi h
    · have := hB2 i h; have := hlo i hi; omega
  · rintro i hi (h | h | h)
    · exact .inl h
    · rcases hC1 with h1 | h1
      · exact .inr (.inl (h1 ▸ h))
      · have := h1 i h; omega
    · exact .inr (.inr h)
  · rcases h4 with h | h
    · rw [h]; exact hC1
    · exact .inr (fun i hi => Nat.le_trans hf.size (h i hi))

/-- One more is taken; the rest, copied and stored. -/
theorem Qu.rtake_next {w wr w3 w4 : World} {rb c : Nat} {b px py most bytes : Int} {B1 B2 LO L3 D1 : Option Nat} {G : List (Int × Int) × List (Int × Int)} {xs ys out xs0 : List (Int × Int)} {V1 V2 v3 : Value} {A4 : Option Addr} {cp4 : Nat} {o : Obj} (hB2 : ∀ i, B2 = some i → i < w.heap.size)
    (hm : (out.length : Int) < most) (hst : ¬ (0 < out.length ∧ bytes < Qu.sum out + py)) (hG : G = Qu.takeF most bytes out (Qu.sum out) ((px, py) :: xs)) (hx0 : out ++ (px, py) :: xs = xs0)
    (hb : wr.heap[rb]? = some (.cells #[.int .i64 c, .int .i64 b, V1, V2] 90 (0, 0))) (hl2 : Qu.Line wr V2 ys B2) (hlo : ∀ i, LO = some i → w.heap.size ≤ i)
    (hf : Qu.Fr (fun i => i = rb ∨ B1 = some i ∨ B2 = some i) w wr)
    (hl3 : Qu.Line w3 v3 (out ++ [(px, py)]) L3) (hf3 : Qu.Fr (fun i => LO = some i) (wr.alloc o) w3) (hL3 : L3 = LO ∨ ∃ i, L3 = some i ∧ (wr.alloc o).heap.size ≤ i) (hlor : ∀ i, LO = some i → i < wr.heap.size ∧ i ≠ rb)
    (hb4 : Below w3.heap.size w3 w4) (hl4 : Qu.Line w4 (.slice A4 xs.length cp4) xs D1) (hD1 : ∀ i, D1 = some i → w3.heap.size ≤ i) :
    Qu.RTakeRel w rb c b B1 B2 ys xs0 G most bytes xs.length v3 (w4.setCell ⟨rb, 2, none⟩ (.slice A4 xs.length cp4)) := by
  have hf3' : Qu.Fr (fun i => LO = some i) wr w3 := ((Qu.Fr.refl (fun i => LO = some i) wr).alloc o).trans hf3 (fun _ _ h => h)
  have hb3 := Qu.blk_fr hb hf3' (fun h => (hlor rb h).2 rfl)
  have hbb := Qu.blk_below hb3 hb4
  have hl23 : Qu.Line w4 V2 ys B2 := hl2.keep (fun i hi => (hb4.block i (Nat.lt_of_lt_of_le (hl2.lt i hi) hf3'.size)).trans (hf3'.block i (hl2.lt i hi) (fun h => by have := hB2 i hi; have := hlo i h; omega)))
  have hl34 : Qu.Line w4 v3 (out ++ [(px, py)]) L3 := hl3.keep (fun i hi => hb4.block i (hl3.lt i hi))
  refine ⟨⟨xs, out ++ [(px, py)], D1, L3, rfl, Qu.RAt.set2 hbb hl4 hl23 ?_, hl34.keep (fun i hi => Below.heap_setCell _ _ _ _ (hl34.ne90 hbb i hi)), ?_, ?_, ?_, .inr ?_, ?_, by rw [← hx0]; simp⟩⟩
  · intro i hi h2
    have := hD1 i hi; have := hf3'.size; have := hl2.lt i h2; omega
  · intro i hi
    rcases hL3 with h | ⟨j, h, hj⟩
    · exact hlo i (h ▸ hi)
    · have := hf.size; simp at hj; rw [h] at hi; injection hi with hi; omega
  · intro i hi h2
    have := hD1 i h2; have := hl3.lt i hi; omega
  · refine (((hf.trans hf3' ?_).trans (S1 := fun _ => False) (Qu.Fr.of_below hb4) (fun _ _ h => h.elim))).setCell (p := ⟨rb, 2, none⟩) (fun _ => .inl rfl) _
    intro i hi h
    have := hlo i h; omega
  · intro i hi
    have := hD1 i hi; have := hf3'.size; have := hf.size; omega
  · rw [hG, Qu.takeF, if_pos hm, if_neg hst, Qu.sum_append, Qu.sum_cons, Qu.sum_nil]; simp

set_option maxHeartbeats 1000000 in
set_option maxRecDepth 100000 in
theorem rtake_any (rb c : Nat) (b : Int) (xs0 ys : List (Int × Int)) (B1 B2 : Option Nat) (most bytes : Int) (w : World) (hc : c ≤ 1024) (hb0 : 0 ≤ b ∧ b ≤ 17000000)
    (hat : Qu.RAt w rb c b xs0 ys B1 B2) (hx : xs0.length ≤ c) (hu : Qu.sum xs0 ≤ b) (hpx : ∀ p ∈ xs0, 0 ≤ p.2) (hp : ∀ p ∈ ys, 0 ≤ p.2 ∧ p.2 ≤ b) (hy : ys.length ≤ 1024) :
    Calls Try.prog 16 #[.pointer (some ⟨rb, 0, none⟩), .int .i64 most, .int .i64 bytes] w fun e w' => ∃ v1 v2, e = .returned (.tuple #[v1, v2]) ∧ Qu.RTaken w rb c b B1 B2 ys (Qu.takeF most bytes [] 0 xs0) v1 v2 w' := by
  have HAT := Lib.hid hat
  have HP := Lib.hid hp
  have HPX := Lib.hid hpx
  have hb1 := hb0.1
  have hb2 := hb0.2
  have hB2 : ∀ i, B2 = some i → i < w.heap.size := by
    obtain ⟨V1, V2, hblk, hl1, hl2, hne⟩ := hat
    exact hl2.lt
  have HB2 := Lib.hid hB2
  obtain ⟨G, hG⟩ : ∃ G, G = Qu.takeF most bytes [] 0 xs0 := ⟨_, rfl⟩
  rw [← hG]
  have HG := Lib.hid hG
  have hcome := fun (xs : List (Int × Int)) (C1 : Option Nat) (w1 : World) (hat1 : Qu.RAt w1 rb c b xs ys C1 B2) (h1 : xs.length ≤ c) (h2 : Qu.sum xs ≤ b) (h3 : ∀ p ∈ xs, 0 ≤ p.2) => come_any rb c b xs ys C1 B2 w1 hc hb0 hat1 h1 h2 h3 hp (by omega)
  have HCOME := Lib.hid hcome
  clear hat hp hpx hG hcome hB2 hb0
  go_enter Try.func16, Try.ntmps16
  go_wp2
  go_loopg [8] xs0.length (fun gk l wr => Qu.RTakeRel w rb c b B1 B2 ys xs0 G most bytes gk l wr)
  case atStart => exact ⟨xs0, [], B1, none, rfl, HAT.out, .inl ⟨rfl, rfl, rfl⟩, (fun i h => by cases h), (fun i h => by cases h), Qu.Fr.refl _ _, .inl rfl, by rw [HG.out]; rfl, by simp⟩
  case round =>
    obtain ⟨xs, out, C1, LO, rfl, hat, hl, hlo, hne, hfr, hC1, hGr, hx0⟩ := hrel.out
    clear hrel
    have hsum := Qu.sum_append out xs
    rw [hx0] at hsum
    have hpo : ∀ p ∈ out, 0 ≤ p.2 := fun p hp => HPX.out p (by rw [← hx0]; simp [hp])
    have hpxs : ∀ p ∈ xs, 0 ≤ p.2 := fun p hp => HPX.out p (by rw [← hx0]; simp [hp])
    have ho0 := Qu.sum_nonneg out hpo
    have hs0 := Qu.sum_nonneg xs hpxs
    have hlen : out.length + xs.length ≤ 1024 := by have := congrArg List.length hx0; simp at this; omega
    have hlenc : xs.length ≤ c := by have := congrArg List.length hx0; simp at this; omega
    have hsumb : Qu.sum xs ≤ b := by omega
    have HSUM := Lib.hid (sum_q _ out LO wr hl hpo (by omega) (by omega))
    obtain ⟨V1, V2, hblk, hl1, hl2, hne12⟩ := hat
    have hatr : Qu.RAt wr rb c b xs ys C1 B2 := ⟨V1, V2, hblk, hl1, hl2, hne12⟩
    have HATR := Lib.hid hatr
    have HC := Lib.hid (fun n => HCOME.out xs C1 (wr.drewN n) hatr hlenc hsumb hpxs)
    have HBLK := Lib.hid hblk
    have HL1 := Lib.hid hl1
    have HL2 := Lib.hid hl2
    have HL := Lib.hid hl
    have HLO := Lib.hid hlo
    have HNE := Lib.hid hne
    have HFR := Lib.hid hfr
    have HC1 := Lib.hid hC1
    have HGR := Lib.hid hGr
    have HX0 := Lib.hid hx0
    obtain ⟨c0, c1, c2, c3⟩ := Qu.cells4 hblk
    have hrb := Qu.blk_lt hblk
    obtain ⟨A1, cp1, rfl⟩ := hl1.slice
    obtain ⟨A2, cp2, rfl⟩ := hl2.slice
    obtain ⟨AO, cpo, rfl⟩ := hl.slice
    clear hatr hblk hl1 hl2 hne12 hl hlo hne hfr hC1 hGr hx0 hpo hpxs c0 c1 c3
    cases xs with
    | nil =>
      go_wp2
      go_quiet (fail)
      go_wp2_with (go_at_call 42; refine (HC.out _).mono ?_; rintro e w2 ⟨v2, rfl, hcame⟩)
      go_ret2
      refine ⟨_, _, rfl, ?_⟩
      rw [HGR.out, show Qu.takeF most bytes out (Qu.sum out) [] = (out, []) from rfl]
      exact Qu.rtake_end (wr := wr.drewN nq) HB2.out HATR.out HL.out HLO.out HNE.out (HFR.out.drewN nq) HC1.out hcame
    | cons p xs =>
      obtain ⟨px, py⟩ := p
      obtain ⟨lb, off, cap, hV, hlbl, q0, q1⟩ := HL1.out.get (j := 0) (by simp)
      simp only [Nat.zero_mul, Nat.add_zero, List.getD_cons_zero] at q0 q1
      injection hV with hV1 _ hV3
      subst hV1
      subst hV3
      rw [Qu.sum_cons] at hsum hs0 hsumb
      have hpy0 : 0 ≤ py := HPX.out (px, py) (by rw [← HX0.out]; simp)
      have hsx : 0 ≤ Qu.sum xs := Qu.sum_nonneg xs (fun p hp => HPX.out p (by rw [← HX0.out]; simp [hp]))
      simp only [List.length_cons] at hlen hlenc c2
      simp only at hsum hs0 hsumb
      have hcapl : xs.length + 1 ≤ cp1 := by
        rcases HL1.out with ⟨h, _, _⟩ | ⟨lb', off', cap', arr, hl, h, i2, i3, i4, i5, i6⟩
        · cases h
        · simp at h i2
          omega
      have hcapm : cp1 ≤ 9223372036854775807 := by
        rcases HL1.out with ⟨h, _, _⟩ | ⟨lb', off', cap', arr, hl, h, i2, i3, i4, i5, i6⟩
        · cases h
        · simp at h
          unfold maxLen at i3
          omega
      by_cases hm : (out.length : Int) < most
      · have HM := Lib.hid hm
        have hd : decide ((out.length : Int) < most) = true := decide_eq_true hm
        clear hm
        by_cases hstop : 0 < out.length ∧ bytes < Qu.sum out + py
        · have HST := Lib.hid hstop
          have hz : (out.length == 0) = false := by rw [beq_eq_false_iff_ne]; omega
          have hz2 : ((out.length : Int) == 0) = false := by rw [beq_eq_false_iff_ne]; omega
          have hle : decide (Qu.sum out + py ≤ bytes) = false := decide_eq_false (by omega)
          clear hstop
          go_wp2
          go_quiet ((go_at_call 41; exact Calls.quiet_of_same (HSUM.out _)))
          go_wp2_with (go_at_call 42; refine (HC.out _).mono ?_; rintro e w2 ⟨v2, rfl, hcame⟩)
          go_ret2
          refine ⟨_, _, rfl, ?_⟩
          rw [HGR.out, Qu.takeF, if_pos HM.out, if_pos HST.out]
          exact Qu.rtake_end (wr := wr.drewN nq) HB2.out HATR.out HL.out HLO.out HNE.out (HFR.out.drewN nq) HC1.out hcame
        · have HST := Lib.hid hstop
          have hcase : ((out.length == 0) = true) ∨ ((out.length == 0) = false ∧ decide (Qu.sum out + py ≤ bytes) = true) := by
            by_cases h : out.length = 0
            · exact .inl (by rw [beq_iff_eq]; exact h)
            · exact .inr ⟨by rw [beq_eq_false_iff_ne]; exact h, decide_eq_true (by omega)⟩
          clear hstop
          rcases hcase with hz | ⟨hz, hle⟩
          · have hz2 : ((out.length : Int) == 0) = true := by rw [beq_iff_eq] at hz ⊢; omega
            go_wp2
            go_quiet (fail)
            by_cases hc1 : cp1 = 1
            · subst hc1
              have hys : xs = [] := List.eq_nil_of_length_eq_zero (by omega)
              subst hys
              simp only [List.length_nil, Nat.zero_add] at c2
              go_wp2_with (first
                | (at_builtin; refine Qu.wpList_append_line _ rfl (.tmp 40) (.tmp 47) 31 rfl Try.underlying31 Try.info38 _ out LO rfl wr.heap.size px py rfl ((HL.out.drewN nq).keep (fun i hi => Below.heap_alloc _ _ _ (HL.out.lt i hi))) (heap_alloc_new _ _) (by omega) ?_; intro V3 w3 L3 hl3 hf3 hL3; have hb3 := Qu.blk_fr (Qu.blk_alloc (w := wr.drewN nq) HBLK.out _) hf3 (fun h => HL.out.ne90 HBLK.out rb h rfl); have e2 := (Qu.cells4 hb3).2.2.1; have hl13 := HL1.out.keep (w' := w3) (fun i hi => (hf3.block i (by have := HL1.out.lt i hi; simp; omega) (fun h => HNE.out i h hi)).trans (Below.heap_alloc _ _ _ (HL1.out.lt i hi))); have HT := Lib.hid hl13.tail; have hrb3 := Qu.blk_lt hb3; have HB3 := Lib.hid hb3; have HL3 := Lib.hid hl3; have HF3 := Lib.hid hf3; have HL33 := Lib.hid hL3; clear hb3 hl3 hf3 hL3 hl13)
                | (at_builtin; refine Qu.wpList_append_all _ rfl _ (.tmp 54) 31 rfl Try.underlying31 Try.info38 rfl _ [] C1 rfl (HT.out.1 rfl) (by decide) ?_; intro v4 w4 hown4 hb4; obtain ⟨D2, hl4, hD2⟩ := Qu.Line.of_own0 hown4; obtain ⟨A4, cp4, rfl⟩ := hl4.slice; have e4 := (Qu.cells4 (Qu.blk_below HB3.out hb4)).2.2.1; have f4 := Qu.blk_frozen (Qu.blk_below HB3.out hb4) 2))
              go_roundg 0
              case measure => simp
              case rel => exact Qu.rtake_next (wr := wr.drewN nq) HB2.out HM.out HST.out HGR.out HX0.out HBLK.out HL2.out HLO.out (HFR.out.drewN nq) HL3.out HF3.out HL33.out (fun i hi => ⟨HL.out.lt i hi, HL.out.ne90 HBLK.out i hi⟩) hb4 hl4 hD2
            · go_wp2_with (first
                | (at_builtin; refine Qu.wpList_append_line _ rfl (.tmp 40) (.tmp 47) 31 rfl Try.underlying31 Try.info38 _ out LO rfl wr.heap.size px py rfl ((HL.out.drewN nq).keep (fun i hi => Below.heap_alloc _ _ _ (HL.out.lt i hi))) (heap_alloc_new _ _) (by omega) ?_; intro V3 w3 L3 hl3 hf3 hL3; have hb3 := Qu.blk_fr (Qu.blk_alloc (w := wr.drewN nq) HBLK.out _) hf3 (fun h => HL.out.ne90 HBLK.out rb h rfl); have e2 := (Qu.cells4 hb3).2.2.1; have hl13 := HL1.out.keep (w' := w3) (fun i hi => (hf3.block i (by have := HL1.out.lt i hi; simp; omega) (fun h => HNE.out i h hi)).trans (Below.heap_alloc _ _ _ (HL1.out.lt i hi))); have HT := Lib.hid hl13.tail; have hrb3 := Qu.blk_lt hb3; have HB3 := Lib.hid hb3; have HL3 := Lib.hid hl3; have HF3 := Lib.hid hf3; have HL33 := Lib.hid hL3; clear hb3 hl3 hf3 hL3 hl13)
                | (at_builtin; refine Qu.wpList_append_all _ rfl _ (.tmp 54) 31 rfl Try.underlying31 Try.info38 rfl _ xs C1 rfl (HT.out.2 (by omega)) (by omega) ?_; intro v4 w4 hown4 hb4; obtain ⟨D2, hl4, hD2⟩ := Qu.Line.of_own0 hown4; obtain ⟨A4, cp4, rfl⟩ := hl4.slice; have e4 := (Qu.cells4 (Qu.blk_below HB3.out hb4)).2.2.1; have f4 := Qu.blk_frozen (Qu.blk_below HB3.out hb4) 2))
              go_roundg xs.length
              case measure => simp
              case rel => exact Qu.rtake_next (wr := wr.drewN nq) HB2.out HM.out HST.out HGR.out HX0.out HBLK.out HL2.out HLO.out (HFR.out.drewN nq) HL3.out HF3.out HL33.out (fun i hi => ⟨HL.out.lt i hi, HL.out.ne90 HBLK.out i hi⟩) hb4 hl4 hD2
          · have hz2 : ((out.length : Int) == 0) = false := by rw [beq_eq_false_iff_ne] at hz ⊢; omega
            go_wp2
            go_quiet ((go_at_call 41; exact Calls.quiet_of_same (HSUM.out _)))
            by_cases hc1 : cp1 = 1
            · subst hc1
              have hys : xs = [] := List.eq_nil_of_length_eq_zero (by omega)
              subst hys
              simp only [List.length_nil, Nat.zero_add] at c2
              go_wp2_with (first
                | (at_builtin; refine Qu.wpList_append_line _ rfl (.tmp 40) (.tmp 47) 31 rfl Try.underlying31 Try.info38 _ out LO rfl wr.heap.size px py rfl ((HL.out.drewN nq).keep (fun i hi => Below.heap_alloc _ _ _ (HL.out.lt i hi))) (heap_alloc_new _ _) (by omega) ?_; intro V3 w3 L3 hl3 hf3 hL3; have hb3 := Qu.blk_fr (Qu.blk_alloc (w := wr.drewN nq) HBLK.out _) hf3 (fun h => HL.out.ne90 HBLK.out rb h rfl); have e2 := (Qu.cells4 hb3).2.2.1; have hl13 := HL1.out.keep (w' := w3) (fun i hi => (hf3.block i (by have := HL1.out.lt i hi; simp; omega) (fun h => HNE.out i h hi)).trans (Below.heap_alloc _ _ _ (HL1.out.lt i hi))); have HT := Lib.hid hl13.tail; have hrb3 := Qu.blk_lt hb3; have HB3 := Lib.hid hb3; have HL3 := Lib.hid hl3; have HF3 := Lib.hid hf3; have HL33 := Lib.hid hL3; clear hb3 hl3 hf3 hL3 hl13)
                | (at_builtin; refine Qu.wpList_append_all _ rfl _ (.tmp 54) 31 rfl Try.underlying31 Try.info38 rfl _ [] C1 rfl (HT.out.1 rfl) (by decide) ?_; intro v4 w4 hown4 hb4; obtain ⟨D2, hl4, hD2⟩ := Qu.Line.of_own0 hown4; obtain ⟨A4, cp4, rfl⟩ := hl4.slice; have e4 := (Qu.cells4 (Qu.blk_below HB3.out hb4)).2.2.1; have f4 := Qu.blk_frozen (Qu.blk_below HB3.out hb4) 2))
              go_roundg 0
              case measure => simp
              case rel => exact Qu.rtake_next (wr := wr.drewN nq) HB2.out HM.out HST.out HGR.out HX0.out HBLK.out HL2.out HLO.out (HFR.out.drewN nq) HL3.out HF3.out HL33.out (fun i hi => ⟨HL.out.lt i hi, HL.out.ne90 HBLK.out i hi⟩) hb4 hl4 hD2
            · go_wp2_with (first
                | (at_builtin; refine Qu.wpList_append_line _ rfl (.tmp 40) (.tmp 47) 31 rfl Try.underlying31 Try.info38 _ out LO rfl wr.heap.size px py rfl ((HL.out.drewN nq).keep (fun i hi => Below.heap_alloc _ _ _ (HL.out.lt i hi))) (heap_alloc_new _ _) (by omega) ?_; intro V3 w3 L3 hl3 hf3 hL3; have hb3 := Qu.blk_fr (Qu.blk_alloc (w := wr.drewN nq) HBLK.out _) hf3 (fun h => HL.out.ne90 HBLK.out rb h rfl); have e2 := (Qu.cells4 hb3).2.2.1; have hl13 := HL1.out.keep (w' := w3) (fun i hi => (hf3.block i (by have := HL1.out.lt i hi; simp; omega) (fun h => HNE.out i h hi)).trans (Below.heap_alloc _ _ _ (HL1.out.lt i hi))); have HT := Lib.hid hl13.tail; have hrb3 := Qu.blk_lt hb3; have HB3 := Lib.hid hb3; have HL3 := Lib.hid hl3; have HF3 := Lib.hid hf3; have HL33 := Lib.hid hL3; clear hb3 hl3 hf3 hL3 hl13)
                | (at_builtin; refine Qu.wpList_append_all _ rfl _ (.tmp 54) 31 rfl Try.underlying31 Try.info38 rfl _ xs C1 rfl (HT.out.2 (by omega)) (by omega) ?_; intro v4 w4 hown4 hb4; obtain ⟨D2, hl4, hD2⟩ := Qu.Line.of_own0 hown4; obtain ⟨A4, cp4, rfl⟩ := hl4.slice; have e4 := (Qu.cells4 (Qu.blk_below HB3.out hb4)).2.2.1; have f4 := Qu.blk_frozen (Qu.blk_below HB3.out hb4) 2))
              go_roundg xs.length
              case measure => simp
              case rel => exact Qu.rtake_next (wr := wr.drewN nq) HB2.out HM.out HST.out HGR.out HX0.out HBLK.out HL2.out HLO.out (HFR.out.drewN nq) HL3.out HF3.out HL33.out (fun i hi => ⟨HL.out.lt i hi, HL.out.ne90 HBLK.out i hi⟩) hb4 hl4 hD2
      · have HM := Lib.hid hm
        have hd : decide ((out.length : Int) < most) = false := decide_eq_false hm
        clear hm
        go_wp2
        go_quiet (fail)
        go_wp2_with (go_at_call 42; refine (HC.out _).mono ?_; rintro e w2 ⟨v2, rfl, hcame⟩)
        go_ret2
        refine ⟨_, _, rfl, ?_⟩
        rw [HGR.out, Qu.takeF, if_neg (by have := HM.out; omega)]
        exact Qu.rtake_end (wr := wr.drewN nq) HB2.out HATR.out HL.out HLO.out HNE.out (HFR.out.drewN nq) HC1.out hcame
end Go.Proofs.Ytgdeoodihhcdjaa
