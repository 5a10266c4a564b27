/- The contracts of Check and Most. -/
import Derived.Test.YtgdeoodihhcdjaaNq
namespace Go.Proofs.Ytgdeoodihhcdjaa
open Go.RowKit
set_option linter.unusedVariables false
set_option linter.unusedSimpArgs false


theorem begun_any (base : Int) (A : Option Addr) (cp : Nat) (ps : List Ln.Past) (w : World) (hp : Ln.Pasts w A cp ps) (hlen : ps.length ≤ 100000) :
    Calls Try.prog 49 #[.int .i64 base, .slice A ps.length cp] w (Ln.Begun w base A cp ps) := by
  by_cases hb : base < 1
  · refine (begun_base base _ w hb).mono ?_
    rintro e w' ⟨rfl, h⟩
    have h1 : Ln.begunF base ps = 1 := by unfold Ln.begunF; rw [if_pos hb]
    refine ⟨h, ?_⟩
    rw [h1, if_neg (by decide)]
  · by_cases h0 : Ln.begunF base ps = 0
    · exact begun_ok base A cp ps w (by omega) hp hlen h0
    · exact begun_err base A cp ps w (by omega) hp hlen h0
theorem Ln.kc_key0 : Ln.kc Ln.key0 = #[Value.int IntKind.u64 0, Value.int IntKind.i64 0, Value.int IntKind.i64 0, Value.int IntKind.i64 0, Value.int IntKind.i64 0, Value.int IntKind.i64 0, Value.int IntKind.i64 0, Value.int IntKind.i64 0, Value.int IntKind.i64 0, Value.int IntKind.i64 0, Value.int IntKind.i64 0, Value.int IntKind.i64 0, Value.int IntKind.i64 0] := rfl
theorem Ln.recs_nil (W : World) : Ln.Recs 0 W (.slice none 0 0) [] := ⟨[], World.ownsRow_nil _ _ _ _, fun i hi => by simp at hi⟩
theorem Ln.kok0 : Ln.KOk Ln.key0 := ⟨by decide, rfl, fun x hx => by
  rw [List.eq_of_mem_replicate hx]
  exact ⟨by decide, by decide⟩⟩
/-- What Check comes to. -/
def Ln.Checked (w : World) (base : Int) (ps : List Ln.Past) (e : Ending) (w' : World) : Prop :=
  Below w.heap.size w w' ∧ if Ln.begunF base ps = 0 then
      (if (Ln.searchF base ps).1 = true then ∃ OV, e = .returned (.tuple #[OV, .bool true, .int .i64 0]) ∧ w'.ownsRow w.heap.size 3 1 OV (Ln.searchF base ps).2.order.length (Ln.nats (Ln.searchF base ps).2.order)
       else e = .returned (.tuple #[.slice none 0 0, .bool false, .int .i64 0]))
    else e = .returned (.tuple #[.slice none 0 0, .bool false, .int .i64 (Ln.begunF base ps)])
set_option maxHeartbeats 2000000 in
set_option maxRecDepth 100000 in
theorem check_any (base : Int) (A : Option Addr) (cp : Nat) (ps : List Ln.Past) (w : World) (hb : Ln.I64 base) (hp : Ln.Pasts w A cp ps) (hlen : ps.length ≤ 100000) :
    Calls Try.prog 27 #[.int .i64 base, .slice A ps.length cp] w (Ln.Checked w base ps) := by
  have hbeg := begun_any base A cp ps w hp hlen
  have HP := Lib.hid hp
  by_cases h0 : Ln.begunF base ps = 0
  · have hb1 := (Ln.begun_ok h0).1
    have hn := (Ln.begun_ok h0).2.1
    have hbeg2 := hbeg.mono (R' := fun e w' => Below w.heap.size w w' ∧ ∃ sb mb bb, e = .returned (.tuple #[.pointer (some ⟨sb, 0, none⟩), .agg #[Value.int IntKind.i64 base, Value.int IntKind.i64 base, Value.int IntKind.i64 base, Value.int IntKind.i64 base, Value.int IntKind.i64 9223372036854775807, Value.slice none 0 0, Value.bool false, Value.bool false], .int .i64 0]) ∧ Ln.Srch w w' sb mb bb A cp ps Ln.st0 (.slice none 0 0)) (by
      rintro e w' ⟨h1, h2⟩
      rw [if_pos h0] at h2
      obtain ⟨sb, mb, bb, he, h3, h4, h5, h6, h7⟩ := h2
      exact ⟨h1, sb, mb, bb, he, ⟨h1, h6, World.ownsRow_nil _ _ _ _, Ln.Kys.nil h7, h3, h4⟩⟩)
    have HBEG := Lib.hid hbeg2
    have H0 := Lib.hid h0
    have HN := Lib.hid hn
    clear hbeg hbeg2 h0 hp hn
    have hfind := fun (sb mb bb : Nat) (W : World) (h : Ln.Srch w W sb mb bb A cp ps Ln.st0 (.slice none 0 0)) => finds_any w sb mb bb A cp ps HP.out HN.out 13 (Ln.start base) Ln.key0 Ln.st0 (.slice none 0 0) (.agg #[Value.int IntKind.i64 base, Value.int IntKind.i64 base, Value.int IntKind.i64 base, Value.int IntKind.i64 base, Value.int IntKind.i64 9223372036854775807, Value.slice none 0 0, Value.bool false, Value.bool false]) 0 W h ⟨_, rfl, Ln.recs_nil W⟩ (Ln.mok_start (by omega) hb.2) (by omega) Ln.kok0 (by rw [Ln.cnt_key0]; have := HN.out; omega) (by decide) (by have := Ln.Tn13; show 0 + Ln.Tn 13 ≤ _; omega)
    rw [Ln.kc_key0] at hfind
    change ∀ (sb mb bb : Nat) (W : World), _ → Calls _ _ _ _ (Ln.Found w W sb mb bb A cp ps (Ln.searchF base ps)) at hfind
    obtain ⟨F, hF⟩ : ∃ F, Ln.searchF base ps = F := ⟨_, rfl⟩
    simp only [hF] at hfind
    have HF := Lib.hid hF
    cases hFb : F.1 with
    | false =>
      have HFB := Lib.hid hFb
      have hfind2 := fun sb mb bb W h => (hfind sb mb bb W h).mono (R' := fun e w' => e = .returned (.bool false) ∧ Below w.heap.size w w') (by rintro e w' ⟨OV', he, h1, _⟩; exact ⟨by rw [he, hFb], h1.low⟩)
      have HFIND := Lib.hid hfind2
      clear hfind hfind2 hF hFb
      go_enter Try.func27, Try.ntmps27
      go_wp2_with (first
        | (go_at_call 49; refine HBEG.out.mono ?_; rintro e w5 ⟨hb5, sb, mb, bb, rfl, hs5⟩; have HB5 := Lib.hid hb5; have HS5 := Lib.hid hs5; clear hb5 hs5)
        | (go_at_call 50; refine (HFIND.out sb mb bb _ (HS5.out.below (Ln.below_alloc _ w5 (Nat.le_refl _) _))).mono ?_; rintro e w9 ⟨rfl, hb9⟩; have HB9 := Lib.hid hb9; clear hb9))
      go_ret3
      refine ⟨HB9.out, ?_⟩
      rw [if_pos H0.out, HF.out, if_neg (by rw [HFB.out]; decide)]
      rfl
    | true =>
      have HFB := Lib.hid hFb
      have hfind2 := fun sb mb bb W h => (hfind sb mb bb W h).mono (R' := fun e w' => e = .returned (.bool true) ∧ ∃ OV', Ln.Srch w w' sb mb bb A cp ps F.2 OV') (by rintro e w' ⟨OV', he, h1, _⟩; exact ⟨by rw [he, hFb], OV', h1⟩)
      have HFIND := Lib.hid hfind2
      clear hfind hfind2 hF hFb
      go_enter Try.func27, Try.ntmps27
      go_wp2_with (first
        | (go_at_call 49; refine HBEG.out.mono ?_; rintro e w5 ⟨hb5, sb, mb, bb, rfl, hs5⟩; have HB5 := Lib.hid hb5; have HS5 := Lib.hid hs5; clear hb5 hs5)
        | (go_at_call 50; refine (HFIND.out sb mb bb _ (HS5.out.below (Ln.below_alloc _ w5 (Nat.le_refl _) _))).mono ?_; rintro e w9 ⟨rfl, OV', hs9⟩; have q4 : w9.cell? ⟨sb, 4, none⟩ = some OV' := Qu.blk_cell hs9.sch.1 4; have hsblt9 := Qu.blk_lt hs9.sch.1; have HS9 := Lib.hid hs9; clear hs9))
      go_ret3
      refine ⟨HS9.out.low, ?_⟩
      rw [if_pos H0.out, HF.out, if_pos HFB.out]
      exact ⟨OV', rfl, HS9.out.own⟩
  · have hbeg2 := hbeg.mono (R' := fun e w' => Below w.heap.size w w' ∧ e = .returned (.tuple #[.pointer none, .agg #[Value.int IntKind.i64 0, Value.int IntKind.i64 0, Value.int IntKind.i64 0, Value.int IntKind.i64 0, Value.int IntKind.i64 0, Value.slice none 0 0, Value.bool false, Value.bool false], .int .i64 (Ln.begunF base ps)])) (by
      rintro e w' ⟨h1, h2⟩
      rw [if_neg h0] at h2
      exact ⟨h1, h2⟩)
    have HBEG := Lib.hid hbeg2
    have h0b : (Ln.begunF base ps != 0) = true := bne_iff_ne.2 h0
    have H0 := Lib.hid h0
    clear hbeg hbeg2 hp
    go_enter Try.func27, Try.ntmps27
    go_wp2_with (go_at_call 49; refine HBEG.out.mono ?_; rintro e w5 ⟨hb5, rfl⟩; have HB5 := Lib.hid hb5; clear hb5)
    go_ret3
    refine ⟨HB5.out.alloc HB5.out.size _, ?_⟩
    rw [if_neg H0.out]
    rfl

/-- What Most comes to. -/
def Ln.Mosted (w : World) (base : Int) (ps : List Ln.Past) (e : Ending) (w' : World) : Prop :=
  Below w.heap.size w w' ∧ if Ln.begunF base ps = 0 then e = .returned (.tuple #[.int .i64 (Ln.mostF base ps), .int .i64 0]) else e = .returned (.tuple #[.int .i64 0, .int .i64 (Ln.begunF base ps)])
set_option maxHeartbeats 2000000 in
set_option maxRecDepth 100000 in
theorem most_any (base : Int) (A : Option Addr) (cp : Nat) (ps : List Ln.Past) (w : World) (hb : Ln.I64 base) (hp : Ln.Pasts w A cp ps) (hlen : ps.length ≤ 100000) :
    Calls Try.prog 29 #[.int .i64 base, .slice A ps.length cp] w (Ln.Mosted w base ps) := by
  have hbeg := begun_any base A cp ps w hp hlen
  have HP := Lib.hid hp
  by_cases h0 : Ln.begunF base ps = 0
  · have hb1 := (Ln.begun_ok h0).1
    have hn := (Ln.begun_ok h0).2.1
    have hbeg2 := hbeg.mono (R' := fun e w' => Below w.heap.size w w' ∧ ∃ sb mb bb, e = .returned (.tuple #[.pointer (some ⟨sb, 0, none⟩), .agg #[Value.int IntKind.i64 base, Value.int IntKind.i64 base, Value.int IntKind.i64 base, Value.int IntKind.i64 base, Value.int IntKind.i64 9223372036854775807, Value.slice none 0 0, Value.bool false, Value.bool false], .int .i64 0]) ∧ Ln.Srch w w' sb mb bb A cp ps Ln.st0 (.slice none 0 0)) (by
      rintro e w' ⟨h1, h2⟩
      rw [if_pos h0] at h2
      obtain ⟨sb, mb, bb, he, h3, h4, h5, h6, h7⟩ := h2
      exact ⟨h1, sb, mb, bb, he, ⟨h1, h6, World.ownsRow_nil _ _ _ _, Ln.Kys.nil h7, h3, h4⟩⟩)
    have HBEG := Lib.hid hbeg2
    have H0 := Lib.hid h0
    have HN := Lib.hid hn
    clear hbeg hbeg2 h0 hp hn
    have hgo := fun (sb mb bb : Nat) (W : World) (h : Ln.Srch w W sb mb bb A cp ps Ln.st0 (.slice none 0 0)) => goes_any w sb mb bb A cp ps HP.out HN.out 13 (Ln.start base) Ln.key0 0 Ln.st0 (.slice none 0 0) (.agg #[Value.int IntKind.i64 base, Value.int IntKind.i64 base, Value.int IntKind.i64 base, Value.int IntKind.i64 base, Value.int IntKind.i64 9223372036854775807, Value.slice none 0 0, Value.bool false, Value.bool false]) 0 W h ⟨_, rfl, Ln.recs_nil W⟩ (Ln.mok_start (by omega) hb.2) (by omega) Ln.kok0 (by rw [Ln.cnt_key0]; have := HN.out; omega) (by omega) (by omega) (by have := Ln.Tn13; show 0 + Ln.Tn 13 ≤ _; omega)
    rw [Ln.kc_key0] at hgo
    have hgo2 := fun sb mb bb W h => (hgo sb mb bb W h).mono (R' := fun e w' => e = .returned (.tuple #[]) ∧ ∃ OV', Ln.Srch w w' sb mb bb A cp ps (Ln.goesF ps 13 (Ln.start base) Ln.key0 0 Ln.st0) OV') (by rintro e w' ⟨OV', he, h1, _⟩; exact ⟨he, OV', h1⟩)
    have HGO := Lib.hid hgo2
    clear hgo hgo2
    go_enter Try.func29, Try.ntmps29
    go_wp2_with (first
      | (go_at_call 49; refine HBEG.out.mono ?_; rintro e w5 ⟨hb5, sb, mb, bb, rfl, hs5⟩; have HB5 := Lib.hid hb5; have HS5 := Lib.hid hs5; clear hb5 hs5)
      | (go_at_call 54; refine (HGO.out sb mb bb _ (HS5.out.below (Ln.below_alloc _ w5 (Nat.le_refl _) _))).mono ?_; rintro e w9 ⟨rfl, OV', hs9⟩; have q5 : w9.cell? ⟨sb, 5, none⟩ = some (.int .i64 (Ln.mostF base ps)) := Qu.blk_cell hs9.sch.1 5; have hsblt9 := Qu.blk_lt hs9.sch.1; have HS9 := Lib.hid hs9; clear hs9))
    go_ret2
    refine ⟨HS9.out.low, ?_⟩
    rw [if_pos H0.out]
    rfl
  · have hbeg2 := hbeg.mono (R' := fun e w' => Below w.heap.size w w' ∧ e = .returned (.tuple #[.pointer none, .agg #[Value.int IntKind.i64 0, Value.int IntKind.i64 0, Value.int IntKind.i64 0, Value.int IntKind.i64 0, Value.int IntKind.i64 0, Value.slice none 0 0, Value.bool false, Value.bool false], .int .i64 (Ln.begunF base ps)])) (by
      rintro e w' ⟨h1, h2⟩
      rw [if_neg h0] at h2
      exact ⟨h1, h2⟩)
    have HBEG := Lib.hid hbeg2
    have h0b : (Ln.begunF base ps != 0) = true := bne_iff_ne.2 h0
    have H0 := Lib.hid h0
    clear hbeg hbeg2 hp
    go_enter Try.func29, Try.ntmps29
    go_wp2_with (go_at_call 49; refine HBEG.out.mono ?_; rintro e w5 ⟨hb5, rfl⟩; have HB5 := Lib.hid hb5; clear hb5)
    go_ret2
    refine ⟨HB5.out.alloc HB5.out.size _, ?_⟩
    rw [if_neg H0.out]
    rfl

end Go.Proofs.Ytgdeoodihhcdjaa
