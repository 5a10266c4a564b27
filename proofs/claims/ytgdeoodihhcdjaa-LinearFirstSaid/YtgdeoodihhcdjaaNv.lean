/- The walk of LinearFirst. -/
import Derived.Test.YtgdeoodihhcdjaaNt
import Derived.Test.YtgdeoodihhcdjaaNu
namespace Go.Proofs.Ytgdeoodihhcdjaa
open Go.RowKit
set_option linter.unusedVariables false
set_option linter.unusedSimpArgs false


def Ln.DoneRel (w : World) (ps : List Ln.Past) (gk : Nat) (dv iv : Value) (wr : World) : Prop :=
  ∃ k : Nat, k ≤ ps.length ∧ gk = ps.length - k ∧ dv = .int .i64 ((Ln.cntF (fun i => decide ((Ln.at' ps i).fin ≠ 0)) k : Nat) : Int) ∧ iv = .int .i64 k ∧ Below w.heap.size w wr
def Ln.LineRel (w : World) (xs : List Nat) (order : List Int) (L : Bool) (gk : Nat) (iv : Value) (wr : World) : Prop :=
  ∃ i : Nat, i ≤ xs.length ∧ gk = xs.length - i ∧ iv = .int .i64 i ∧ Below w.heap.size w wr ∧ (L = true → ∀ j, j < i → order.getD j 0 = ((xs.getD j 0 : Nat) : Int))
set_option maxHeartbeats 8000000 in
set_option maxRecDepth 100000 in
theorem first_walk (base : Int) (A : Option Addr) (cp : Nat) (ps : List Ln.Past) (OV : Value) (order : List Int) (w : World) (hb : Ln.I64 base) (hp : Ln.Pasts w A cp ps) (ho : Ln.Ord w OV order) :
    Calls Try.prog 6 #[.int .i64 base, .slice A ps.length cp, OV] w fun e w' => e = .returned (.bool true) ∧ Below w.heap.size w w' := by
  obtain ⟨Ao, co, rfl, hol⟩ := ho.slice
  have HP := Lib.hid hp
  have HO := Lib.hid ho
  have hsm := fun (W : World) (h : Below w.heap.size w W) => small_any A cp ps W (hp.keep h)
  have hbg := fun (W : World) => begun24 W
  have HBG := Lib.hid hbg
  cases hs : Ln.smallF ps with
  | false =>
    rw [hs] at hsm
    have HSM := Lib.hid hsm
    clear hsm hbg hs hp ho
    go_enter Try.func6, Try.ntmps6
    go_wp2_with (first
      | (go_at_call 25; refine (HBG.out _).mono ?_; rintro e w1 ⟨rfl, hb1⟩; have HB1 := Lib.hid hb1; clear hb1)
      | (go_at_call 26; refine (HSM.out _ HB1.out).mono ?_; rintro e w2 ⟨rfl, rfl⟩))
    go_ret
    exact ⟨rfl, HB1.out⟩
  | true =>
    rw [hs] at hsm
    have hlen : ps.length ≤ 30 := by
      unfold Ln.smallF at hs
      simp only [Bool.and_eq_true, decide_eq_true_eq] at hs
      exact hs.2
    have HSM := Lib.hid hsm
    have hchk := fun (W : World) (h : Below w.heap.size w W) => check_any base A cp ps W hb (hp.keep h) (by omega)
    clear hsm hbg hs
    by_cases h0 : Ln.begunF base ps = 0
    · cases hF : (Ln.searchF base ps).1 with
      | false =>
        have hchk2 := fun W h => (hchk W h).mono (R' := fun e w' => e = .returned (.tuple #[.slice none 0 0, .bool false, .int .i64 0]) ∧ Below W.heap.size W w') (by
          rintro e w' ⟨h1, h2⟩
          rw [if_pos h0, if_neg (by rw [hF]; decide)] at h2
          exact ⟨h2, h1⟩)
        have hlg := fun (W : World) (h : Below w.heap.size w W) => legal_any base A cp ps _ order W hb (hp.keep h) (by omega) (ho.keep h)
        simp only [Ln.no_legal h0 hF] at hlg
        have HCHK := Lib.hid hchk2
        have HLG := Lib.hid hlg
        clear hchk hchk2 hlg hF h0 hp ho
        go_enter Try.func6, Try.ntmps6
        go_wp2_with (first
          | (go_at_call 25; refine (HBG.out _).mono ?_; rintro e w1 ⟨rfl, hb1⟩; have HB1 := Lib.hid hb1; clear hb1)
          | (go_at_call 26; refine (HSM.out _ HB1.out).mono ?_; rintro e w2 ⟨rfl, rfl⟩)
          | (go_at_call 27; refine (HCHK.out _ HB1.out).mono ?_; rintro e w3 ⟨rfl, hb3⟩; have HB3 := Lib.hid (HB1.out.trans (hb3.mono HB1.out.size)); clear hb3)
          | (go_at_call 28; refine (HLG.out _ HB3.out).mono ?_; rintro e w4 ⟨rfl, hb4⟩; have HB4 := Lib.hid (HB3.out.trans (hb4.mono HB3.out.size)); clear hb4))
        go_ret
        exact ⟨by rfl, HB4.out⟩
      | true =>
        have hlen2 : ∀ (W : World), True := fun _ => trivial
        have hchk2 := fun W h => (hchk W h).mono (R' := fun e w' => ∃ OV', e = .returned (.tuple #[OV', .bool true, .int .i64 0]) ∧ Below W.heap.size W w' ∧ Ln.Ord w' OV' ((Ln.searchF base ps).2.order.map Int.ofNat)) (by
          rintro e w' ⟨h1, h2⟩
          rw [if_pos h0, if_pos hF] at h2
          obtain ⟨OV', he, how⟩ := h2
          exact ⟨OV', he, h1, Ln.Ord.own how⟩)
        have hfirst := fun hl => Ln.yes_first h0 hF order hl
        have hyes := Ln.yes_legal h0 hF
        have hfar := Ln.yes_far h0 hF
        have hmost := fun (W : World) (h : Below w.heap.size w W) => (most_any base A cp ps W hb (hp.keep h) (by omega)).mono (R' := fun e w' => e = .returned (.tuple #[.int .i64 (Ln.mostF base ps), .int .i64 0]) ∧ Below W.heap.size W w') (by
          rintro e w' ⟨h1, h2⟩
          rw [if_pos h0] at h2
          exact ⟨h2, h1⟩)
        generalize (Ln.searchF base ps).2.order = xs at hchk2 hfirst hyes hfar
        have hlg1 := fun (W : World) (h : Below w.heap.size w W) => legal_any base A cp ps _ order W hb (hp.keep h) (by omega) (ho.keep h)
        have hlg2 := fun (W : World) (V : Value) (h : Below w.heap.size w W) (hv : Ln.Ord W V (xs.map Int.ofNat)) => legal_any base A cp ps V (xs.map Int.ofNat) W hb (hp.keep h) (by omega) hv
        simp only [hyes] at hlg2
        obtain ⟨L, hL⟩ : ∃ L, Ln.legalF base ps order = L := ⟨_, rfl⟩
        simp only [hL] at hlg1
        rw [hL] at hfirst
        have HCHK := Lib.hid hchk2
        have HL1 := Lib.hid hlg1
        have HL2 := Lib.hid hlg2
        have HFIRST := Lib.hid hfirst
        have HFAR := Lib.hid hfar
        have HMOST := Lib.hid hmost
        clear hchk hchk2 hlg1 hlg2 hF h0 hp ho hfirst hyes hfar hmost hL hlen2
        go_enter Try.func6, Try.ntmps6
        go_wp2_with (first
          | (go_at_call 25; (with_reducible refine (HBG.out _).mono ?_); rintro e w1 ⟨rfl, hb1⟩; have HB1 := Lib.hid hb1; clear hb1)
          | (go_at_call 26; (with_reducible refine (HSM.out _ HB1.out).mono ?_); rintro e w2 ⟨rfl, rfl⟩)
          | (go_at_call 27; (with_reducible refine (HCHK.out _ HB1.out).mono ?_); rintro e w3 ⟨OV', rfl, hb3, hord3⟩; obtain ⟨Ax, cx, rfl, hxl⟩ := hord3.slice; rw [List.length_map] at hord3 hxl ⊢; have tok1 : True := trivial; have HORD3 := Lib.hid hord3; have HB3 := Lib.hid (HB1.out.trans (hb3.mono HB1.out.size)); clear hb3 hord3)
          | (go_at_call 28; have _t := tok1; (with_reducible refine (HL1.out _ HB3.out).mono ?_); rintro e w4 ⟨rfl, hb4⟩; clear _t tok1; have HORD4 := Lib.hid (HORD3.out.keep hb4); have HB4 := Lib.hid (HB3.out.trans (hb4.mono HB3.out.size)); clear hb4)
          | (go_at_call 28; (with_reducible refine (HL2.out _ _ HB4.out HORD4.out).mono ?_); rintro e w5 ⟨rfl, hb5⟩; have HORD5 := Lib.hid (HORD4.out.keep hb5); have HB5 := Lib.hid (HB4.out.trans (hb5.mono HB4.out.size)); clear hb5))
        have hbsz5 := HB5.out.size
        go_loopg [11] xs.length (fun gk iv wx => Ln.LineRel w5 xs order L gk iv wx)
        case atStart => exact ⟨0, by omega, by omega, rfl, Below.refl _ _, fun _ j hj => by omega⟩
        case round =>
          obtain ⟨i, hi, rfl, rfl, hbr, heq⟩ := hrel
          have HBR := Lib.hid (HB5.out.trans (hbr.mono HB5.out.size))
          have HBL := Lib.hid hbr
          have HORDR := Lib.hid (HORD5.out.keep hbr)
          clear hbr
          obtain ⟨wl, hwl⟩ : ∃ wl : World, wl = wr := ⟨_, rfl⟩
          subst hwl
          have HEQ := Lib.hid heq
          clear heq
          cases L with
          | false =>
            go_wp2_with fail
            obtain ⟨wq, hwq⟩ : ∃ wq : World, wq = wl := ⟨_, rfl⟩
            have HBQ : Hid (Below w.heap.size w wq) := Lib.hid (by rw [hwq]; exact HBR.out)
            go_loopg [12, 13] ps.length (fun gk dv iv wx => Ln.DoneRel wq ps gk dv iv wx)
            case atStart => exact ⟨0, by omega, by omega, rfl, rfl, by rw [hwq]; exact Below.refl _ _⟩
            case round =>
              obtain ⟨k, hk, rfl, hdv, rfl, hbq⟩ := hrel
              have hle := Ln.cntF_le (fun i => decide ((Ln.at' ps i).fin ≠ 0)) k
              obtain ⟨c, hcd⟩ : ∃ c, Ln.cntF (fun i => decide ((Ln.at' ps i).fin ≠ 0)) k = c := ⟨_, rfl⟩
              rw [hcd] at hdv hle
              subst hdv
              have HCD := Lib.hid hcd
              clear hcd
              by_cases hltk : k < ps.length
              · obtain ⟨pb, po, cd, rd, rfl, hpk⟩ := (HP.out.keep (HBQ.out.trans (hbq.mono HBQ.out.size))).2.2 k hltk
                have x7 := hpk.c7
                have hpblt : pb < wr.heap.size := World.block_lt_of_cell? wr _ hpk.c0
                have HBQ2 := Lib.hid hbq
                clear hpk hbq
                by_cases hf : (Ln.at' ps k).fin = 0
                · have hfb : ((Ln.at' ps k).fin != 0) = false := by rw [hf]; rfl
                  have hcn : Ln.cntF (fun i => decide ((Ln.at' ps i).fin ≠ 0)) (k + 1) = c := by rw [← HCD.out]; simp [Ln.cntF, hf]
                  have HCN := Lib.hid hcn
                  rw [hf] at x7
                  clear hcn hf hfb
                  go_wp2_with fail
                  go_roundg (ps.length - (k + 1))
                  case measure => omega
                  case rel => exact ⟨k + 1, by omega, rfl, by rw [HCN.out], by go_num, HBQ2.out⟩
                · have hfb : ((Ln.at' ps k).fin != 0) = true := bne_iff_ne.2 hf
                  have hcn : Ln.cntF (fun i => decide ((Ln.at' ps i).fin ≠ 0)) (k + 1) = c + 1 := by rw [← HCD.out]; simp [Ln.cntF, hf]
                  have HCN := Lib.hid hcn
                  clear hcn
                  go_wp2_with fail
                  go_roundg (ps.length - (k + 1))
                  case measure => omega
                  case rel => exact ⟨k + 1, by omega, rfl, by rw [HCN.out]; go_num, by go_num, HBQ2.out⟩
              · have hke : k = ps.length := by omega
                subst hke
                have hms := HMOST.out wr (HBQ.out.trans (hbq.mono HBQ.out.size))
                have HMS := Lib.hid hms
                have HBQ2 := Lib.hid hbq
                have hfar1 := HFAR.out.1
                have hfar2 : (c : Int) ≤ Ln.mostF base ps := by rw [← HCD.out]; exact HFAR.out.2
                clear hms hbq
                go_wp2_with (go_at_call 29; refine HMS.out.mono ?_; rintro e w9 ⟨rfl, hb9⟩; have HB9 := Lib.hid hb9; clear hb9)
                go_ret
                exact ⟨by rfl, HBQ.out.trans ((HBQ2.out.trans (HB9.out.mono HBQ2.out.size)).mono HBQ.out.size)⟩
          | true =>
            by_cases hlt : i < xs.length
            · go_wp2_with fail
              obtain ⟨hio, hle⟩ := HFIRST.out trivial i hlt (fun j hj => HEQ.out trivial j hj)
              rcases HO.out with ⟨_, _, _, h⟩ | ⟨b, o, co2, hV, hc1, hc2, hblt, hcell⟩
              · rw [h] at hio; simp at hio
              injection hV with hA hL1 hC
              clear hL1
              subst hA
              subst hC
              rcases HORDR.out with ⟨_, _, _, h⟩ | ⟨b2, o2, cx2, hV2, hd1, hd2, hblt2, hcell2⟩
              · rw [List.map_eq_nil_iff] at h; rw [h] at hlt; simp at hlt
              injection hV2 with hA2 hL2 hC2
              clear hL2
              subst hA2
              subst hC2
              have hq := (HBR.out.cell (p := ⟨b, o + i, none⟩) hblt).trans (hcell i hio)
              have hq2 := hcell2 i (by simpa using hlt)
              have hg2 : (xs.map Int.ofNat).getD i 0 = ((xs.getD i 0 : Nat) : Int) := by
                simp only [List.getD_eq_getElem?_getD, List.getElem?_map]
                cases xs[i]? <;> rfl
              rw [hg2] at hq2
              have hlen5 : b < wl.heap.size := Nat.lt_of_lt_of_le hblt HBR.out.size
              obtain ⟨u, hu⟩ : ∃ u, order.getD i 0 = u := ⟨_, rfl⟩
              obtain ⟨v, hv⟩ : ∃ v, xs.getD i 0 = v := ⟨_, rfl⟩
              rw [hu] at hq hle
              rw [hv] at hq2 hle
              have hnlt : decide (u < (v : Int)) = false := decide_eq_false (by omega)
              have hge : decide ((order.length : Int) ≤ i) = false := decide_eq_false (by omega)
              have hgeN : decide (order.length ≤ i) = false := decide_eq_false (by omega)
              have hgeP : ¬ order.length ≤ i := by omega
              rw [List.length_map] at hd1
              have HU := Lib.hid hu
              have HV := Lib.hid hv
              clear hcell hcell2 hblt hg2 hu hv hc1 hc2 hd1 hd2 hbsz5
              by_cases hgt : (v : Int) < u
              · have hgtb : decide ((v : Int) < u) = true := decide_eq_true hgt
                (refine wp_region_still_tail 14 (by kernel_rfl) (by kernel_rfl) ?_; simp only [List.take_succ_cons, List.take_zero, List.drop_succ_cons, List.drop_zero]; (iterate 14 ((with_reducible refine Ln.still_want (by kernel_rfl) (fun K hK => ?_)); go_simp; refine hK _ ?_; clear hK K)); with_reducible refine wpStill_nil ?_)
                go_wp2_with fail
                have hq' : wl.drew.cell? ⟨b, o + i, none⟩ = some (.int .i64 u) := hq
                have hq2' : wl.drew.cell? ⟨b2, o2 + i, none⟩ = some (.int .i64 (v : Int)) := hq2
                have hl6 : b < wl.drew.heap.size := hlen5
                have hl7 : b2 < wl.drew.heap.size := hblt2
                have hb6 : Below w.heap.size w wl.drew := HBR.out.drew
                have hbl6 : Below w5.heap.size w5 wl.drew := HBL.out.drew
                generalize wl.drew = w6 at hq' hq2' hl6 hl7 hb6 hbl6 ⊢
                have HB6 := Lib.hid hb6
                have HBL6 := Lib.hid hbl6
                clear hq hq2 hb6 hbl6
                (refine wp_region_still_tail 8 (by kernel_rfl) (by kernel_rfl) ?_; simp only [List.take_succ_cons, List.take_zero, List.drop_succ_cons, List.drop_zero]; (iterate 8 ((with_reducible refine Ln.still_want (by kernel_rfl) (fun K hK => ?_)); go_simp; refine hK _ ?_; clear hK K)); with_reducible refine wpStill_nil ?_)
                go_wp2_with fail
                obtain ⟨wq, hwq⟩ : ∃ wq : World, wq = w6.drew := ⟨_, rfl⟩
                have HBQ : Hid (Below w.heap.size w wq) := Lib.hid (by rw [hwq]; exact HB6.out.drew)
                go_loopg [12, 13] ps.length (fun gk dv iv wx => Ln.DoneRel wq ps gk dv iv wx)
                case atStart => exact ⟨0, by omega, by omega, rfl, rfl, by rw [hwq]; exact Below.refl _ _⟩
                case round =>
                  obtain ⟨k, hk, rfl, hdv, rfl, hbq⟩ := hrel
                  have hle := Ln.cntF_le (fun i => decide ((Ln.at' ps i).fin ≠ 0)) k
                  obtain ⟨c, hcd⟩ : ∃ c, Ln.cntF (fun i => decide ((Ln.at' ps i).fin ≠ 0)) k = c := ⟨_, rfl⟩
                  rw [hcd] at hdv hle
                  subst hdv
                  have HCD := Lib.hid hcd
                  clear hcd
                  by_cases hltk : k < ps.length
                  · obtain ⟨pb, po, cd, rd, rfl, hpk⟩ := (HP.out.keep (HBQ.out.trans (hbq.mono HBQ.out.size))).2.2 k hltk
                    have x7 := hpk.c7
                    have hpblt : pb < wr.heap.size := World.block_lt_of_cell? wr _ hpk.c0
                    have HBQ2 := Lib.hid hbq
                    clear hpk hbq
                    by_cases hf : (Ln.at' ps k).fin = 0
                    · have hfb : ((Ln.at' ps k).fin != 0) = false := by rw [hf]; rfl
                      have hcn : Ln.cntF (fun i => decide ((Ln.at' ps i).fin ≠ 0)) (k + 1) = c := by rw [← HCD.out]; simp [Ln.cntF, hf]
                      have HCN := Lib.hid hcn
                      rw [hf] at x7
                      clear hcn hf hfb
                      go_wp2_with fail
                      go_roundg (ps.length - (k + 1))
                      case measure => omega
                      case rel => exact ⟨k + 1, by omega, rfl, by rw [HCN.out], by go_num, HBQ2.out⟩
                    · have hfb : ((Ln.at' ps k).fin != 0) = true := bne_iff_ne.2 hf
                      have hcn : Ln.cntF (fun i => decide ((Ln.at' ps i).fin ≠ 0)) (k + 1) = c + 1 := by rw [← HCD.out]; simp [Ln.cntF, hf]
                      have HCN := Lib.hid hcn
                      clear hcn
                      go_wp2_with fail
                      go_roundg (ps.length - (k + 1))
                      case measure => omega
                      case rel => exact ⟨k + 1, by omega, rfl, by rw [HCN.out]; go_num, by go_num, HBQ2.out⟩
                  · have hke : k = ps.length := by omega
                    subst hke
                    have hms := HMOST.out wr (HBQ.out.trans (hbq.mono HBQ.out.size))
                    have HMS := Lib.hid hms
                    have HBQ2 := Lib.hid hbq
                    have hfar1 := HFAR.out.1
                    have hfar2 : (c : Int) ≤ Ln.mostF base ps := by rw [← HCD.out]; exact HFAR.out.2
                    clear hms hbq
                    go_wp2_with (go_at_call 29; refine HMS.out.mono ?_; rintro e w9 ⟨rfl, hb9⟩; have HB9 := Lib.hid hb9; clear hb9)
                    go_ret
                    exact ⟨by rfl, HBQ.out.trans ((HBQ2.out.trans (HB9.out.mono HBQ2.out.size)).mono HBQ.out.size)⟩
              · have hgtb : decide ((v : Int) < u) = false := decide_eq_false hgt
                have huv : u = v := by omega
                (refine wp_region_still_tail 14 (by kernel_rfl) (by kernel_rfl) ?_; simp only [List.take_succ_cons, List.take_zero, List.drop_succ_cons, List.drop_zero]; (iterate 14 ((with_reducible refine Ln.still_want (by kernel_rfl) (fun K hK => ?_)); go_simp; refine hK _ ?_; clear hK K)); with_reducible refine wpStill_nil ?_)
                go_wp2_with fail
                have hq' : wl.drew.cell? ⟨b, o + i, none⟩ = some (.int .i64 u) := hq
                have hq2' : wl.drew.cell? ⟨b2, o2 + i, none⟩ = some (.int .i64 (v : Int)) := hq2
                have hl6 : b < wl.drew.heap.size := hlen5
                have hl7 : b2 < wl.drew.heap.size := hblt2
                have hb6 : Below w.heap.size w wl.drew := HBR.out.drew
                have hbl6 : Below w5.heap.size w5 wl.drew := HBL.out.drew
                generalize wl.drew = w6 at hq' hq2' hl6 hl7 hb6 hbl6 ⊢
                have HB6 := Lib.hid hb6
                have HBL6 := Lib.hid hbl6
                clear hq hq2 hb6 hbl6
                (refine wp_region_still_tail 8 (by kernel_rfl) (by kernel_rfl) ?_; simp only [List.take_succ_cons, List.take_zero, List.drop_succ_cons, List.drop_zero]; (iterate 8 ((with_reducible refine Ln.still_want (by kernel_rfl) (fun K hK => ?_)); go_simp; refine hK _ ?_; clear hK K)); with_reducible refine wpStill_nil ?_)
                go_wp2_with fail
                go_roundg (xs.length - (i + 1))
                case measure => omega
                case rel =>
                  refine ⟨i + 1, by omega, rfl, by go_num, HBL6.out.drew, fun _ j hj => ?_⟩
                  by_cases hji : j < i
                  · exact HEQ.out trivial j hji
                  · have hje : j = i := by omega
                    rw [hje, HU.out, HV.out]
                    exact huv
            · have hie : i = xs.length := by omega
              clear hlt
              go_wp2_with fail
              obtain ⟨wq, hwq⟩ : ∃ wq : World, wq = wl := ⟨_, rfl⟩
              have HBQ : Hid (Below w.heap.size w wq) := Lib.hid (by rw [hwq]; exact HBR.out)
              go_loopg [12, 13] ps.length (fun gk dv iv wx => Ln.DoneRel wq ps gk dv iv wx)
              case atStart => exact ⟨0, by omega, by omega, rfl, rfl, by rw [hwq]; exact Below.refl _ _⟩
              case round =>
                obtain ⟨k, hk, rfl, hdv, rfl, hbq⟩ := hrel
                have hle := Ln.cntF_le (fun i => decide ((Ln.at' ps i).fin ≠ 0)) k
                obtain ⟨c, hcd⟩ : ∃ c, Ln.cntF (fun i => decide ((Ln.at' ps i).fin ≠ 0)) k = c := ⟨_, rfl⟩
                rw [hcd] at hdv hle
                subst hdv
                have HCD := Lib.hid hcd
                clear hcd
                by_cases hltk : k < ps.length
                · obtain ⟨pb, po, cd, rd, rfl, hpk⟩ := (HP.out.keep (HBQ.out.trans (hbq.mono HBQ.out.size))).2.2 k hltk
                  have x7 := hpk.c7
                  have hpblt : pb < wr.heap.size := World.block_lt_of_cell? wr _ hpk.c0
                  have HBQ2 := Lib.hid hbq
                  clear hpk hbq
                  by_cases hf : (Ln.at' ps k).fin = 0
                  · have hfb : ((Ln.at' ps k).fin != 0) = false := by rw [hf]; rfl
                    have hcn : Ln.cntF (fun i => decide ((Ln.at' ps i).fin ≠ 0)) (k + 1) = c := by rw [← HCD.out]; simp [Ln.cntF, hf]
                    have HCN := Lib.hid hcn
                    rw [hf] at x7
                    clear hcn hf hfb
                    go_wp2_with fail
                    go_roundg (ps.length - (k + 1))
                    case measure => omega
                    case rel => exact ⟨k + 1, by omega, rfl, by rw [HCN.out], by go_num, HBQ2.out⟩
                  · have hfb : ((Ln.at' ps k).fin != 0) = true := bne_iff_ne.2 hf
                    have hcn : Ln.cntF (fun i => decide ((Ln.at' ps i).fin ≠ 0)) (k + 1) = c + 1 := by rw [← HCD.out]; simp [Ln.cntF, hf]
                    have HCN := Lib.hid hcn
                    clear hcn
                    go_wp2_with fail
                    go_roundg (ps.length - (k + 1))
                    case measure => omega
                    case rel => exact ⟨k + 1, by omega, rfl, by rw [HCN.out]; go_num, by go_num, HBQ2.out⟩
                · have hke : k = ps.length := by omega
                  subst hke
                  have hms := HMOST.out wr (HBQ.out.trans (hbq.mono HBQ.out.size))
                  have HMS := Lib.hid hms
                  have HBQ2 := Lib.hid hbq
                  have hfar1 := HFAR.out.1
                  have hfar2 : (c : Int) ≤ Ln.mostF base ps := by rw [← HCD.out]; exact HFAR.out.2
                  clear hms hbq
                  go_wp2_with (go_at_call 29; refine HMS.out.mono ?_; rintro e w9 ⟨rfl, hb9⟩; have HB9 := Lib.hid hb9; clear hb9)
                  go_ret
                  exact ⟨by rfl, HBQ.out.trans ((HBQ2.out.trans (HB9.out.mono HBQ2.out.size)).mono HBQ.out.size)⟩
    · have hchk2 := fun W h => (hchk W h).mono (R' := fun e w' => e = .returned (.tuple #[.slice none 0 0, .bool false, .int .i64 (Ln.begunF base ps)]) ∧ Below W.heap.size W w') (by
        rintro e w' ⟨h1, h2⟩
        rw [if_neg h0] at h2
        exact ⟨h2, h1⟩)
      have h0b : (Ln.begunF base ps != 0) = true := bne_iff_ne.2 h0
      have HCHK := Lib.hid hchk2
      clear hchk hchk2 hp ho
      go_enter Try.func6, Try.ntmps6
      go_wp2_with (first
        | (go_at_call 25; refine (HBG.out _).mono ?_; rintro e w1 ⟨rfl, hb1⟩; have HB1 := Lib.hid hb1; clear hb1)
        | (go_at_call 26; refine (HSM.out _ HB1.out).mono ?_; rintro e w2 ⟨rfl, rfl⟩)
        | (go_at_call 27; refine (HCHK.out _ HB1.out).mono ?_; rintro e w3 ⟨rfl, hb3⟩; have HB3 := Lib.hid (HB1.out.trans (hb3.mono HB1.out.size)); clear hb3))
      go_ret
      exact ⟨by rfl, HB3.out⟩

end Go.Proofs.Ytgdeoodihhcdjaa
