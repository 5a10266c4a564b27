/- The walk of QueueFair. -/
import Derived.Test.YtgdeoodihhcdjaaQp
import Derived.Deep.DeepCutAuto
import Derived.WalkLawsBesides
namespace Go.Proofs.Ytgdeoodihhcdjaa
open Go.RowKit
set_option linter.unusedVariables false
set_option linter.unusedSimpArgs false

def Qu.IntsAt (w : World) (A : Option Addr) (n : Nat) : Prop := 0 < n → ∃ b o, A = some ⟨b, o, none⟩ ∧ b < w.heap.size ∧ ∀ j, j < n → ∃ z, w.cell? ⟨b, o + j, none⟩ = some (.int .i64 z)
def Qu.OpsAt (w : World) (A : Option Addr) (n : Nat) : Prop := 0 < n → ∃ b o, A = some ⟨b, o, none⟩ ∧ b < w.heap.size ∧ ∀ j, j < n → ∃ z y, w.cell? ⟨b, o + j * 4 + 2, none⟩ = some (.int .i64 z) ∧ w.cell? ⟨b, o + j * 4 + 3, none⟩ = some (.int .i64 y)

theorem Qu.Q.drewN' {F : Nat → Prop} {w : World} {sb mb c : Nat} {b : Int} {xs ys : List (Int × Int)} (h : Qu.Q F w sb mb c b xs ys) (n : Nat) : Qu.Q F (w.drewN n) sb mb c b xs ys := h
theorem Qu.Q.drew' {F : Nat → Prop} {w : World} {sb mb c : Nat} {b : Int} {xs ys : List (Int × Int)} (h : Qu.Q F w sb mb c b xs ys) : Qu.Q F w.drew sb mb c b xs ys := h
theorem Qu.own_base {w : World} {base base' : Nat} {e : TypeId} {size n : Nat} {v : Value} {xs : List Value} (h : w.ownsRow base e size v n xs) (hb : base' ≤ base) : w.ownsRow base' e size v n xs := by
  refine ⟨h.1, ?_⟩
  rcases h.2 with h2 | ⟨g, cap, cur, rfl, hg, r⟩
  · exact .inl h2
  · exact .inr ⟨g, cap, cur, rfl, Nat.le_trans hb hg, r⟩
theorem Qu.own_item {w : World} {base cp : Nat} {A : Option Addr} {l1 : Nat} {G : List (Int × Int)} (h : w.ownsRow base 38 2 (.slice A l1 cp) G.length (Qu.enc G)) {t : Nat} (ht : t < G.length) :
    ∃ g, A = some ⟨g, 0, none⟩ ∧ w.cell? ⟨g, t * 2, none⟩ = some (.int .i64 (G.getD t (0, 0)).1) ∧ w.cell? ⟨g, t * 2 + 1, none⟩ = some (.int .i64 (G.getD t (0, 0)).2) := by
  rcases h.2 with ⟨_, h0⟩ | ⟨g, cap, cur, hv, hg, hh, hnc, hcm, hs, htk⟩
  · omega
  · injection hv with h1 h2 h3
    obtain ⟨e0, e1⟩ := Qu.enc_get G t ht
    rw [← htk, List.getElem?_take, if_pos (by omega), Array.getElem?_toList] at e0 e1
    exact ⟨g, h1, (Qu.blk_cell hh _).trans e0, (Qu.blk_cell hh _).trans e1⟩
theorem Qu.sum_take (G : List (Int × Int)) (t : Nat) (ht : t < G.length) (h : ∀ p ∈ G, 0 ≤ p.2) : 0 ≤ Qu.sum (G.take t) ∧ Qu.sum (G.take t) + (G.getD t (0, 0)).2 = Qu.sum (G.take (t + 1)) ∧ Qu.sum (G.take (t + 1)) ≤ Qu.sum G := by
  refine ⟨Qu.sum_nonneg _ (fun p hp => h p (List.mem_of_mem_take hp)), ?_, ?_⟩
  · rw [List.take_succ_eq_append_getElem ht, Qu.sum_append, Qu.sum_cons, Qu.sum_nil, List.getD_eq_getElem?_getD, List.getElem?_eq_getElem ht]
    simp
  · have := Qu.sum_append (G.take (t + 1)) (G.drop (t + 1))
    rw [List.take_append_drop] at this
    have h2 := Qu.sum_nonneg (G.drop (t + 1)) (fun p hp => h p (List.mem_of_mem_drop hp))
    omega
/-- Behind Take: who went out, the queue, what was there ahead. -/
structure Qu.Took (w : World) (sb mb c : Nat) (b : Int) (G xs ys : List (Int × Int)) (v : Value) (wx : World) : Prop where
  own : wx.ownsRow w.heap.size 38 2 v G.length (Qu.enc G)
  q : Qu.Q (fun i => w.heap.size ≤ i) wx sb mb c b xs ys
  below : Below w.heap.size w wx
structure Qu.FairRel (w : World) (sb mb c : Nat) (b : Int) (n2 gk : Nat) (put out i : Value) (wr : World) : Prop where
  mk :: (out : ∃ (xs ys : List (Int × Int)) (o : Int) (j : Nat), gk = n2 - j ∧ j ≤ n2 ∧ i = .int .i64 j ∧ put = .int .i64 (o + (xs ++ ys).length) ∧ out = .int .i64 o ∧ 0 ≤ o ∧ o + (xs ++ ys).length ≤ j ∧ (j : Int) ≤ 400 ∧
    Qu.Q (fun k => w.heap.size ≤ k) wr sb mb c b xs ys ∧ Qu.Ok c b xs ys ∧ Qu.Good c b xs ys ∧ Qu.Rise o (xs ++ ys) ∧ Below w.heap.size w wr)

structure Qu.Mid (c : Nat) (b o : Int) (xs ys : List (Int × Int)) (m j : Nat) : Prop where
  ok : Qu.Ok c b xs ys
  good : Qu.Good c b xs ys
  rise : Qu.Rise o (xs ++ ys)
  len : m = (xs ++ ys).length
  le : o + m ≤ j + 1
structure Qu.Mid2 (w : World) (sb mb c : Nat) (b o : Int) (m1 : Nat) (s12 : Value) (wx : World) : Prop where
  mk :: (out : ∃ (xs ys : List (Int × Int)) (o' : Int) (m2 : Nat), s12 = .int .i64 o' ∧ o' + m2 = o + m1 ∧ 0 ≤ o' ∧ Qu.Q (fun i => w.heap.size ≤ i) wx sb mb c b xs ys ∧ Qu.Ok c b xs ys ∧ Qu.Good c b xs ys ∧ Qu.Rise o' (xs ++ ys) ∧ m2 = (xs ++ ys).length ∧ Below w.heap.size w wx)
set_option maxHeartbeats 1000000 in
set_option maxRecDepth 100000 in
theorem fair_walk (cap bytes : Int) (A2 A3 : Option Addr) (n2 c2 n3 c3 : Nat) (w : World) (h2 : Qu.IntsAt w A2 n2) (h3 : Qu.OpsAt w A3 n3) (hn2 : n2 ≤ 9223372036854775807) (hn3 : n3 ≤ 9223372036854775807) :
    Calls Try.prog 3 #[.int .i64 cap, .int .i64 bytes, .slice A2 n2 c2, .slice A3 n3 c3] w fun e w' => e = .returned (.bool true) ∧ Below w.heap.size w w' := by
  have H2 := Lib.hid h2
  have H3 := Lib.hid h3
  clear h2 h3
  by_cases hbad : cap < 1 ∨ 1024 < cap ∨ bytes < 1 ∨ 16777216 < bytes
  · have HBAD := Lib.hid hbad
    clear hbad
    go_enter Try.func3, Try.ntmps3
    go_wp2_with fail
    refine (begun19 w).mono ?_
    rintro e w1 ⟨rfl, hb1⟩
    have HB1 := Lib.hid hb1
    clear hb1
    go_wp2_with fail
    refine (new_no cap bytes w1 HBAD.out).mono ?_
    rintro e w2 ⟨rfl, rfl⟩
    go_wp2
    go_ret
    exact ⟨rfl, HB1.out⟩
  · obtain ⟨c, rfl⟩ := Int.eq_ofNat_of_zero_le (show 0 ≤ cap by omega)
    have hc0 : 0 < c := by omega
    have hc1 : c ≤ 1024 := by omega
    have hb0 : 1 ≤ bytes := by omega
    have hb1 : bytes ≤ 16777216 := by omega
    clear hbad
    go_enter Try.func3, Try.ntmps3
    go_wp2_with fail
    refine (begun19 w).mono ?_
    rintro e w1 ⟨rfl, hbe1⟩
    have HB1 := Lib.hid hbe1
    clear hbe1
    go_wp2_with fail
    refine (new_Q c bytes w1 hc0 hc1 hb0 hb1).mono ?_
    rintro e w2 ⟨sb, mb, rfl, hq2, hbe2⟩
    have HQ2 := Lib.hid (hq2.mono (F' := fun i => w.heap.size ≤ i) (fun i h => by have := HB1.out.size; omega))
    have HB2 := Lib.hid (HB1.out.trans (hbe2.mono HB1.out.size))
    clear hq2 hbe2
    go_wp2_with fail
    go_loopg [11, 12, 13] n2 (fun gk put out i wr => Qu.FairRel w sb mb c bytes n2 gk put out i wr)
    case atStart => exact ⟨[], [], 0, 0, by omega, by omega, rfl, rfl, rfl, by omega, by simp, by omega, HQ2.out, ⟨hc0, hc1, hb0, hb1, by simp, by simp, by simp [Qu.sum_nil]; omega, by simp, by simp, by simp, by simp⟩, (fun p r h => by cases h), Qu.Rise.nil _, HB2.out⟩
    case round =>
      obtain ⟨xs, ys, o, j, rfl, hj, rfl, rfl, rfl, ho0, hoj, hj4, hq, hok, hgood, hrise, hbe⟩ := hrel.out
      clear hrel
      have HQ := Lib.hid hq
      have HOK := Lib.hid hok
      have HGOOD := Lib.hid hgood
      have HRISE := Lib.hid hrise
      have HBE := Lib.hid hbe
      clear hq hok hgood hrise hbe
      by_cases hlt : j < n2 ∧ j < 400
      · obtain ⟨hl1, hl2⟩ := hlt
        obtain ⟨b2, o2, rfl, hbb2, hcell2⟩ := H2.out (by omega)
        obtain ⟨z, hz⟩ := hcell2 j hl1
        have hz2 := (HBE.out.cell (p := ⟨b2, o2 + j, none⟩) hbb2).trans hz
        have h64 : Qu.In64 (o + (xs ++ ys).length) := by unfold Qu.In64; omega
        have hfp := Qu.fair_put c bytes xs ys o z HOK.out HGOOD.out HRISE.out
        have hok1 := HOK.out.put (o + (xs ++ ys).length) z h64
        have hput := fun W h => put_Q (fun k => w.heap.size ≤ k) sb mb c bytes xs ys (o + (xs ++ ys).length) z W h HOK.out h64
        obtain ⟨F, hF⟩ : ∃ F, F = Qu.putF c bytes xs ys (o + (xs ++ ys).length) z := ⟨_, rfl⟩
        simp only [← hF] at hfp hok1 hput
        obtain ⟨m, hm⟩ : ∃ m, (xs ++ ys).length = m := ⟨_, rfl⟩
        rw [hm] at hfp hput hoj
        simp only [hm]
        obtain ⟨r1, r2, xs1, ys1⟩ := F
        simp only at hfp hok1 hput
        have HM := Lib.hid hm
        have HFP := Lib.hid hfp
        have HOK1 := Lib.hid hok1
        have HPUT := Lib.hid hput
        clear hcell2 hz hF hfp hok1 hbb2 hm hput h64
        have hl3 : (j : Int) < 400 := by omega
        go_upto_if 55 with (go_at_call 10; refine (HPUT.out _ HQ.out).mono ?_; rintro e w3 ⟨rfl, hq3, hf3⟩)
        have HQ3 := Lib.hid (hq3.mono (F' := fun i => w.heap.size ≤ i) (fun i h => h.elim id (fun h => by have := HBE.out.size; omega)))
        have HB3 := Lib.hid (Qu.below_fr HBE.out hf3 (fun i h => h) HBE.out.size)
        clear hq3 hf3 hz2
        go_cut [11] (fun s11 wx => ∃ m1 : Nat, s11 = .int .i64 (o + m1) ∧ Qu.Mid c bytes o xs1 ys1 m1 j ∧ wx = w3)
        case first =>
          by_cases hr : r2 = 0
          · have hr2 : (r2 == 0) = true := by simpa using hr
            rcases HFP.out.2 with ⟨_, h⟩ | ⟨h, _⟩
            · have hmid : Qu.Mid c bytes o xs1 ys1 (m + 1) j := by
                have hh : xs1 ++ ys1 = (xs ++ ys) ++ [(o + (xs ++ ys).length, z)] := by rw [HM.out]; exact h
                refine ⟨HOK1.out, HFP.out.1, ?_, ?_, ?_⟩
                · rw [hh]; exact HRISE.out.snoc z
                · rw [hh]; simp only [List.length_append, List.length_cons, List.length_nil]; have := HM.out; simp at this; omega
                · omega
              have HMID := Lib.hid hmid
              clear hmid h hr
              go_wp2_with fail
              go_meet
              exact ⟨m + 1, by go_num, HMID.out, rfl⟩
            · exact absurd hr h
          · have hr2 : (r2 == 0) = false := by simpa using hr
            rcases HFP.out.2 with ⟨h, _⟩ | ⟨_, _, _, h1, h2⟩
            · exact absurd h hr
            · have hmid : Qu.Mid c bytes o xs1 ys1 m j := by
                refine ⟨HOK1.out, HFP.out.1, ?_, ?_, ?_⟩
                · rw [h1, h2]; exact HRISE.out
                · rw [h1, h2]; exact HM.out.symm
                · omega
              have HMID := Lib.hid hmid
              clear hmid h1 h2 hr
              go_wp2_with fail
              go_meet
              exact ⟨m, rfl, HMID.out, rfl⟩
        case rest =>
          obtain ⟨m1, rfl, hmid, rfl⟩ := hcut
          have HMID := Lib.hid hmid
          have hm1j := hmid.le
          clear hmid
          go_upto_if 61 with fail
          go_cut [12, 16, 17, 18, 19] (fun s12 s16 s17 s18 s19 wx => Qu.Mid2 w sb mb c bytes o m1 s12 wx)
          case first =>
            by_cases htk : j < n3
            · obtain ⟨b3, o3, rfl, hbb3, hcell3⟩ := H3.out (by omega)
              obtain ⟨N, Y, hN, hY⟩ := hcell3 j htk
              have hN3 := (HB3.out.cell (p := ⟨b3, o3 + j * 4 + 2, none⟩) hbb3).trans hN
              have hY3 := (HB3.out.cell (p := ⟨b3, o3 + j * 4 + 3, none⟩) hbb3).trans hY
              have hft := fun G hG E hE => Qu.fair_take c bytes xs1 ys1 N Y HMID.out.ok G hG E hE
              have htake := fun G hG E hE h1 h2 W h => take_Q (fun k => w.heap.size ≤ k) sb mb c bytes xs1 ys1 N Y W h HMID.out.ok G hG E hE h1 h2
              obtain ⟨G, hG⟩ : ∃ G, G = Qu.takeF N Y [] 0 xs1 := ⟨_, rfl⟩
              obtain ⟨E, hE⟩ : ∃ E, E = Qu.enterF c bytes G.2 ys1 (Qu.sum G.2) := ⟨_, rfl⟩
              obtain ⟨q1, q2, q3, q4, q5, q6, q7, q8, q9⟩ := hft G hG E hE
              have HTAKE := Lib.hid (htake G hG E hE q1 q2)
              have hrs := HMID.out.rise
              rw [q5] at hrs
              have hln := HMID.out.len
              rw [q5] at hln
              have HFT := Lib.hid (And.intro q1 (And.intro q2 (And.intro q3 (And.intro q4 (And.intro q5 (And.intro q7 q8))))))
              have HRS := Lib.hid hrs
              have HLN := Lib.hid hln
              obtain ⟨l1, hl1'⟩ : ∃ l1, G.1.length = l1 := ⟨_, rfl⟩
              rw [hl1'] at q6
              have HL1 := Lib.hid hl1'
              clear q1 q2 q3 q4 q5 q7 q8 hft htake hG hE hrs hln hl1' hN hY hcell3
              go_upto_region 14 with fail
              go_cut [16, 17] (fun s16 s17 wx => ∃ A1 cp1 Ax nx cpx, s16 = .slice A1 l1 cp1 ∧ s17 = .slice Ax nx cpx ∧ Qu.Took w sb mb c bytes G.1 E.1 E.2.1 (.slice A1 l1 cp1) wx)
              case first =>
                go_region_with (go_at_call 11; refine (HTAKE.out _ (Qu.Q.drew' HQ3.out)).mono ?_; rintro e w4 ⟨v1, v2, rfl, ho1, ho2, hq4, hf4⟩; have HO1 := Lib.hid ho1; have HO2 := Lib.hid ho2; have HQ4 := Lib.hid hq4; have HF4 := Lib.hid hf4; clear ho1 ho2 hq4 hf4)
                all_goals
                  go_wp2_with fail
                  go_meet
                  obtain ⟨A1, cp1, rfl⟩ := Qu.own_slice HO1.out
                  obtain ⟨Ax, cpx, rfl⟩ := Qu.own_slice HO2.out
                  refine ⟨A1, cp1, Ax, _, cpx, by rw [← HL1.out], rfl, ?_, ?_, ?_⟩
                  · rw [← HL1.out]; exact Qu.own_base HO1.out HB3.out.size
                  · exact HQ4.out.mono (fun i h => h.elim id (fun h => by
                      have h1 := HB3.out.size
                      have h2 : wc.heap.size ≤ i := h
                      omega))
                  · exact Qu.below_fr HB3.out (show Qu.Fr (fun k => w.heap.size ≤ k) wc _ from ⟨HF4.out.os, HF4.out.tape, HF4.out.output, HF4.out.size, HF4.out.block⟩) (fun i h => h) HB3.out.size
              case rest =>
                obtain ⟨A1, cp1, Ax, nx, cpx, rfl, rfl, ho1, hq4, hb4⟩ := hcut
                have HO := Lib.hid ho1
                have HQ4 := Lib.hid hq4
                have HB4 := Lib.hid hb4
                have hl1m : (l1 : Int) ≤ 400 := by
                  have h1 := HLN.out
                  have h2 := HL1.out
                  rw [List.length_append, h2] at h1
                  omega
                have hN4 := (hb4.cell (p := ⟨b3, o3 + j * 4 + 2, none⟩) hbb3).trans ((HB3.out.cell (p := ⟨b3, o3 + j * 4 + 2, none⟩) hbb3).symm.trans hN3)
                have hY4 := (hb4.cell (p := ⟨b3, o3 + j * 4 + 3, none⟩) hbb3).trans ((HB3.out.cell (p := ⟨b3, o3 + j * 4 + 3, none⟩) hbb3).symm.trans hY3)
                clear ho1 hq4 hb4 hN3 hY3
                go_wp2_with fail
                go_loopg [12, 18, 19] l1 (fun gk s12 s18 s19 wx => ∃ t : Nat, t ≤ l1 ∧ gk = l1 - t ∧ s12 = .int .i64 (o + t) ∧ s18 = .int .i64 (Qu.sum (G.1.take t)) ∧ s19 = .int .i64 t ∧ wx = wc)
                case atStart => exact ⟨0, by omega, by omega, by simp, by simp [Qu.sum_nil], rfl, rfl⟩
                case round =>
                  obtain ⟨t, ht, rfl, rfl, rfl, rfl, hww⟩ := hrel
                  subst hww
                  by_cases htl : t < l1
                  · obtain ⟨g4, hA4, x4, y4⟩ := Qu.own_item HO.out (t := t) (by rw [HL1.out]; exact htl)
                    have hrt := (Qu.Rise.append HRS.out).1 t (by rw [HL1.out]; exact htl)
                    rw [hrt] at x4
                    obtain ⟨u0, u1, u2⟩ := Qu.sum_take G.1 t (by rw [HL1.out]; exact htl) HFT.out.2.2.2.2.2.2
                    obtain ⟨s4, hs4⟩ : ∃ s4, (G.1.getD t (0, 0)).2 = s4 := ⟨_, rfl⟩
                    rw [hs4] at y4 u1
                    subst hA4
                    have hu2 : Qu.sum (G.1.take t) + s4 ≤ 16777216 := by omega
                    have hu3 : 0 ≤ Qu.sum (G.1.take t) + s4 := by rw [u1]; exact Qu.sum_nonneg _ (fun p hp => HFT.out.2.2.2.2.2.2 p (List.mem_of_mem_take hp))
                    have HU1 := Lib.hid u1
                    clear hrt u1 u2 hs4
                    go_wp2
                    go_roundg (l1 - (t + 1))
                    case measure => omega
                    case rel => exact ⟨t + 1, by omega, rfl, by go_num, by rw [← HU1.out], by go_num, rfl⟩
                  · obtain rfl : t = l1 := by omega
                    have hq6 : decide (max N 0 < (t : Int)) = false := by simp; omega
                    have hall : G.1.take t = G.1 := List.take_of_length_le (by rw [HL1.out]; exact Nat.le_refl _)
                    have hsumY : 1 < t → Qu.sum (G.1.take t) ≤ Y := by rw [hall, ← HL1.out]; exact HFT.out.2.2.2.2.2.1
                    have hend : Qu.Mid2 w sb mb c bytes o m1 (.int .i64 (o + t)) wr := by
                      have hle := HLN.out
                      have hl := HL1.out
                      rw [List.length_append] at hle
                      have hr := (Qu.Rise.append HRS.out).2
                      rw [hl] at hr hle
                      exact ⟨E.1, E.2.1, o + t, (E.1 ++ E.2.1).length, rfl, by omega, by omega, HQ4.out, HFT.out.2.2.1, HFT.out.2.2.2.1, hr, rfl, HB4.out⟩
                    have HEND := Lib.hid hend
                    clear hall hend
                    by_cases h1t : 1 < t
                    · have hd7 : decide (Y < Qu.sum (G.1.take t)) = false := by simp; exact hsumY h1t
                      clear hsumY
                      go_wp2_with fail
                      go_meet
                      exact HEND.out
                    · clear hsumY
                      have h01 : t = 0 ∨ t = 1 := by omega
                      clear h1t
                      rcases h01 with rfl | rfl
                      all_goals
                        go_wp2_with fail
                        all_goals
                          go_meet
                          simpa using HEND.out
            · have htk2 : decide (j < n3) = false := by simpa using htk

              go_wp2_with fail
              go_meet
              exact ⟨xs1, ys1, o, m1, rfl, rfl, ho0, HQ3.out, HMID.out.ok, HMID.out.good, HMID.out.rise, HMID.out.len, HB3.out⟩
          case rest =>
            obtain ⟨xs2, ys2, o5, m2, rfl, hom, ho5, hq5, hok5, hgood5, hrise5, hlen5, hb5⟩ := hcut.out
            clear hcut
            have HQ5 := Lib.hid hq5
            have HOK5 := Lib.hid hok5
            have HGOOD5 := Lib.hid hgood5
            have HRISE5 := Lib.hid hrise5
            have HLEN5 := Lib.hid hlen5
            have HB5 := Lib.hid hb5
            have hom0 := hom
            have HOM := Lib.hid hom
            have hxl := hok5.xl
            have hyl := hok5.yl
            have hsm := hok5.sum
            have hs0 := hok5.sum0
            have hm2 : m2 = xs2.length + ys2.length := by rw [hlen5]; simp
            clear hq5 hok5 hgood5 hrise5 hlen5 hb5 hom
            go_wp2_with fail
            refine (look_Q _ sb mb c bytes xs2 ys2 _ HQ5.out HOK5.out).mono ?_
            rintro e w6 ⟨rfl, hb6⟩
            have HQ6 := Lib.hid (HQ5.out.below hb6)
            have HB6 := Lib.hid (HB5.out.trans (hb6.mono HB5.out.size))
            clear hb6
            go_wp2_with fail
            refine (line_Q _ sb mb c bytes xs2 ys2 _ (HQ6.out.below ((Below.refl _ _).alloc (Nat.le_refl _) _)) HOK5.out).mono ?_
            rintro e w7 ⟨v, rfl, hown7, hb7⟩
            have hx7 : w7.heap[w6.heap.size]? = some (.cells #[.int .i64 xs2.length, .int .i64 (Qu.sum xs2), .int .i64 ys2.length] 40 (0, 0)) := (hb7.block _ (by simp)).trans (heap_alloc_new w6 _)
            have HB7 := Lib.hid (HB6.out.trans (((Below.refl w6.heap.size w6).alloc (Nat.le_refl _) (Obj.cells #[.int .i64 xs2.length, .int .i64 (Qu.sum xs2), .int .i64 ys2.length] 40)).trans (hb7.mono (by simp)) |>.mono HB6.out.size))
            have HQ7 := Lib.hid ((HQ6.out.below ((Below.refl _ _).alloc (Nat.le_refl _) (Obj.cells #[.int .i64 xs2.length, .int .i64 (Qu.sum xs2), .int .i64 ys2.length] 40))).below hb7)
            have k0 := Qu.blk_cell hx7 0
            have k1 := Qu.blk_cell hx7 1
            have k2 := Qu.blk_cell hx7 2
            simp only [List.getElem?_toArray, List.getElem?_cons_succ, List.getElem?_cons_zero] at k0 k1 k2
            obtain ⟨A7, cp7, rfl⟩ := Qu.own_slice hown7
            clear hx7 hb7
            have hd1 : decide (c < xs2.length) = false := by simp; omega
            have hd2 : decide (bytes < Qu.sum xs2) = false := by simp; omega
            have hd3 : (((xs2.length : Int) + ys2.length) != o + m1 - o5) = false := by simp; omega
            have hsz5 : (o + m1 - o5 : Int) = m2 := by omega
            cases ys2 with
            | nil =>
              go_wp2_with fail
              go_quiet (fail)
              go_wp2
              go_roundg (n2 - (j + 1))
              case measure => omega
              case rel =>
                exact ⟨xs2, [], o5, j + 1, rfl, by omega, by go_num, by rw [← HLEN5.out]; exact congrArg _ (by have := HOM.out; omega), rfl, ho5, by have := HLEN5.out; have := HOM.out; omega, by omega, (HQ7.out).drewN' _, HOK5.out, HGOOD5.out, HRISE5.out, Qu.below_drewN' HB7.out _⟩
            | cons p r =>
              obtain ⟨px, py⟩ := p
              obtain ⟨hne, hroom⟩ := HGOOD5.out (px, py) r rfl
              have hxpos : 0 < xs2.length := List.length_pos_iff.2 hne
              obtain ⟨g7, hA7, hg7⟩ : ∃ g7, A7 = some ⟨g7, 0, none⟩ ∧ w7.cell? ⟨g7, 1, none⟩ = some (.int .i64 py) := by
                rcases hown7.2 with ⟨_, h0⟩ | ⟨g, cap, cur, hv, hg, hh, hnc, hcm, hs, ht⟩
                · simp at h0
                · injection hv with h1 h2 h3
                  refine ⟨g, h1, ?_⟩
                  rw [Qu.blk_cell hh]
                  have := congrArg (fun l : List Value => l[1]?) ht
                  simp [Qu.enc, List.getElem?_take] at this
                  exact this.2
              subst hA7
              have hd4 : ((xs2.length : Int) == 0) = false := by simp; exact hne
              have hroomc : (decide (xs2.length < c) = false) ∨ (xs2.length < c ∧ decide (Qu.sum xs2 + py ≤ bytes) = false) := by
                simp [Qu.roomB] at hroom
                by_cases h : xs2.length < c
                · exact .inr ⟨h, by simp; have := hroom h; omega⟩
                · exact .inl (by simpa using h)
              have hpy := HOK5.out.py (px, py) (by simp)
              simp only at hpy
              obtain ⟨hpy0, hpy1⟩ := hpy
              clear hown7 hne hroom
              rcases hroomc with hd5 | ⟨hlt5, hd5⟩
              all_goals
                go_wp2_with fail
                go_quiet (fail)
                go_wp2
                go_roundg (n2 - (j + 1))
                case measure => omega
                case rel =>
                  exact ⟨xs2, (px, py) :: r, o5, j + 1, rfl, by omega, by go_num, by rw [← HLEN5.out]; exact congrArg _ (by have := HOM.out; omega), rfl, ho5, by have := HLEN5.out; have := HOM.out; omega, by omega, (HQ7.out).drewN' _, HOK5.out, HGOOD5.out, HRISE5.out, Qu.below_drewN' HB7.out _⟩
      · have hd : decide (j < n2) = false ∨ (j < n2 ∧ decide ((j : Int) < 400) = false) := by
          by_cases h : j < n2
          · exact .inr ⟨h, by simp; omega⟩
          · exact .inl (by simp; omega)
        clear hlt
        rcases hd with hd | ⟨h1, hd⟩
        · go_wp2
          go_ret
          exact ⟨rfl, HBE.out⟩
        · go_wp2
          go_ret
          exact ⟨rfl, HBE.out⟩
end Go.Proofs.Ytgdeoodihhcdjaa
