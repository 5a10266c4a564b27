/- The walk of QueueAll. -/
import Derived.Test.YtgdeoodihhcdjaaRo
import Derived.Deep.CutBlock
namespace Go.Proofs.Ytgdeoodihhcdjaa
open Go.RowKit
set_option linter.unusedVariables false
set_option linter.unusedSimpArgs false

theorem Qu.In64.of_wf {x : Int} (h : (Lit.int .i64 x).wf = true) : Qu.In64 x := by
  simp [Lit.wf, IntKind.min, IntKind.max, IntKind.signed, IntKind.bits] at h
  unfold Qu.In64
  omega
def Qu.CallsAt (w : World) (A : Option Addr) (n : Nat) : Prop := 0 < n → ∃ b o, A = some ⟨b, o, none⟩ ∧ b < w.heap.size ∧ ∀ j, j < n → ∃ k id x y, Qu.In64 id ∧ w.cell? ⟨b, o + j * 4, none⟩ = some (.int .i64 k) ∧ w.cell? ⟨b, o + j * 4 + 1, none⟩ = some (.int .i64 id) ∧ w.cell? ⟨b, o + j * 4 + 2, none⟩ = some (.int .i64 x) ∧ w.cell? ⟨b, o + j * 4 + 3, none⟩ = some (.int .i64 y)
structure Qu.AllRel (w0 : World) (sb mb rb c : Nat) (b : Int) (n : Nat) (gk : Nat) (i : Value) (wr : World) : Prop where
  mk :: (out : ∃ (F : Nat → Prop) (xs ys : List (Int × Int)) (B1 B2 : Option Nat) (j : Nat), gk = n - j ∧ j ≤ n ∧ i = .int .i64 j ∧ (j : Int) ≤ 500 ∧ Qu.Two F w0 wr sb mb rb c b xs ys xs ys B1 B2 ∧ Qu.Ok c b xs ys)
def Qu.AllMid (w0 : World) (sb mb rb c : Nat) (b : Int) (wx : World) : Prop := ∃ (F : Nat → Prop) (xs ys : List (Int × Int)) (B1 B2 : Option Nat), Qu.Two F w0 wx sb mb rb c b xs ys xs ys B1 B2 ∧ Qu.Ok c b xs ys
theorem Qu.Two.more {F : Nat → Prop} {w0 w w1 : World} {sb mb rb c : Nat} {b : Int} {xs ys xs' ys' : List (Int × Int)} {B1 B2 : Option Nat} (h : Qu.Two F w0 w sb mb rb c b xs ys xs' ys' B1 B2) (hb : Below w.heap.size w w1) : Qu.Two F w0 w1 sb mb rb c b xs ys xs' ys' B1 B2 :=
  ⟨h.q.below hb, h.r.below hb, fun i hi => ⟨(h.f i hi).1, Nat.lt_of_lt_of_le (h.f i hi).2 hb.size⟩, h.nr, h.n1, h.n2, h.rb0, h.below.trans (hb.mono h.below.size)⟩

theorem Qu.enterF_out (c : Nat) (b : Int) : ∀ (ys xs : List (Int × Int)) (u : Int), (Qu.enterF c b xs ys u).2.2.2.length ≤ ys.length
  | [], xs, u => by simp [Qu.enterF]
  | p :: ys, xs, u => by
    rw [Qu.enterF]
    split
    · have := Qu.enterF_out c b ys (xs ++ [p]) (u + p.2)
      simp only [List.length_cons]
      omega
    · simp
theorem Qu.own_kept_two {F : Nat → Prop} {w4 w5 w6 : World} {e : TypeId} {size n : Nat} {v : Value} {vs : List Value} (h : w5.ownsRow w4.heap.size e size v n vs) (hs : ∃ S, Qu.Fr S w5 w6 ∧ ∀ i, Qu.grow F w4 w5 i → ¬ S i) : w6.ownsRow w4.heap.size e size v n vs := by
  obtain ⟨S, h1, h2⟩ := hs
  exact Qu.own_fr h h1 (fun k hk => h2 k (.inr ⟨(h.lt k hk).1, (h.lt k hk).2⟩))

set_option maxHeartbeats 4000000 in
set_option maxRecDepth 100000 in
theorem all_walk (cap bytes : Int) (A3 : Option Addr) (n3 c3 : Nat) (w : World) (h3 : Qu.CallsAt w A3 n3) (hn3 : n3 ≤ 9223372036854775807) :
    Calls Try.prog 4 #[.int .i64 cap, .int .i64 bytes, .slice A3 n3 c3] w fun e w' => e = .returned (.bool true) ∧ Below w.heap.size w w' := by
  have H3 := Lib.hid h3
  clear h3
  by_cases hbad : cap < 1 ∨ 1024 < cap ∨ bytes < 1 ∨ 16777216 < bytes
  · have HBAD := Lib.hid hbad
    clear hbad
    go_enter Try.func4, Try.ntmps4
    go_wp2_with (first
      | (go_at_call 8; refine (begun19 w).mono ?_; rintro e w1 ⟨rfl, hb1⟩; have HB1 := Lib.hid hb1; clear hb1)
      | (go_at_call 9; refine (new_no cap bytes w1 HBAD.out).mono ?_; rintro e w2 ⟨rfl, rfl⟩)
      | (go_at_call 14; refine (rnew_no cap bytes w1 HBAD.out).mono ?_; rintro e w2 ⟨rfl, rfl⟩))
    go_ret
    exact ⟨rfl, HB1.out⟩
  · obtain ⟨c, rfl⟩ := Int.eq_ofNat_of_zero_le (show 0 ≤ cap by omega)
    have hc0 : 0 < c := by omega
    have hc1 : c ≤ 1024 := by omega
    have hb0 : 1 ≤ bytes := by omega
    have hb1 : bytes ≤ 16777216 := by omega
    clear hbad
    go_enter Try.func4, Try.ntmps4
    go_wp2_with (first
      | (go_at_call 8; refine (begun19 w).mono ?_; rintro e w1 ⟨rfl, hbe1⟩; have HB1 := Lib.hid hbe1; clear hbe1)
      | (go_at_call 9; refine (new_Q c bytes w1 hc0 hc1 hb0 hb1).mono ?_; rintro e w2 ⟨sb, mb, rfl, hq2, hbe2⟩; have HQ2 := Lib.hid hq2; have HB2 := Lib.hid hbe2; clear hq2 hbe2)
      | (go_at_call 14; refine (rnew_yes c bytes w2 hc0 hc1 hb0 hb1).mono ?_; rintro e w3 ⟨rb, rfl, hr3, hbe3, hrb⟩; have HR3 := Lib.hid hr3; have HB3 := Lib.hid hbe3; clear hr3 hbe3))
    go_loopg [11] n3 (fun gk i wr => Qu.AllRel w sb mb rb c bytes n3 gk i wr)
    case atStart =>
      have hq := HQ2.out.trim
      have := HB1.out.size
      have := HB2.out.size
      refine ⟨_, [], [], none, none, 0, by omega, by omega, rfl, by omega, ⟨hq.below HB3.out, HR3.out, fun i hi => ?_, fun hi => ?_, (fun i h => by cases h), (fun i h => by cases h), by omega, HB1.out.trans ((HB2.out.mono HB1.out.size).trans (HB3.out.mono (by omega)))⟩, ⟨hc0, hc1, hb0, hb1, by simp, by simp, by simp [Qu.sum_nil]; omega, by simp, by simp, by simp, by simp⟩⟩
      · have := HB3.out.size; omega
      · omega
    case round =>
      obtain ⟨F, xs, ys, B1, B2, j, rfl, hj, rfl, hj5, htwo, hok⟩ := hrel.out
      clear hrel
      have HTWO := Lib.hid htwo
      have HOK := Lib.hid hok
      clear htwo hok
      by_cases hlt : j < n3 ∧ j < 500
      · obtain ⟨hl1, hl2⟩ := hlt
        have hl3 : (j : Int) < 500 := by omega
        obtain ⟨bb, oo, rfl, hbb, hcell⟩ := H3.out (by omega)
        obtain ⟨kk, id, x, y, h64, k0, k1, k2, k3⟩ := hcell j hl1
        have HBE := Lib.hid HTWO.out.below
        have k0 := (HBE.out.cell (p := ⟨bb, oo + j * 4, none⟩) hbb).trans k0
        have k1 := (HBE.out.cell (p := ⟨bb, oo + j * 4 + 1, none⟩) hbb).trans k1
        have k2 := (HBE.out.cell (p := ⟨bb, oo + j * 4 + 2, none⟩) hbb).trans k2
        have k3 := (HBE.out.cell (p := ⟨bb, oo + j * 4 + 3, none⟩) hbb).trans k3
        clear hcell hbb
        go_upto_block 2 with fail
        obtain ⟨w4, hw4⟩ : ∃ w4, w4 = wr.alloc (.cells #[.int .i64 kk, .int .i64 id, .int .i64 x, .int .i64 y] 36 (0, 0)) := ⟨_, rfl⟩
        rw [← hw4]
        have hblk4 : w4.heap[wr.heap.size]? = some (.cells #[.int .i64 kk, .int .i64 id, .int .i64 x, .int .i64 y] 36 (0, 0)) := by rw [hw4]; exact heap_alloc_new wr _
        have HT4 := Lib.hid (HTWO.out.more (w1 := w4) (by rw [hw4]; exact (Below.refl _ _).alloc (Nat.le_refl _) _))
        have hnF : ¬ F wr.heap.size := fun h => by have := (HTWO.out.f _ h).2; omega
        have HNF := Lib.hid hnF
        have HC4 := Lib.hid hblk4
        have y1 := Qu.blk_cell hblk4 1
        have y2 := Qu.blk_cell hblk4 2
        have y3 := Qu.blk_cell hblk4 3
        simp only [List.getElem?_toArray, List.getElem?_cons_succ, List.getElem?_cons_zero] at y1 y2 y3
        have hn4 := Qu.blk_lt hblk4
        have hsum := HOK.out.sum
        have hsum0 := HOK.out.sum0
        clear hw4 hblk4 hnF k0 k1 k2 k3
        go_cut [13, 14, 15, 16, 17, 18, 19, 20, 21, 22, 23, 24, 25] (fun s13 s14 s15 s16 s17 s18 s19 s20 s21 s22 s23 s24 s25 wx => s13 = .bool true ∧ Qu.AllMid w sb mb rb c bytes wx)
        case first =>
          by_cases hk1 : kk = 1
          · subst hk1
            have hput := put_Q F sb mb c bytes xs ys id x w4 HT4.out.q HOK.out h64
            have hrput := fun W B1 B2 (h : Qu.RAt W rb c bytes xs ys B1 B2) => rput_any rb c bytes xs ys B1 B2 id x W hc1 ⟨by omega, by omega⟩ h HOK.out.xl HOK.out.sum HOK.out.px HOK.out.yl
            have hok1 := HOK.out.put id x h64
            obtain ⟨G, hG⟩ : ∃ G, G = Qu.putF c bytes xs ys id x := ⟨_, rfl⟩
            rw [← hG] at hput hok1
            simp only [← hG] at hrput
            obtain ⟨r1, r2, xs1, ys1⟩ := G
            have HPUT := Lib.hid hput
            have HRPUT := Lib.hid hrput
            have HOK1 := Lib.hid hok1
            clear hput hrput hok1 hG
            go_wp2_with (first
              | (go_at_call 10; refine HPUT.out.mono ?_; rintro e w5 ⟨rfl, hq, hf⟩; have HT5 := Lib.hid (HT4.out.prog hq hf); have hc5 := Qu.blk_fr HC4.out hf HNF.out; have z1 := Qu.blk_cell hc5 1; have z2 := Qu.blk_cell hc5 2; simp only [List.getElem?_toArray, List.getElem?_cons_succ, List.getElem?_cons_zero] at z1 z2; have hn5 := Qu.blk_lt hc5; clear hq hf hc5)
              | (go_at_call 15; refine (HRPUT.out _ _ _ HT5.out.r).mono ?_; rintro e w6 ⟨rfl, hto⟩; have HT6 := Lib.hid (HT5.out.ref hto); clear hto))
            go_meet
            obtain ⟨C1, C2, hh⟩ := HT6.out.1
            exact ⟨by simp, _, xs1, ys1, C1, C2, hh, HOK1.out⟩
          by_cases hk2 : kk = 2
          · subst hk2
            obtain ⟨G, hG⟩ : ∃ G, G = Qu.takeF x y [] 0 xs := ⟨_, rfl⟩
            obtain ⟨E, hE⟩ : ∃ E, E = Qu.enterF c bytes G.2 ys (Qu.sum G.2) := ⟨_, rfl⟩
            obtain ⟨e1, e2, e3, e4⟩ := Qu.enterF_keeps c bytes ys G.2 (Qu.sum G.2) rfl
            have e5 := Qu.enterF_out c bytes ys G.2 (Qu.sum G.2)
            rw [← hE] at e1 e2 e5
            have hsp := Qu.takeF_split x y xs [] 0
            rw [← hG, List.nil_append] at hsp
            have hgl : G.1.length ≤ 2000 := by have := congrArg List.length hsp; simp at this; have := HOK.out.xl; omega
            have hel : E.2.2.2.length ≤ 2000 := by have := HOK.out.yl; omega
            have htake := take_Q F sb mb c bytes xs ys x y w4 HT4.out.q HOK.out G hG E hE e1 e2
            have hrtake := fun W B1 B2 (h : Qu.RAt W rb c bytes xs ys B1 B2) => rtake_any rb c bytes xs ys B1 B2 x y W hc1 ⟨by omega, by omega⟩ h HOK.out.xl HOK.out.sum HOK.out.px HOK.out.py HOK.out.yl
            simp only [← hG] at hrtake
            have hok1 := HOK.out.take x y
            rw [← hG, ← hE] at hok1
            have HTAKE := Lib.hid htake
            have HRTAKE := Lib.hid hrtake
            have HOK1 := Lib.hid hok1
            have HE := Lib.hid hE
            clear htake hrtake hok1 hG hE e1 e2 e3 e4 e5 hsp
            go_wp2_with (first
              | (go_at_call 11; refine HTAKE.out.mono ?_; rintro e w5 ⟨v1, v2, rfl, ho1, ho2, hq, hf⟩; have HT5 := Lib.hid (HT4.out.prog hq hf); have HO1 := Lib.hid ho1; have HO2 := Lib.hid ho2; have hc5 := Qu.blk_fr HC4.out hf HNF.out; have z2 := Qu.blk_cell hc5 2; have z3 := Qu.blk_cell hc5 3; simp only [List.getElem?_toArray, List.getElem?_cons_succ, List.getElem?_cons_zero] at z2 z3; have hn5 := Qu.blk_lt hc5; clear hq hf hc5 ho1 ho2)
              | (go_at_call 16; refine (HRTAKE.out _ _ _ HT5.out.r).mono ?_; rintro e w6 ⟨u1, u2, rfl, LO, a1, a2, a3, a4⟩; rw [← HE.out] at a3 a4; have HT6 := Lib.hid (HT5.out.ref a4); have HP1 := Lib.hid (Qu.own_kept_two HO1.out (HT5.out.ref a4).2); have HP2 := Lib.hid (Qu.own_kept_two HO2.out (HT5.out.ref a4).2); obtain ⟨LP, hlp, _⟩ := Qu.Line.of_own0 HP1.out; have HIT := Lib.hid (items_same _ _ G.1 LP LO w6 hlp a1 (by omega)); have HIDS := Lib.hid (fun n => ids_same v2 u2 E.2.2.2 _ _ (w6.drewN n) HP2.out a3 (by omega)); clear a1 a2 a3 a4 hlp)
              | (go_at_call 17; refine HIT.out.mono ?_; rintro e w7 ⟨rfl, m7, rfl⟩)
              | (go_at_call 18; refine (HIDS.out _).mono ?_; rintro e w8 ⟨rfl, m8, rfl⟩))
            go_meet
            obtain ⟨C1, C2, hh⟩ := HT6.out.1
            exact ⟨rfl, _, E.1, E.2.1, C1, C2, (hh.more (w1 := w6.drewN (m7 + m8)) ⟨rfl, rfl, rfl, Nat.le_refl _, fun _ _ => rfl⟩), HOK1.out⟩
          by_cases hk3 : kk = 3
          · subst hk3
            rcases Qu.first_or ys id with ⟨i, hi⟩ | hno
            · obtain ⟨E, hE⟩ : ∃ E, E = Qu.enterF c bytes xs (ys.take i ++ ys.drop (i + 1)) (Qu.sum xs) := ⟨_, rfl⟩
              have e5 := Qu.enterF_out c bytes (ys.take i ++ ys.drop (i + 1)) xs (Qu.sum xs)
              rw [← hE] at e5
              have hel : E.2.2.2.length ≤ 2000 := by have := HOK.out.yl; simp at e5; omega
              have hleave := leave_Q F sb mb c bytes xs ys id i w4 HT4.out.q HOK.out hi h64 E hE
              have hrleave := fun W B1 B2 (h : Qu.RAt W rb c bytes xs ys B1 B2) => rleave_yes rb c bytes xs ys B1 B2 id i W hc1 ⟨by omega, by omega⟩ h HOK.out.xl HOK.out.sum HOK.out.px HOK.out.py (by have := HOK.out.yl; omega) hi
              simp only [← hE] at hrleave
              have hok1 := (HOK.out.cut i).enter
              rw [← hE] at hok1
              have HLEAVE := Lib.hid hleave
              have HRLEAVE := Lib.hid hrleave
              have HOK1 := Lib.hid hok1
              clear hleave hrleave hok1 hE e5 hi
              go_wp2_with (first
                | (go_at_call 19; refine HLEAVE.out.mono ?_; rintro e w5 ⟨v1, rfl, ho1, hq, hf⟩; have HT5 := Lib.hid (HT4.out.prog hq hf); have HO1 := Lib.hid ho1; have hc5 := Qu.blk_fr HC4.out hf HNF.out; have z1 := Qu.blk_cell hc5 1; simp only [List.getElem?_toArray, List.getElem?_cons_succ, List.getElem?_cons_zero] at z1; have hn5 := Qu.blk_lt hc5; clear hq hf hc5 ho1)
                | (go_at_call 20; refine (HRLEAVE.out _ _ _ HT5.out.r).mono ?_; rintro e w6 ⟨u1, rfl, C1, C2, a1, a2, a3, a4, a5⟩; have HRF := Lib.hid (HT5.out.ref ⟨C1, C2, a1, a3, a4, a5⟩); have HP1 := Lib.hid (Qu.own_kept_two HO1.out HRF.out.2); have HIDS := Lib.hid (ids_same v1 u1 E.2.2.2 _ _ w6 HP1.out a2 (by omega)); clear a1 a2 a3 a4 a5)
                | (go_at_call 18; refine HIDS.out.mono ?_; rintro e w8 ⟨rfl, m8, rfl⟩))
              go_meet
              obtain ⟨D1, D2, hh⟩ := HRF.out.1
              exact ⟨by simp, _, E.1, E.2.1, D1, D2, (hh.more (w1 := w6.drewN m8) ⟨rfl, rfl, rfl, Nat.le_refl _, fun _ _ => rfl⟩), HOK1.out⟩
            · have hleave : Calls Try.prog 19 #[.pointer (some ⟨sb, 0, none⟩), .int .i64 id] w4 fun e w' => e = .returned (.tuple #[.slice none 0 0, .int .i64 6]) ∧ Below w4.heap.size w4 w' := by
                obtain ⟨R, LB, q1, _⟩ := HT4.out.q
                exact leave_no sb c bytes _ xs ys _ R LB id w4 hc0 q1 (by have := HOK.out.yl; omega) hno
              have hrleave := fun W B1 B2 (h : Qu.RAt W rb c bytes xs ys B1 B2) => rleave_no rb c bytes xs ys B1 B2 id W h (by have := HOK.out.yl; omega) hno
              have HLEAVE := Lib.hid hleave
              have HRLEAVE := Lib.hid hrleave
              clear hleave hrleave hno
              go_wp2_with (first
                | (go_at_call 19; refine HLEAVE.out.mono ?_; rintro e w5 ⟨rfl, hb5⟩; have HT5 := Lib.hid (HT4.out.more hb5); have hc5 := Qu.blk_below HC4.out hb5; have z1 := Qu.blk_cell hc5 1; simp only [List.getElem?_toArray, List.getElem?_cons_succ, List.getElem?_cons_zero] at z1; have hn5 := Qu.blk_lt hc5; clear hb5 hc5)
                | (go_at_call 20; refine (HRLEAVE.out _ _ _ HT5.out.r).mono ?_; rintro e w6 ⟨rfl, rfl⟩)
                | (go_at_call 18; refine (ids_same (.slice none 0 0) (.slice none 0 0) [] 0 0 w5 (World.ownsRow_nil _ _ _ _) (World.ownsRow_nil _ _ _ _) (by decide)).mono ?_; rintro e w8 ⟨rfl, m8, rfl⟩))
              go_meet
              exact ⟨by simp, F, xs, ys, B1, B2, (HT5.out.more (w1 := w5.drewN m8) ⟨rfl, rfl, rfl, Nat.le_refl _, fun _ _ => rfl⟩), HOK.out⟩
          by_cases hk4 : kk = 4
          · subst hk4
            have hclear := clear_Q F sb mb c bytes xs ys w4 HT4.out.q HOK.out
            have hrclear := fun W B1 B2 (h : Qu.RAt W rb c bytes xs ys B1 B2) => rclear_any rb c bytes xs ys B1 B2 W h (by have := HOK.out.xl; omega) (by have := HOK.out.yl; omega)
            have hzl : (xs ++ ys).length ≤ 4000 := by have := HOK.out.xl; have := HOK.out.yl; rw [List.length_append]; omega
            obtain ⟨zs, hzs⟩ : ∃ zs, (xs ++ ys).map Prod.fst = zs := ⟨_, rfl⟩
            have hzl2 : (xs ++ ys).length = zs.length := by rw [← hzs, List.length_map]
            rw [hzs, hzl2] at hclear
            simp only [hzs, hzl2] at hrclear
            rw [hzl2] at hzl
            have HCLEAR := Lib.hid hclear
            have HRCLEAR := Lib.hid hrclear
            clear hclear hrclear hzs hzl2
            go_wp2_with (first
              | (go_at_call 21; refine HCLEAR.out.mono ?_; rintro e w5 ⟨v1, rfl, ho1, hq, hf⟩; have HT5 := Lib.hid (HT4.out.prog hq hf); have HO1 := Lib.hid ho1; clear hq hf ho1)
              | (go_at_call 22; refine (HRCLEAR.out _ _ _ HT5.out.r).mono ?_; rintro e w6 ⟨u1, rfl, a2, a3⟩; have HRF := Lib.hid (HT5.out.ref a3); have HP1 := Lib.hid (Qu.own_kept_two HO1.out HRF.out.2); have HIDS := Lib.hid (ids_same v1 u1 zs _ _ w6 HP1.out a2 (by omega)); clear a2 a3)
              | (go_at_call 18; refine HIDS.out.mono ?_; rintro e w8 ⟨rfl, m8, rfl⟩))
            go_meet
            obtain ⟨D1, D2, hh⟩ := HRF.out.1
            exact ⟨by simp, _, [], [], D1, D2, (hh.more (w1 := w6.drewN m8) ⟨rfl, rfl, rfl, Nat.le_refl _, fun _ _ => rfl⟩), HOK.out.clear⟩
          have f1 : (kk == 1) = false := by simpa using hk1
          have f2 : (kk == 2) = false := by simpa using hk2
          have f3 : (kk == 3) = false := by simpa using hk3
          have f4 : (kk == 4) = false := by simpa using hk4
          clear hk1 hk2 hk3 hk4
          go_wp2_with fail
          go_meet
          exact ⟨rfl, F, xs, ys, B1, B2, HT4.out, HOK.out⟩
        case rest =>
          obtain ⟨rfl, F', xs', ys', C1, C2, htwo', hok'⟩ := hcut
          have HTW := Lib.hid htwo'
          have HOKW := Lib.hid hok'
          have hsame : Calls Try.prog 23 #[.pointer (some ⟨sb, 0, none⟩), .pointer (some ⟨rb, 0, none⟩)] wc fun e w' => e = .returned (.bool true) ∧ Below wc.heap.size wc w' := by
            obtain ⟨R, LB, q1, _⟩ := htwo'.q
            have := hok'.xl
            have := hok'.yl
            have := hok'.sum
            exact same_any sb rb c bytes xs' ys' _ R LB C1 C2 wc hc0 q1 htwo'.r (by omega) (by omega) (by omega) hok'.px
          have HSAME := Lib.hid hsame
          clear htwo' hok' hsame
          go_wp2_with (go_at_call 23; refine HSAME.out.mono ?_; rintro e w9 ⟨rfl, hb9⟩)
          go_roundg (n3 - (j + 1))
          case measure => omega
          case rel => exact ⟨F', xs', ys', C1, C2, j + 1, by omega, by omega, by go_num, by omega, HTW.out.more hb9, HOKW.out⟩
      · have HE := Lib.hid HTWO.out.below
        by_cases h1 : j < n3
        · have h5 : ¬ (j : Int) < 500 := by omega
          go_wp2
          go_ret
          exact ⟨rfl, HE.out⟩
        · go_wp2
          go_ret
          exact ⟨rfl, HE.out⟩
end Go.Proofs.Ytgdeoodihhcdjaa
