/- same. -/
import Derived.Test.YtgdeoodihhcdjaaRl
namespace Go.Proofs.Ytgdeoodihhcdjaa
open Go.RowKit
set_option linter.unusedVariables false
set_option linter.unusedSimpArgs false

/-- A slice of items that may be written: new memory. -/
def Qu.Wr (w : World) (base : Nat) (A : Option Addr) (n : Nat) : Prop := 0 < n → ∃ g cur, A = some ⟨g, 0, none⟩ ∧ base ≤ g ∧ w.heap[g]? = some (.cells cur 38 (0, 0)) ∧ n * 2 ≤ cur.size
theorem Qu.Wr.of_own {w : World} {base n cp : Nat} {A : Option Addr} {l : Nat} {xs : List Value} (h : w.ownsRow base 38 2 (.slice A l cp) n xs) : Qu.Wr w base A n := by
  intro hn
  rcases h.2 with ⟨_, h0⟩ | ⟨g, cap, cur, hv, hg, hh, hnc, hcm, hs, htk⟩
  · omega
  · injection hv with h1
    exact ⟨g, cur, h1, hg, hh, by have := h.1; have := congrArg List.length htk; simp at this; omega⟩
theorem Qu.Wr.keep {w w' : World} {base n : Nat} {A : Option Addr} (h : Qu.Wr w base A n) (hb : Below w.heap.size w w') : Qu.Wr w' base A n := by
  intro hn
  obtain ⟨g, cur, h1, h2, h3, h4⟩ := h hn
  exact ⟨g, cur, h1, h2, Qu.blk_below h3 hb, h4⟩
theorem Qu.Wr.set {w : World} {base n : Nat} {A : Option Addr} (h : Qu.Wr w base A n) (pb po : Nat) (u : Value) : Qu.Wr (w.setCell ⟨pb, po, none⟩ u) base A n := by
  intro hn
  obtain ⟨g, cur, h1, h2, h3, h4⟩ := h hn
  by_cases hp : g = pb
  · subst hp
    exact ⟨g, cur.setIfInBounds po u, h1, h2, Qu.blk_set h3 po u, by simpa using h4⟩
  · exact ⟨g, cur, h1, h2, Qu.blk_far (p := ⟨pb, po, none⟩) h3 hp u, h4⟩
theorem Qu.Wr.cells {w : World} {base n k : Nat} {A : Option Addr} (h : Qu.Wr w base A n) (hk : k < n) : ∃ g u0 u1, A = some ⟨g, 0, none⟩ ∧ base ≤ g ∧ g < w.heap.size ∧ w.cell? ⟨g, k * 2, none⟩ = some u0 ∧ w.cell? ⟨g, k * 2 + 1, none⟩ = some u1 ∧ w.frozen? ⟨g, k * 2, none⟩ = false ∧ w.frozen? ⟨g, k * 2 + 1, none⟩ = false := by
  obtain ⟨g, cur, h1, h2, h3, h4⟩ := h (by omega)
  refine ⟨g, cur[k * 2]'(by omega), cur[k * 2 + 1]'(by omega), h1, h2, Qu.blk_lt h3, ?_, ?_, Qu.blk_frozen h3 _, Qu.blk_frozen h3 _⟩
  · rw [Qu.blk_cell h3, Array.getElem?_eq_getElem (by omega)]
  · rw [Qu.blk_cell h3, Array.getElem?_eq_getElem (by omega)]

theorem Qu.RAt.below {w w' : World} {rb c : Nat} {b : Int} {xs ys : List (Int × Int)} {B1 B2 : Option Nat} (h : Qu.RAt w rb c b xs ys B1 B2) (hb : Below w.heap.size w w') : Qu.RAt w' rb c b xs ys B1 B2 := by
  obtain ⟨V1, V2, h1, h2, h3, h4⟩ := h
  exact ⟨V1, V2, Qu.blk_below h1 hb, h2.keep (fun i hi => hb.block i (h2.lt i hi)), h3.keep (fun i hi => hb.block i (h3.lt i hi)), h4⟩

set_option maxHeartbeats 2000000 in
set_option maxRecDepth 100000 in
theorem same_any (sb rb c : Nat) (b : Int) (xs ys : List (Int × Int)) (MV : Value) (R LB B1 B2 : Option Nat) (w : World) (hc0 : 0 < c) (hat : Qu.At w sb c b (Qu.sum xs) xs ys MV R LB) (hrat : Qu.RAt w rb c b xs ys B1 B2)
    (hx : xs.length ≤ 2000) (hy : ys.length ≤ 2000) (hu : Qu.sum xs ≤ 17000000) (hpx : ∀ p ∈ xs, 0 ≤ p.2) :
    Calls Try.prog 23 #[.pointer (some ⟨sb, 0, none⟩), .pointer (some ⟨rb, 0, none⟩)] w fun e w' => e = .returned (.bool true) ∧ Below w.heap.size w w' := by
  have HAT := Lib.hid hat
  have HRAT := Lib.hid hrat
  have HPX := Lib.hid hpx
  obtain ⟨V1, V2, hblk, hl1, hl2, hne⟩ := hrat
  obtain ⟨A1, cp1, rfl⟩ := hl1.slice
  obtain ⟨A2, cp2, rfl⟩ := hl2.slice
  have HBLK := Lib.hid hblk
  have HL1 := Lib.hid hl1
  have HL2 := Lib.hid hl2
  have hrb := Qu.blk_lt hblk
  clear hat hpx hblk hl1 hl2 hne
  go_enter Try.func23, Try.ntmps23
  go_wp2
  go_loopg [5] 2 (fun gk s5 wr => ∃ t : Nat, t ≤ 2 ∧ gk = 2 - t ∧ s5 = .int .i64 t ∧ Below w.heap.size w wr)
  case atStart => exact ⟨0, by omega, by omega, rfl, Below.refl _ _⟩
  case round =>
    obtain ⟨t, ht, rfl, rfl, hb⟩ := hrel
    by_cases htl : t < 2
    · have htl2 : (t : Int) < 2 := by omega
      have HB := Lib.hid hb
      have HHELD := Lib.hid (held_any sb c b (Qu.sum xs) xs ys MV R LB wr hc0 (HAT.out.keep (hb.block _ (by obtain ⟨_, _, _, h, _⟩ := HAT.out; exact Qu.blk_lt h)) (fun i hi => hb.block _ (by obtain ⟨_, _, _, _, h, _⟩ := HAT.out; exact h.lt i hi)) (fun i hi => hb.block _ (by obtain ⟨_, _, _, _, _, h, _⟩ := HAT.out; exact h.lt i hi))) hx)
      clear hb
      go_upto_region 5 with (first
        | (go_at_call 24; refine HHELD.out.mono ?_; rintro e w1 ⟨v1, rfl, hown1, hb1⟩; have HB1 := Lib.hid (HB.out.trans (hb1.mono HB.out.size)); have HW1 := Lib.hid hown1; obtain ⟨A3, cp3, rfl⟩ := Qu.own_slice hown1; clear hown1 hb1; have HLINE := Lib.hid (line_any sb c b (Qu.sum xs) xs ys MV R LB w1 hc0 (HAT.out.below HB1.out) hy))
        | (go_at_call 13; refine HLINE.out.mono ?_; rintro e w2 ⟨v2, rfl, hown2, hb2⟩; have HB2 := Lib.hid (HB1.out.trans (hb2.mono HB1.out.size)); have HW2 := Lib.hid hown2; have HB21 := Lib.hid hb2; obtain ⟨A4, cp4, rfl⟩ := Qu.own_slice hown2; clear hown2 hb2))
      have HLOOK := Lib.hid (look_any sb c b (Qu.sum xs) xs ys MV R LB w2 hc0 (HAT.out.keep (HB2.out.block _ (by obtain ⟨_, _, _, h, _⟩ := HAT.out; exact Qu.blk_lt h)) (fun i hi => HB2.out.block _ (by obtain ⟨_, _, _, _, h, _⟩ := HAT.out; exact h.lt i hi)) (fun i hi => HB2.out.block _ (by obtain ⟨_, _, _, _, _, h, _⟩ := HAT.out; exact h.lt i hi))) hx hy)
      have hs0 := Qu.sum_nonneg xs HPX.out
      go_upto_region 7 with (first
        | (go_at_call 12; refine HLOOK.out.mono ?_; rintro e w3 ⟨rfl, hb3⟩; have HB3 := Lib.hid (HB2.out.trans (hb3.mono HB2.out.size)); have HB32 := Lib.hid hb3; clear hb3; have HRL := Lib.hid (rlook_any rb c b xs ys B1 B2 w3 (HRAT.out.below HB3.out) hx hy hu HPX.out))
        | (go_at_call 48; refine HRL.out.mono ?_; rintro e w4 ⟨rfl, hb4⟩; have HB4 := Lib.hid (HB3.out.trans (hb4.mono HB3.out.size)); have HB43 := Lib.hid hb4; clear hb4; obtain ⟨_, _, d2, d3⟩ := Qu.cells4 (Qu.blk_below HBLK.out HB4.out); have hrb4 := Qu.blk_lt (Qu.blk_below HBLK.out HB4.out); have HO1 := Lib.hid (Qu.own_below (Qu.own_below (Qu.own_below HW1.out HB21.out) HB32.out) HB43.out); have HO2 := Lib.hid (Qu.own_below (Qu.own_below HW2.out HB32.out) HB43.out); obtain ⟨L3, hl3, _⟩ := Qu.Line.of_own0 HO1.out; obtain ⟨L4, hl4, _⟩ := Qu.Line.of_own0 HO2.out; have HIT1 := Lib.hid (items_same _ _ xs L3 B1 w4 hl3 (HL1.out.keep (fun i hi => HB4.out.block i (HL1.out.lt i hi))) (by omega)); have HIT2 := Lib.hid (fun n => items_same _ _ ys L4 B2 (w4.drewN n) (hl4.drewN n) ((HL2.out.keep (w' := w4) (fun i hi => HB4.out.block i (HL2.out.lt i hi))).drewN n) (by omega)); clear hl3 hl4)
        | (go_at_call 17; with_reducible refine HIT1.out.mono ?_; rintro e w5 ⟨rfl, n5, rfl⟩)
        | (go_at_call 17; with_reducible refine (HIT2.out _).mono ?_; rintro e w5 ⟨rfl, n6, rfl⟩))
      have hw3 : Qu.Wr w4 w.heap.size A3 xs.length := Qu.Wr.of_own (Qu.own_base HO1.out HB.out.size)
      have hw4 : Qu.Wr w4 w.heap.size A4 ys.length := Qu.Wr.of_own (Qu.own_base HO2.out HB1.out.size)
      have HW3 := Lib.hid hw3
      have HW4 := Lib.hid hw4
      clear hw3 hw4 d2 d3 HIT1 HIT2 HO1 HO2 HRL HLOOK HLINE HHELD HW1 HW2 HB43 HB32 HB21 HB3 HB2 HB1
      go_wp2
      go_loopg [8] xs.length (fun gk s8 wx => ∃ k : Nat, k ≤ xs.length ∧ gk = xs.length - k ∧ s8 = .int .i64 k ∧ Below w.heap.size w wx ∧ Qu.Wr wx w.heap.size A3 xs.length ∧ Qu.Wr wx w.heap.size A4 ys.length)
      case atStart => exact ⟨0, by omega, by omega, rfl, ⟨HB4.out.os, HB4.out.tape, HB4.out.output, HB4.out.size, HB4.out.block⟩, HW3.out, HW4.out⟩
      case round =>
        obtain ⟨k, hk, rfl, rfl, hb, hw3, hw4⟩ := hrel
        by_cases hkl : k < xs.length
        · obtain ⟨g, u0, u1, rfl, hg, hlt, x0, x1, f0, f1⟩ := hw3.cells hkl
          have HBX := Lib.hid hb
          have HWX3 := Lib.hid hw3
          have HWX4 := Lib.hid hw4
          clear hb hw3 hw4
          go_wp2
          go_roundg (xs.length - (k + 1))
          case measure => omega
          case rel => exact ⟨k + 1, by omega, rfl, by go_num, (HBX.out.setCell (p := ⟨g, k * 2, none⟩) hg _).setCell (p := ⟨g, k * 2 + 1, none⟩) hg _, (HWX3.out.set _ _ _).set _ _ _, (HWX4.out.set _ _ _).set _ _ _⟩
        · have HBX := Lib.hid hb
          have HWX4 := Lib.hid hw4
          clear hb hw3 hw4
          go_wp2
          go_loopg [9] ys.length (fun gk s9 wx => ∃ k : Nat, k ≤ ys.length ∧ gk = ys.length - k ∧ s9 = .int .i64 k ∧ Below w.heap.size w wx ∧ Qu.Wr wx w.heap.size A4 ys.length)
          case atStart => exact ⟨0, by omega, by omega, rfl, HBX.out, HWX4.out⟩
          case round =>
            obtain ⟨m, hm, rfl, rfl, hb, hw4⟩ := hrel
            by_cases hml : m < ys.length
            · obtain ⟨g, u0, u1, rfl, hg, hlt, x0, x1, f0, f1⟩ := hw4.cells hml
              have HBY := Lib.hid hb
              have HWY4 := Lib.hid hw4
              clear hb hw4
              go_wp2
              go_roundg (ys.length - (m + 1))
              case measure => omega
              case rel => exact ⟨m + 1, by omega, rfl, by go_num, (HBY.out.setCell (p := ⟨g, m * 2, none⟩) hg _).setCell (p := ⟨g, m * 2 + 1, none⟩) hg _, (HWY4.out.set _ _ _).set _ _ _⟩
            · have HBY := Lib.hid hb
              clear hb hw4
              go_wp2
              go_roundg (2 - (t + 1))
              case measure => omega
              case rel => exact ⟨t + 1, by omega, rfl, by go_num, HBY.out⟩
    · have htl2 : ¬ (t : Int) < 2 := by omega
      have HB := Lib.hid hb
      clear hb
      go_wp2
      go_ret
      exact ⟨rfl, HB.out⟩
end Go.Proofs.Ytgdeoodihhcdjaa
