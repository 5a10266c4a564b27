/- The reference's come. -/
import Derived.Test.YtgdeoodihhcdjaaRb
import Derived.Deep.LoopGhost
import Derived.Deep.RegionLaw
import Derived.Deep.DeepCutAuto
namespace Go.Proofs.Ytgdeoodihhcdjaa
open Go.RowKit
set_option linter.unusedVariables false
set_option linter.unusedSimpArgs false

theorem Qu.cells4 {w : World} {rb : Nat} {a0 a1 a2 a3 : Value} (h : w.heap[rb]? = some (.cells #[a0, a1, a2, a3] 90 (0, 0))) :
    w.cell? ⟨rb, 0, none⟩ = some a0 ∧ w.cell? ⟨rb, 1, none⟩ = some a1 ∧ w.cell? ⟨rb, 2, none⟩ = some a2 ∧ w.cell? ⟨rb, 3, none⟩ = some a3 :=
  ⟨Qu.blk_cell h 0, Qu.blk_cell h 1, Qu.blk_cell h 2, Qu.blk_cell h 3⟩
theorem Qu.Line.ne90 {w : World} {V : Value} {ys : List (Int × Int)} {LB : Option Nat} (h : Qu.Line w V ys LB) {rb : Nat} {cs : Array Value} (hb : w.heap[rb]? = some (.cells cs 90 (0, 0))) (b : Nat) (hR : LB = some b) : b ≠ rb := by
  rcases h with ⟨_, _, rfl⟩ | ⟨lb, off, cap, arr, rfl, h1, h2, h3, h4, h5⟩
  · cases hR
  · injection hR with hR
    subst hR
    exact Qu.blk_ne h4 hb (by decide)

structure Qu.ComeRel (w : World) (rb c : Nat) (b : Int) (B1 B2 : Option Nat) (F : List (Int × Int) × List (Int × Int) × Int × List Int) (gk : Nat) (l : Value) (wr : World) : Prop where
  mk :: (out : ∃ (xs ys : List (Int × Int)) (out : List Int) (C1 C2 : Option Nat), gk = ys.length ∧ Qu.RAt wr rb c b xs ys C1 C2 ∧ xs.length ≤ c ∧ Qu.sum xs ≤ b ∧ (∀ p ∈ xs, 0 ≤ p.2) ∧ (∀ p ∈ ys, 0 ≤ p.2 ∧ p.2 ≤ b) ∧ ys.length ≤ 2000 ∧ out.length + ys.length ≤ 2000 ∧
    wr.ownsRow w.heap.size 2 1 l out.length (Qu.ints out) ∧ Qu.Fr (fun i => i = rb ∨ B1 = some i ∨ B2 = some i) w wr ∧ (C1 = B1 ∨ ∀ i, C1 = some i → w.heap.size ≤ i) ∧ (C2 = B2 ∨ ∀ i, C2 = some i → w.heap.size ≤ i) ∧
    F = ((Qu.enterF c b xs ys (Qu.sum xs)).1, (Qu.enterF c b xs ys (Qu.sum xs)).2.1, (Qu.enterF c b xs ys (Qu.sum xs)).2.2.1, out ++ (Qu.enterF c b xs ys (Qu.sum xs)).2.2.2))

def Qu.Came (w : World) (rb c : Nat) (b : Int) (B1 B2 : Option Nat) (F : List (Int × Int) × List (Int × Int) × Int × List Int) (v : Value) (w' : World) : Prop :=
  ∃ C1 C2, Qu.RAt w' rb c b F.1 F.2.1 C1 C2 ∧ w'.ownsRow w.heap.size 2 1 v F.2.2.2.length (Qu.ints F.2.2.2) ∧ Qu.Fr (fun i => i = rb ∨ B1 = some i ∨ B2 = some i) w w' ∧ (C1 = B1 ∨ ∀ i, C1 = some i → w.heap.size ≤ i) ∧ (C2 = B2 ∨ ∀ i, C2 = some i → w.heap.size ≤ i)

/-- The reference, one more being held; the line is still as it was. -/
def Qu.Held4 (w wx : World) (rb c : Nat) (b : Int) (n : Nat) (vs : List Value) (l : Value) (xs ys : List (Int × Int)) (V2 : Value) (B1 B2 C1 C2 : Option Nat) : Prop :=
  ∃ A3 cp3 D1, wx.heap[rb]? = some (.cells #[.int .i64 c, .int .i64 b, .slice A3 xs.length cp3, V2] 90 (0, 0)) ∧ Qu.Line wx (.slice A3 xs.length cp3) xs D1 ∧ Qu.Line wx V2 ys C2 ∧ wx.ownsRow w.heap.size 2 1 l (n + 1) vs ∧
    Qu.Fr (fun i => i = rb ∨ B1 = some i ∨ B2 = some i) w wx ∧ (D1 = B1 ∨ ∀ i, D1 = some i → w.heap.size ≤ i) ∧ (∀ i, D1 = some i → C2 ≠ some i)
theorem Qu.held4 {w w2 w3 : World} {rb c n : Nat} {b : Int} {vs : List Value} {l : Value} {xs ys : List (Int × Int)} {p : Int × Int} {V1 V2 : Value} {A3 : Option Addr} {cp3 : Nat} {B1 B2 C1 C2 D1 : Option Nat} {o : Obj}
    (ho : w2.ownsRow w.heap.size 2 1 l (n + 1) vs) (hb : w2.heap[rb]? = some (.cells #[.int .i64 c, .int .i64 b, V1, V2] 90 (0, 0))) (hl1 : Qu.Line w2 V1 xs C1) (hl2 : Qu.Line w2 V2 ys C2) (hf : Qu.Fr (fun i => i = rb ∨ B1 = some i ∨ B2 = some i) w w2)
    (hC1 : C1 = B1 ∨ ∀ i, C1 = some i → w.heap.size ≤ i) (hC2 : C2 = B2 ∨ ∀ i, C2 = some i → w.heap.size ≤ i) (hne : ∀ i, C1 = some i → C2 ≠ some i)
    (hb3 : w3.heap[rb]? = some (.cells #[.int .i64 c, .int .i64 b, V1, V2] 90 (0, 0))) (hl3 : Qu.Line w3 (.slice A3 (xs ++ [p]).length cp3) (xs ++ [p]) D1) (hf3 : Qu.Fr (fun i => C1 = some i) (w2.alloc o).drew w3) (hD1 : D1 = C1 ∨ ∃ i, D1 = some i ∧ (w2.alloc o).drew.heap.size ≤ i) :
    Qu.Held4 w (w3.setCell ⟨rb, 2, none⟩ (.slice A3 (xs.length + 1) cp3)) rb c b n vs l (xs ++ [p]) ys V2 B1 B2 C1 C2 := by
  have hlen : xs.length + 1 = (xs ++ [p]).length := by simp
  rw [hlen]
  replace hD1 : D1 = C1 ∨ ∃ i, D1 = some i ∧ w2.heap.size ≤ i := hD1.imp_right (fun ⟨i, h, hi⟩ => ⟨i, h, by rw [Qu.heap_drew] at hi; simp at hi; omega⟩)
  have hf23 : Qu.Fr (fun i => C1 = some i) w2 w3 := (((Qu.Fr.refl (fun i => C1 = some i) w2).alloc o).trans (w2 := w3) (S1 := fun i => C1 = some i) ⟨hf3.os, hf3.tape, hf3.output, hf3.size, hf3.block⟩ (fun _ _ h => h))
  have hl23 : Qu.Line w3 V2 ys C2 := hl2.keep (fun i hi => hf23.block i (hl2.lt i hi) (fun h => hne i h hi))
  have ho3 : w3.ownsRow w.heap.size 2 1 l (n + 1) vs := Qu.own_fr ho hf23 (fun i hi h => Qu.Line.own_ne hl1 ho (by decide) i h hi.symm)
  have hb4 := Qu.blk_set hb3 2 (.slice A3 (xs ++ [p]).length cp3)
  simp only [List.setIfInBounds_toArray, List.set_cons_succ, List.set_cons_zero] at hb4
  refine ⟨A3, cp3, D1, hb4, hl3.keep (fun i hi => Below.heap_setCell _ _ _ _ (hl3.ne90 hb3 i hi)), hl23.keep (fun i hi => Below.heap_setCell _ _ _ _ (hl23.ne90 hb3 i hi)), ?_, ?_, ?_, ?_⟩
  · exact Qu.own_fr (S := fun i => i = rb) ho3 ((Qu.Fr.refl (fun i => i = rb) w3).setCell (p := ⟨rb, 2, none⟩) (fun _ => rfl) _) (fun i hi h => by subst h; exact Qu.own_ne ho3 hb3 (by decide) hi.symm)
  · refine (hf.trans hf23 ?_).setCell (p := ⟨rb, 2, none⟩) (fun _ => .inl rfl) _
    intro i hi h
    rcases hC1 with h1 | h1
    · exact .inr (.inl (h1 ▸ h))
    · have := h1 i h; omega
  · rcases hD1 with h | ⟨i, h, hi⟩
    · rw [h]; exact hC1
    · refine .inr (fun j hj => ?_)
      rw [h] at hj; injection hj with hj
      have := hf.size
      omega
  · intro i hi h2
    rcases hD1 with h | ⟨j, h, hj⟩
    · exact hne i (h ▸ hi) h2
    · have := hl2.lt i h2
      rw [h] at hi; injection hi with hi; omega
/-- The line's rest, copied and stored: the loop's relation holds again. -/
theorem Qu.come_next {w wx w4 : World} {rb c : Nat} {b px py : Int} {B1 B2 D1 D2 : Option Nat} {F : List (Int × Int) × List (Int × Int) × Int × List Int} {l : Value} {xs ys : List (Int × Int)} {out : List Int} {A3 A4 : Option Addr} {cp3 cp4 : Nat} {V2 : Value}
    (hr : Qu.roomB xs.length c py b (Qu.sum xs) = true) (hpxs : ∀ p ∈ xs, 0 ≤ p.2) (hps : ∀ p ∈ ((px, py) :: ys), 0 ≤ p.2 ∧ p.2 ≤ b) (hyl : ys.length + 1 ≤ 2000) (hol : out.length + (ys.length + 1) ≤ 2000)
    (hF : F = ((Qu.enterF c b xs ((px, py) :: ys) (Qu.sum xs)).1, (Qu.enterF c b xs ((px, py) :: ys) (Qu.sum xs)).2.1, (Qu.enterF c b xs ((px, py) :: ys) (Qu.sum xs)).2.2.1, out ++ (Qu.enterF c b xs ((px, py) :: ys) (Qu.sum xs)).2.2.2))
    (hb3 : wx.heap[rb]? = some (.cells #[.int .i64 c, .int .i64 b, .slice A3 (xs ++ [(px, py)]).length cp3, V2] 90 (0, 0))) (hl3 : Qu.Line wx (.slice A3 (xs ++ [(px, py)]).length cp3) (xs ++ [(px, py)]) D1)
    (hown : wx.ownsRow w.heap.size 2 1 l (out.length + 1) (Qu.ints out ++ [Value.int .i64 px])) (hfr : Qu.Fr (fun i => i = rb ∨ B1 = some i ∨ B2 = some i) w wx) (hD1 : D1 = B1 ∨ ∀ i, D1 = some i → w.heap.size ≤ i)
    (hb4 : Below wx.heap.size wx w4) (hl4 : Qu.Line w4 (.slice A4 ys.length cp4) ys D2) (hD2 : ∀ i, D2 = some i → wx.heap.size ≤ i) :
    Qu.ComeRel w rb c b B1 B2 F ys.length l (w4.setCell ⟨rb, 3, none⟩ (.slice A4 ys.length cp4)) := by
  have hb5 := Qu.blk_set (Qu.blk_below hb3 hb4) 3 (.slice A4 ys.length cp4)
  simp only [List.setIfInBounds_toArray, List.set_cons_succ, List.set_cons_zero] at hb5
  have hl34 : Qu.Line w4 (.slice A3 (xs ++ [(px, py)]).length cp3) (xs ++ [(px, py)]) D1 := hl3.keep (fun i hi => hb4.block i (hl3.lt i hi))
  have hr2 : xs.length < c ∧ py ≤ b - Qu.sum xs := by simpa [Qu.roomB] using hr
  obtain ⟨hp1, hp2⟩ := hps (px, py) (by simp)
  have hE : Qu.enterF c b xs ((px, py) :: ys) (Qu.sum xs) = ((Qu.enterF c b (xs ++ [(px, py)]) ys (Qu.sum (xs ++ [(px, py)]))).1, (Qu.enterF c b (xs ++ [(px, py)]) ys (Qu.sum (xs ++ [(px, py)]))).2.1, (Qu.enterF c b (xs ++ [(px, py)]) ys (Qu.sum (xs ++ [(px, py)]))).2.2.1, px :: (Qu.enterF c b (xs ++ [(px, py)]) ys (Qu.sum (xs ++ [(px, py)]))).2.2.2) := by
    rw [Qu.enterF, if_pos hr, Qu.sum_append, Qu.sum_cons, Qu.sum_nil]
    simp
  refine ⟨⟨xs ++ [(px, py)], ys, out ++ [px], D1, D2, rfl, ⟨_, _, hb5, hl34.keep (fun i hi => Below.heap_setCell _ _ _ _ (hl34.ne90 (Qu.blk_below hb3 hb4) i hi)), hl4.keep (fun i hi => Below.heap_setCell _ _ _ _ (hl4.ne90 (Qu.blk_below hb3 hb4) i hi)), ?_⟩, ?_, ?_, ?_, ?_, by omega, ?_, ?_, ?_, hD1, .inr (fun i hi => Nat.le_trans hfr.size (hD2 i hi)), ?_⟩⟩
  · intro i hi h2
    have := hl3.lt i hi
    have := hD2 i h2
    omega
  · simp; omega
  · rw [Qu.sum_append, Qu.sum_cons, Qu.sum_nil]; simp; omega
  · intro p hp
    rw [List.mem_append, List.mem_singleton] at hp
    rcases hp with hp | rfl
    · exact hpxs p hp
    · exact hp1
  · exact fun p hp => hps p (List.mem_cons_of_mem _ hp)
  · simp; omega
  · have h5 := Qu.own_fr (S := fun i => i = rb) (Qu.own_below hown hb4) ((Qu.Fr.refl (fun i => i = rb) w4).setCell (p := ⟨rb, 3, none⟩) (fun _ => rfl) (.slice A4 ys.length cp4)) (fun i hi h => by subst h; exact Qu.own_ne hown hb3 (by decide) hi.symm)
    simpa [Qu.ints] using h5
  · exact (hfr.trans (Qu.Fr.of_below (S := fun _ => False) hb4) (fun _ _ h => h.elim)).setCell (p := ⟨rb, 3, none⟩) (fun _ => .inl rfl) _
  · rw [hF, hE]
    simp
set_option maxHeartbeats 1000000 in
set_option maxRecDepth 100000 in
theorem come_any (rb c : Nat) (b : Int) (xs0 ys0 : List (Int × Int)) (B1 B2 : Option Nat) (w : World) (hc : c ≤ 1024) (hb0 : 0 ≤ b ∧ b ≤ 17000000)
    (hat : Qu.RAt w rb c b xs0 ys0 B1 B2) (hx : xs0.length ≤ c) (hu : Qu.sum xs0 ≤ b) (hpx : ∀ p ∈ xs0, 0 ≤ p.2) (hp : ∀ p ∈ ys0, 0 ≤ p.2 ∧ p.2 ≤ b) (hy : ys0.length ≤ 2000) :
    Calls Try.prog 42 #[.pointer (some ⟨rb, 0, none⟩)] w fun e w' => ∃ v, e = .returned v ∧ Qu.Came w rb c b B1 B2 (Qu.enterF c b xs0 ys0 (Qu.sum xs0)) v w' := by
  have HAT := Lib.hid hat
  have HP := Lib.hid hp
  have HPX := Lib.hid hpx
  obtain ⟨hb1, hb2⟩ := hb0
  clear hat hp hpx
  go_enter Try.func42, Try.ntmps42
  go_wp2
  go_loopg [3] ys0.length (fun gk l wr => Qu.ComeRel w rb c b B1 B2 (Qu.enterF c b xs0 ys0 (Qu.sum xs0)) gk l wr)
  case atStart => exact ⟨xs0, ys0, [], B1, B2, rfl, HAT.out, hx, hu, HPX.out, HP.out, hy, by simpa using hy, World.ownsRow_nil _ _ _ _, Qu.Fr.refl _ _, .inl rfl, .inl rfl, by simp⟩
  case round =>
    obtain ⟨xs, ys, out, C1, C2, rfl, hat, hxc, hub, hpxs, hps, hyl, hol, hown, hfr, hC1, hC2, hF⟩ := hrel.out
    clear hrel
    have hu0 := Qu.sum_nonneg xs hpxs
    have hroom := fun y hy => rroom_any rb c b y xs ys C1 C2 wr hat hpxs hub ⟨hb1, hb2⟩ (by omega) hy
    obtain ⟨V1, V2, hblk, hl1, hl2, hne⟩ := hat
    have HL1 := Lib.hid hl1
    have HL2 := Lib.hid hl2
    have HNE := Lib.hid hne
    have HOWN := Lib.hid hown
    have HFR := Lib.hid hfr
    have HC1 := Lib.hid hC1
    have HC2 := Lib.hid hC2
    have HF := Lib.hid hF
    have HPS := Lib.hid hps
    have HPXS := Lib.hid hpxs
    have HBLK := Lib.hid hblk
    have HROOM := Lib.hid hroom
    obtain ⟨c0, c1, c2, c3⟩ := Qu.cells4 hblk
    have hrb := Qu.blk_lt hblk
    obtain ⟨A1, cp1, rfl⟩ := hl1.slice
    obtain ⟨A2, cp2, rfl⟩ := hl2.slice
    clear hl1 hl2 hne hown hfr hC1 hC2 hF hps hpxs hblk hroom
    cases ys with
    | nil =>
      go_wp2
      go_ret
      refine ⟨_, rfl, C1, C2, ?_, ?_, HFR.out, HC1.out, HC2.out⟩
      · rw [HF.out]
        exact ⟨_, _, HBLK.out, HL1.out, HL2.out, HNE.out⟩
      · rw [HF.out]
        simpa [Qu.enterF] using HOWN.out
    | cons p ys =>
      obtain ⟨px, py⟩ := p
      obtain ⟨lb, off, cap, hV, hlbl, q0, q1⟩ := HL2.out.get (j := 0) (by simp)
      simp only [Nat.zero_mul, Nat.add_zero, List.getD_cons_zero] at q0 q1
      injection hV with hV1 _ hV3
      subst hV1
      subst hV3
      obtain ⟨hpy0, hpy1⟩ := HPS.out (px, py) (by simp)
      simp only at hpy0 hpy1
      simp only [List.length_cons] at hyl hol c3
      have hcapl : ys.length + 1 ≤ cp2 := by
        rcases HL2.out with ⟨h, _, _⟩ | ⟨lb', off', cap', arr, hl, h, i2, i3, i4, i5, i6⟩
        · cases h
        · simp at h i2
          omega
      have hcapm : cp2 ≤ 9223372036854775807 := by
        rcases HL2.out with ⟨h, _, _⟩ | ⟨lb', off', cap', arr, hl, h, i2, i3, i4, i5, i6⟩
        · cases h
        · simp at h
          unfold maxLen at i3
          omega
      have hroom2 := HROOM.out py ⟨hpy0, by omega⟩
      have HROOM2 := Lib.hid hroom2
      clear hroom2
      by_cases hr : Qu.roomB xs.length c py b (Qu.sum xs) = true
      · have HRB := Lib.hid hr
        clear hr
        go_wp2_with fail
        refine HROOM2.out.mono ?_
        rw [HRB.out]
        rintro e w1 ⟨rfl, nd, rfl⟩
        go_wp2_with (at_builtin; refine Qu.append1 _ rfl (.tmp 21) (.tmp 29) 32 rfl w.heap.size 2 _ 1 8 Try.underlying32 Try.info2 rfl (by decide) (by decide) _ out.length (Qu.ints out) rfl (wr.drewN nd) #[.int .i64 px] rfl HOWN.out rfl rfl (by simp [Value.oneCell']) (by omega) HFR.out.size ?_)
        intro v' w2 hown2 hgrow
        have hb2' : w2.heap[rb]? = _ := Qu.blk_grown (w := wr.drewN nd) HBLK.out hgrow (Qu.own_ne HOWN.out HBLK.out (by decide))
        have hl1' : Qu.Line w2 (.slice A1 xs.length cp1) xs C1 := HL1.out.keep (fun i hi => hgrow.block i (HL1.out.lt i hi) (Qu.Line.own_ne HL1.out HOWN.out (by decide) i hi))
        have hl2' : Qu.Line w2 (.slice (some ⟨lb, off, none⟩) (ys.length + 1) cp2) ((px, py) :: ys) C2 := HL2.out.keep (fun i hi => hgrow.block i (HL2.out.lt i hi) (Qu.Line.own_ne HL2.out HOWN.out (by decide) i hi))
        have hfr2 : Qu.Fr (fun i => i = rb ∨ B1 = some i ∨ B2 = some i) w w2 := HFR.out.trans (S1 := fun i => w.heap.size ≤ i) (Qu.Fr.of_grown (w := wr) ⟨hgrow.os, hgrow.tape, hgrow.output, hgrow.size, hgrow.block⟩ (fun i hi _ => HOWN.out.lt i hi |>.1)) (fun i hi h => by omega)
        have hlt2 := HL1.out.lt
        have hq2 : w2.heap[lb]? = wr.heap[lb]? := by
          rcases HL2.out with ⟨h, _, _⟩ | ⟨lb', off', cap', arr, hl, h, i2, i3, i4, i5, i6⟩
          · cases h
          · simp at h
            obtain ⟨⟨rfl, rfl⟩, rfl⟩ := h
            exact hgrow.block lb hlbl (Qu.Line.own_ne HL2.out HOWN.out (by decide) lb hl)
        have r0 := (World.cell?_of_block (a := ⟨lb, off, none⟩) hq2).trans q0
        have r1 := (World.cell?_of_block (a := ⟨lb, off + 1, none⟩) hq2).trans q1
        obtain ⟨d0, d1, d2, d3⟩ := Qu.cells4 hb2'
        have hrb2 := Qu.blk_lt hb2'
        have hlb2 : lb < w2.heap.size := Nat.lt_of_lt_of_le hlbl hgrow.size
        have HB2 := Lib.hid hb2'
        have HL1' := Lib.hid hl1'
        have HL2' := Lib.hid hl2'
        have HFR2 := Lib.hid hfr2
        have HOWN2 := Lib.hid hown2
        clear c0 c1 c2 c3 q0 q1 hb2' hl1' hl2' hfr2 hown2 hgrow hq2 hlt2 d0 d1
        go_upto_region 4 with fail
        go_cut [] (fun wx => Qu.Held4 w wx rb c b out.length (Qu.ints out ++ [Value.int .i64 px]) v' (xs ++ [(px, py)]) ((px, py) :: ys) (.slice (some ⟨lb, off, none⟩) (ys.length + 1) cp2) B1 B2 C1 C2)
        case first =>
          go_region_law (refine Qu.step_append_line rfl (.tmp 35) (.tmp 42) 31 rfl Try.underlying31 Try.info38 _ xs C1 rfl w2.heap.size px py rfl (HL1'.out.keep (fun i hi => Below.heap_alloc _ _ _ (HL1'.out.lt i hi))) (heap_alloc_new _ _) (by omega) ?_; intro V w3 D1 hl3 hf3 hD1; obtain ⟨A3, cp3, rfl⟩ := hl3.slice; have hb3 := Qu.blk_fr (Qu.blk_alloc (w := { w2 with drawn := w2.drawn + 1 }) HB2.out _) hf3 (fun h => HL1'.out.ne90 HB2.out rb h rfl); have e2 := (Qu.cells4 hb3).2.2.1; have e3 := (Qu.cells4 hb3).2.2.2; have f2 := Qu.blk_frozen hb3 2; have f3 := Qu.blk_frozen hb3 3; have HB3 := Lib.hid hb3; have HL3 := Lib.hid hl3; have HF3 := Lib.hid hf3; have HD1 := Lib.hid hD1; clear hb3 hl3 hf3 hD1)
          all_goals
            go_wp2_with fail
            go_meet
            exact Qu.held4 HOWN2.out HB2.out HL1'.out HL2'.out HFR2.out HC1.out HC2.out HNE.out HB3.out HL3.out HF3.out HD1.out
        case rest =>
          obtain ⟨A3, cp3, D1, hb3, hl3, hl23, hown3, hfr3, hD1, hne3⟩ := hcut
          obtain ⟨htl1, htl2⟩ := hl23.tail
          obtain ⟨e0, e1, e2, e3⟩ := Qu.cells4 hb3
          have hrb3 := Qu.blk_lt hb3
          have HB3 := Lib.hid hb3
          have HL3 := Lib.hid hl3
          have HOWN3 := Lib.hid hown3
          have HFR3 := Lib.hid hfr3
          have HD1 := Lib.hid hD1
          clear hb3 hl3 hl23 hown3 hfr3 hD1 hne3 e0 e1 e2
          by_cases hc1 : cp2 = 1
          · have HT := Lib.hid (htl1 hc1)
            subst hc1
            clear htl1 htl2
            have hys : ys = [] := List.eq_nil_of_length_eq_zero (by omega)
            subst hys
            simp only [List.length_nil, Nat.zero_add] at e3
            go_wp2_with (at_builtin; refine Qu.wpList_append_all _ rfl _ (.tmp 51) 31 rfl Try.underlying31 Try.info38 rfl _ [] C2 rfl HT.out (by decide) ?_; intro v4 w4 hown4 hb4; obtain ⟨D2, hl4, hD2⟩ := Qu.Line.of_own0 hown4; obtain ⟨A4, cp4, rfl⟩ := hl4.slice; have e4 := (Qu.cells4 (Qu.blk_below HB3.out hb4)).2.2.2; have f4 := Qu.blk_frozen (Qu.blk_below HB3.out hb4) 3)
            go_roundg 0
            case measure => simp
            case rel => exact Qu.come_next HRB.out HPXS.out HPS.out hyl hol HF.out HB3.out HL3.out HOWN3.out HFR3.out HD1.out hb4 hl4 hD2
          · have HT := Lib.hid (htl2 (by omega))
            clear htl1 htl2
            go_wp2_with (at_builtin; refine Qu.wpList_append_all _ rfl _ (.tmp 51) 31 rfl Try.underlying31 Try.info38 rfl _ ys C2 rfl HT.out (by omega) ?_; intro v4 w4 hown4 hb4; obtain ⟨D2, hl4, hD2⟩ := Qu.Line.of_own0 hown4; obtain ⟨A4, cp4, rfl⟩ := hl4.slice; have e4 := (Qu.cells4 (Qu.blk_below HB3.out hb4)).2.2.2; have f4 := Qu.blk_frozen (Qu.blk_below HB3.out hb4) 3)
            go_roundg ys.length
            case measure => simp
            case rel => exact Qu.come_next HRB.out HPXS.out HPS.out hyl hol HF.out HB3.out HL3.out HOWN3.out HFR3.out HD1.out hb4 hl4 hD2
      · have hr' : Qu.roomB xs.length c py b (Qu.sum xs) = false := by simpa using hr
        have HRB := Lib.hid hr'
        clear hr hr'
        go_wp2_with (go_at_call 40; refine HROOM2.out.mono ?_; rw [HRB.out]; rintro e w1 ⟨rfl, nd, rfl⟩)
        go_ret
        have hE : Qu.enterF c b xs ((px, py) :: ys) (Qu.sum xs) = (xs, (px, py) :: ys, Qu.sum xs, []) := by rw [Qu.enterF, if_neg (by rw [HRB.out]; simp)]
        refine ⟨_, rfl, C1, C2, ?_, ?_, HFR.out.drewN nd, HC1.out, HC2.out⟩
        · rw [HF.out, hE]
          exact ⟨_, _, HBLK.out, HL1.out, HL2.out, HNE.out⟩
        · rw [HF.out, hE]
          simp only [List.append_nil]
          exact HOWN.out
end Go.Proofs.Ytgdeoodihhcdjaa
