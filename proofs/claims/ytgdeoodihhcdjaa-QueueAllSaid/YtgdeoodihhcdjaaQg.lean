/- The contract of enter. -/
import Derived.Test.YtgdeoodihhcdjaaQf
import Derived.Deep.LoopGhost
namespace Go.Proofs.Ytgdeoodihhcdjaa
open Go.RowKit
set_option linter.unusedVariables false
set_option linter.unusedSimpArgs false

/-- Who stands in line, in the block LB. -/
def Qu.Line (w : World) (V : Value) (ys : List (Int × Int)) (LB : Option Nat) : Prop :=
  (V = .slice none 0 0 ∧ ys = [] ∧ LB = none) ∨
  ∃ lb off cap arr, LB = some lb ∧ V = .slice (some ⟨lb, off, none⟩) ys.length cap ∧ ys.length ≤ cap ∧ cap ≤ maxLen ∧ w.heap[lb]? = some (.cells arr 38 (0, 0)) ∧ off + cap * 2 ≤ arr.size ∧
    ∀ j, j < ys.length → arr[off + j * 2]? = some (.int .i64 (ys.getD j (0, 0)).1) ∧ arr[off + j * 2 + 1]? = some (.int .i64 (ys.getD j (0, 0)).2)
theorem Qu.Line.keep {w w' : World} {V : Value} {ys : List (Int × Int)} {LB : Option Nat} (h : Qu.Line w V ys LB) (hb : ∀ b, LB = some b → w'.heap[b]? = w.heap[b]?) : Qu.Line w' V ys LB := by
  rcases h with h | ⟨lb, off, cap, arr, rfl, h1, h2, h3, h4, h5⟩
  · exact .inl h
  · exact .inr ⟨lb, off, cap, arr, rfl, h1, h2, h3, (hb lb rfl).trans h4, h5⟩
theorem Qu.Line.lt {w : World} {V : Value} {ys : List (Int × Int)} {LB : Option Nat} (h : Qu.Line w V ys LB) (b : Nat) (hb : LB = some b) : b < w.heap.size := by
  rcases h with ⟨_, _, rfl⟩ | ⟨lb, off, cap, arr, rfl, h1, h2, h3, h4, h5⟩
  · cases hb
  · injection hb with hb
    exact hb ▸ Qu.blk_lt h4
theorem Qu.Line.ne {w : World} {V : Value} {ys : List (Int × Int)} {LB : Option Nat} (h : Qu.Line w V ys LB) {sb : Nat} {cs : Array Value} (hb : w.heap[sb]? = some (.cells cs 81 (0, 0))) (b : Nat) (hR : LB = some b) : b ≠ sb := by
  rcases h with ⟨_, _, rfl⟩ | ⟨lb, off, cap, arr, rfl, h1, h2, h3, h4, h5⟩
  · cases hR
  · injection hR with hR
    subst hR
    exact Qu.blk_ne h4 hb (by decide)
theorem Qu.own_ne {w : World} {base : Nat} {e t : TypeId} {size n g : Nat} {v : Value} {xs : List Value} {cs : Array Value} {f : Nat × Nat} (h : w.ownsRow base e size v n xs) (hg : w.heap[g]? = some (.cells cs t f)) (hne : e ≠ t) : some g ≠ v.ownBlock := by
  intro hk
  rcases h.2 with ⟨rfl, _⟩ | ⟨g', cap, cur, rfl, _, hh, _⟩
  · simp [Value.ownBlock] at hk
  · have : g = g' := by simpa [Value.ownBlock] using hk
    subst this
    exact Qu.blk_ne hh hg hne rfl
theorem Qu.own_fr {S : Nat → Prop} {w w1 : World} {base : Nat} {e : TypeId} {size n : Nat} {v : Value} {xs : List Value} (h : w.ownsRow base e size v n xs) (hf : Qu.Fr S w w1) (hS : ∀ k, v.ownBlock = some k → ¬ S k) : w1.ownsRow base e size v n xs := by
  refine ⟨h.1, ?_⟩
  rcases h.2 with h2 | ⟨g, cap, cur, rfl, hb, hg, r⟩
  · exact .inl h2
  · exact .inr ⟨g, cap, cur, rfl, hb, (hf.block g (Qu.blk_lt hg) (hS g rfl)).trans hg, r⟩
theorem Qu.Ring.own_ne {w : World} {L : Value} {k : Nat} {xs : List (Int × Int)} {R : Option Nat} (h : Qu.Ring w L k xs R) {base : Nat} {e : TypeId} {size n : Nat} {v : Value} {vs : List Value} (ho : w.ownsRow base e size v n vs) (hne : e ≠ 38) (b : Nat) (hR : R = some b) : some b ≠ v.ownBlock := by
  rcases h with ⟨_, _, _, rfl⟩ | ⟨rb, m, arr, rfl, _, _, _, _, h5, _⟩
  · cases hR
  · injection hR with hR
    subst hR
    exact Qu.own_ne ho h5 hne
theorem Qu.Line.own_ne {w : World} {V : Value} {ys : List (Int × Int)} {LB : Option Nat} (h : Qu.Line w V ys LB) {base : Nat} {e : TypeId} {size n : Nat} {v : Value} {vs : List Value} (ho : w.ownsRow base e size v n vs) (hne : e ≠ 38) (b : Nat) (hR : LB = some b) : some b ≠ v.ownBlock := by
  rcases h with ⟨_, _, rfl⟩ | ⟨lb, off, cap, arr, rfl, h1, h2, h3, h4, h5⟩
  · cases hR
  · injection hR with hR
    subst hR
    exact Qu.own_ne ho h4 hne
/-- The queue's memory: its struct at sb, the ring in R, the line in LB, the map's value MV. -/
def Qu.At (w : World) (sb c : Nat) (b u : Int) (xs ys : List (Int × Int)) (MV : Value) (R LB : Option Nat) : Prop :=
  ∃ (L : Value) (k : Nat) (LV : Value), w.heap[sb]? = some (.cells #[.int .i64 c, .int .i64 b, .int .i64 u, L, .int .i64 k, .int .i64 xs.length, LV, MV] 81 (0, 0)) ∧ Qu.Ring w L k xs R ∧ Qu.Line w LV ys LB ∧ (∀ i, R = some i → LB ≠ some i)
theorem Qu.At.keep {w w' : World} {sb c : Nat} {b u : Int} {xs ys : List (Int × Int)} {MV : Value} {R LB : Option Nat} (h : Qu.At w sb c b u xs ys MV R LB) (hs : w'.heap[sb]? = w.heap[sb]?) (hR : ∀ b, R = some b → w'.heap[b]? = w.heap[b]?) (hL : ∀ b, LB = some b → w'.heap[b]? = w.heap[b]?) :
    Qu.At w' sb c b u xs ys MV R LB := by
  obtain ⟨L, k, LV, h1, h2, h3, h4⟩ := h
  exact ⟨L, k, LV, hs.trans h1, h2.keep hR, h3.keep hL, h4⟩
theorem Qu.At.below {w w' : World} {sb c : Nat} {b u : Int} {xs ys : List (Int × Int)} {MV : Value} {R LB : Option Nat} (h : Qu.At w sb c b u xs ys MV R LB) (hb : Below w.heap.size w w') : Qu.At w' sb c b u xs ys MV R LB := by
  obtain ⟨L, k, LV, h1, h2, h3, h4⟩ := h
  exact Qu.At.keep ⟨L, k, LV, h1, h2, h3, h4⟩ (hb.block _ (Qu.blk_lt h1)) (fun i hi => hb.block _ (h2.lt i hi)) (fun i hi => hb.block _ (h3.lt i hi))
theorem Qu.cells8 {w : World} {sb : Nat} {a0 a1 a2 a3 a4 a5 a6 a7 : Value} (h : w.heap[sb]? = some (.cells #[a0, a1, a2, a3, a4, a5, a6, a7] 81 (0, 0))) :
    w.cell? ⟨sb, 0, none⟩ = some a0 ∧ w.cell? ⟨sb, 1, none⟩ = some a1 ∧ w.cell? ⟨sb, 2, none⟩ = some a2 ∧ w.cell? ⟨sb, 3, none⟩ = some a3 ∧ w.cell? ⟨sb, 4, none⟩ = some a4 ∧ w.cell? ⟨sb, 5, none⟩ = some a5 ∧ w.cell? ⟨sb, 6, none⟩ = some a6 ∧ w.cell? ⟨sb, 7, none⟩ = some a7 :=
  ⟨Qu.blk_cell h 0, Qu.blk_cell h 1, Qu.blk_cell h 2, Qu.blk_cell h 3, Qu.blk_cell h 4, Qu.blk_cell h 5, Qu.blk_cell h 6, Qu.blk_cell h 7⟩

/-- What enter comes to: who is held, who stands in line, what is used, who came in. -/
def Qu.enterF (c : Nat) (b : Int) : List (Int × Int) → List (Int × Int) → Int → List (Int × Int) × List (Int × Int) × Int × List Int
  | xs, [], u => (xs, [], u, [])
  | xs, p :: ys, u => if Qu.roomB xs.length c p.2 b u = true then
      let r := Qu.enterF c b (xs ++ [p]) ys (u + p.2)
      (r.1, r.2.1, r.2.2.1, p.1 :: r.2.2.2)
    else (xs, p :: ys, u, [])

def Qu.ints (l : List Int) : List Value := l.map (Value.int .i64)
theorem Try.info2 : (Try.prog.info? 2).map (fun i => (i.zero, i.size, i.bytes)) = some (some (.int .i64 0), 1, 8) := by kernel_rfl

structure Qu.EnterRel (w : World) (sb c : Nat) (b : Int) (MV : Value) (R LB : Option Nat) (F : List (Int × Int) × List (Int × Int) × Int × List Int) (gk : Nat) (l : Value) (wr : World) : Prop where
  mk :: (out : ∃ (xs ys : List (Int × Int)) (u : Int) (out : List Int) (R' : Option Nat), gk = ys.length ∧ Qu.At wr sb c b u xs ys MV R' LB ∧ xs.length ≤ c ∧ 0 ≤ u ∧ u ≤ b ∧ (∀ p ∈ ys, 0 ≤ p.2 ∧ p.2 ≤ b) ∧ ys.length ≤ 2000 ∧ out.length + ys.length ≤ 2000 ∧
    wr.ownsRow w.heap.size 2 1 l out.length (Qu.ints out) ∧ Qu.Fr (fun i => i = sb ∨ R = some i) w wr ∧ (R' = R ∨ ∃ i, R' = some i ∧ w.heap.size ≤ i) ∧
    F = ((Qu.enterF c b xs ys u).1, (Qu.enterF c b xs ys u).2.1, (Qu.enterF c b xs ys u).2.2.1, out ++ (Qu.enterF c b xs ys u).2.2.2))

def Qu.Entered (w : World) (sb c : Nat) (b : Int) (MV : Value) (R LB : Option Nat) (F : List (Int × Int) × List (Int × Int) × Int × List Int) (v : Value) (w' : World) : Prop :=
  ∃ R', Qu.At w' sb c b F.2.2.1 F.1 F.2.1 MV R' LB ∧ w'.ownsRow w.heap.size 2 1 v F.2.2.2.length (Qu.ints F.2.2.2) ∧ Qu.Fr (fun i => i = sb ∨ R = some i) w w' ∧ (R' = R ∨ ∃ i, R' = some i ∧ w.heap.size ≤ i)

set_option maxRecDepth 100000 in
theorem enter_any (sb c : Nat) (b u0 : Int) (xs0 ys0 : List (Int × Int)) (MV : Value) (R LB : Option Nat) (w : World) (hc : c ≤ 1024) (hb0 : b ≤ 17000000)
    (hat : Qu.At w sb c b u0 xs0 ys0 MV R LB) (hx : xs0.length ≤ c) (hu : 0 ≤ u0 ∧ u0 ≤ b) (hp : ∀ p ∈ ys0, 0 ≤ p.2 ∧ p.2 ≤ b) (hy : ys0.length ≤ 2000) :
    Calls Try.prog 37 #[.pointer (some ⟨sb, 0, none⟩)] w fun e w' => ∃ v, e = .returned v ∧ Qu.Entered w sb c b MV R LB (Qu.enterF c b xs0 ys0 u0) v w' := by
  have HAT := Lib.hid hat
  have HP := Lib.hid hp
  clear hat hp
  go_enter Try.func37, Try.ntmps37
  go_wp2
  go_loopg [3] ys0.length (fun gk l wr => Qu.EnterRel w sb c b MV R LB (Qu.enterF c b xs0 ys0 u0) gk l wr)
  case atStart => exact ⟨xs0, ys0, u0, [], R, rfl, HAT.out, hx, hu.1, hu.2, HP.out, hy, by simpa using hy, World.ownsRow_nil _ _ _ _, Qu.Fr.refl _ _, .inl rfl, by simp⟩
  case round =>
    obtain ⟨xs, ys, u, out, R', rfl, hat, hxc, hu0, hub, hps, hyl, hol, hown, hfr, hR', hF⟩ := hrel.out
    clear hrel
    obtain ⟨L, k, LV, hblk, hring, hline, hne⟩ := hat
    have HRING := Lib.hid hring
    have HNE := Lib.hid hne
    have HOWN := Lib.hid hown
    have HFR := Lib.hid hfr
    have HR' := Lib.hid hR'
    have HF := Lib.hid hF
    have HPS := Lib.hid hps
    have HBLK := Lib.hid hblk
    have HLINE := Lib.hid hline
    obtain ⟨c0, c1, c2, c3, c4, c5, c6, c7⟩ := Qu.cells8 hblk
    have hsb := Qu.blk_lt hblk
    clear hring hne hown hfr hR' hF hps hblk hline
    cases ys with
    | nil =>
      have hlv : ∃ A cp, LV = .slice A 0 cp := by
        rcases HLINE.out with ⟨h, _, _⟩ | ⟨lb, off, cap, arr, _, h, _⟩
        · exact ⟨_, _, h⟩
        · exact ⟨_, _, by simpa using h⟩
      obtain ⟨A, cp, rfl⟩ := hlv
      go_wp2
      go_ret
      refine ⟨_, rfl, R', ?_, ?_, HFR.out, HR'.out⟩
      · rw [HF.out]
        exact ⟨L, k, _, HBLK.out, HRING.out, HLINE.out, HNE.out⟩
      · rw [HF.out]
        simpa [Qu.enterF] using HOWN.out
    | cons p ys =>
      obtain ⟨px, py⟩ := p
      obtain ⟨lb, off, cap, hLV, hcap0, hcapm, q0, q1, hlb⟩ : ∃ lb off cap, LV = .slice (some ⟨lb, off, none⟩) (ys.length + 1) cap ∧ ys.length + 1 ≤ cap ∧ cap ≤ maxLen ∧ wr.cell? ⟨lb, off, none⟩ = some (.int .i64 px) ∧ wr.cell? ⟨lb, off + 1, none⟩ = some (.int .i64 py) ∧ LB = some lb := by
        rcases HLINE.out with ⟨_, h, _⟩ | ⟨lb, off, cap, arr, hl, h, h2, h3, h4, h5, h6⟩
        · cases h
        · obtain ⟨e0, e1⟩ := h6 0 (by simp)
          refine ⟨lb, off, cap, by simpa using h, by simpa using h2, h3, ?_, ?_, hl⟩
          · rw [Qu.blk_cell h4]; simpa using e0
          · rw [Qu.blk_cell h4]; simpa using e1
      have hlbl := World.block_lt_of_cell? wr _ q0
      simp only at hlbl
      obtain ⟨hpy0, hpy1⟩ := HPS.out (px, py) (by simp)
      simp only at hpy0 hpy1
      have HLB := Lib.hid hlb
      clear hlb
      subst hLV
      unfold maxLen at hcapm
      simp only [List.length_cons] at hyl hol
      have hroom := fun (W : World) (h0 : W.cell? ⟨sb, 0, none⟩ = some (.int .i64 c)) (h1 : W.cell? ⟨sb, 1, none⟩ = some (.int .i64 b)) (h2 : W.cell? ⟨sb, 2, none⟩ = some (.int .i64 u)) (h5 : W.cell? ⟨sb, 5, none⟩ = some (.int .i64 xs.length)) => room_any sb xs.length c px py b u W ⟨hpy0, by omega⟩ ⟨by omega, by omega⟩ ⟨hu0, by omega⟩ h0 h1 h2 h5
      have HROOM := Lib.hid hroom
      clear hroom
      by_cases hr : Qu.roomB xs.length c py b u = true
      · have HRB := Lib.hid hr
        clear hr
        go_wp2_with fail
        refine (HROOM.out _ c0 c1 c2 c5).mono ?_
        rw [HRB.out]
        rintro e w1 ⟨rfl, hb1⟩
        have hat1 : w1.heap[sb]? = _ := Qu.blk_below HBLK.out hb1
        obtain ⟨d0, d1, d2, d3, d4, d5, d6, d7⟩ := Qu.cells8 hat1
        have r0 := (hb1.cell (p := ⟨lb, off, none⟩) hlbl).trans q0
        have r1 := (hb1.cell (p := ⟨lb, off + 1, none⟩) hlbl).trans q1
        have hsb1 : sb < w1.heap.size := Qu.blk_lt hat1
        have hlb1 : lb < w1.heap.size := Nat.lt_of_lt_of_le hlbl hb1.size
        have HB1 := Lib.hid hb1
        have HAT1 := Lib.hid hat1
        clear c0 c1 c2 c3 c4 c5 c6 c7 q0 q1 hb1 hat1
        go_wp2_with (at_builtin; refine Qu.append1 _ rfl (.tmp 20) (.tmp 28) 32 rfl w.heap.size 2 _ 1 8 Try.underlying32 Try.info2 rfl (by decide) (by decide) _ out.length (Qu.ints out) rfl w1 #[.int .i64 px] rfl (Qu.own_below HOWN.out HB1.out) rfl rfl (by simp [Value.oneCell']) (by omega) (Nat.le_trans HFR.out.size HB1.out.size) ?_)
        intro v' w2 hown2 hgrow
        have hb2 : w2.heap[sb]? = _ := Qu.blk_grown HAT1.out hgrow (Qu.own_ne (Qu.own_below HOWN.out HB1.out) HAT1.out (by decide))
        have hring2 : Qu.Ring w2 L k xs R' := (HRING.out.keep (fun i hi => HB1.out.block i (HRING.out.lt i hi))).keep (fun i hi => hgrow.block i (Nat.lt_of_lt_of_le (HRING.out.lt i hi) HB1.out.size) (Qu.Ring.own_ne (HRING.out.keep (fun i hi => HB1.out.block i (HRING.out.lt i hi))) (Qu.own_below HOWN.out HB1.out) (by decide) i hi))
        have hline2 : Qu.Line w2 (.slice (some ⟨lb, off, none⟩) (ys.length + 1) cap) ((px, py) :: ys) LB := (HLINE.out.keep (fun i hi => HB1.out.block i (HLINE.out.lt i hi))).keep (fun i hi => hgrow.block i (Nat.lt_of_lt_of_le (HLINE.out.lt i hi) HB1.out.size) (Qu.Line.own_ne (HLINE.out.keep (fun i hi => HB1.out.block i (HLINE.out.lt i hi))) (Qu.own_below HOWN.out HB1.out) (by decide) i hi))
        have hlbb2 : w2.heap[lb]? = w1.heap[lb]? := hgrow.block lb hlb1 (Qu.Line.own_ne (HLINE.out.keep (fun i hi => HB1.out.block i (HLINE.out.lt i hi))) (Qu.own_below HOWN.out HB1.out) (by decide) lb HLB.out)
        have s0 := (World.cell?_of_block (a := ⟨lb, off, none⟩) hlbb2).trans r0
        have s1 := (World.cell?_of_block (a := ⟨lb, off + 1, none⟩) hlbb2).trans r1
        obtain ⟨e0, e1, e2, e3, e4, e5, e6, e7⟩ := Qu.cells8 hb2
        have hfr2 : Qu.Fr (fun i => i = sb ∨ R = some i) w w2 := (HFR.out.trans (S1 := fun _ => False) (Qu.Fr.of_below HB1.out) (fun _ _ h => h.elim)).trans (S1 := fun i => w.heap.size ≤ i) (Qu.Fr.of_grown hgrow (fun i hi _ => (Qu.own_below HOWN.out HB1.out).lt i hi |>.1)) (fun i hi h => by omega)
        have HFR2 := Lib.hid hfr2
        have hsz2 := hgrow.size
        have HB2 := Lib.hid hb2
        have HRING2 := Lib.hid hring2
        have HLINE2 := Lib.hid hline2
        have HOWN2 := Lib.hid hown2
        have HGROW := Lib.hid hgrow
        clear d0 d1 d2 d3 d4 d5 d6 d7 r0 r1 hb2 hring2 hline2 hown2 hgrow hlbb2 hfr2
        go_wp2_with fail
        refine (hold_any sb L k xs R' px py u (.int .i64 c) (.int .i64 b) (.slice (some ⟨lb, off, none⟩) (ys.length + 1) cap) MV w2 (by omega) HB2.out HRING2.out ⟨hu0, by omega⟩ ⟨hpy0, by omega⟩).mono ?_
        rintro e w3 ⟨rfl, L3, k3, R3, hb3, hring3, hfr3, hR3⟩
        have hline3 : Qu.Line w3 (.slice (some ⟨lb, off, none⟩) (ys.length + 1) cap) ((px, py) :: ys) LB := HLINE2.out.keep (fun i hi => hfr3.block i (HLINE2.out.lt i hi) (by
          rintro (h | h)
          · exact HLINE2.out.ne HB2.out i hi h
          · exact HNE.out i h hi))
        have hown3 : w3.ownsRow w.heap.size 2 1 v' (out.length + 1) (Qu.ints out ++ [Value.int .i64 px]) := Qu.own_fr HOWN2.out hfr3 (by
          rintro i hi (h | h)
          · subst h; exact Qu.own_ne HOWN2.out HB2.out (by decide) hi.symm
          · exact HRING2.out.own_ne HOWN2.out (by decide) i h hi.symm)
        obtain ⟨e0, e1, e2, e3, e4, e5, e6, e7⟩ := Qu.cells8 hb3
        have f6 := Qu.blk_frozen hb3 6
        have HB3 := Lib.hid hb3
        have HRING3 := Lib.hid hring3
        have HFR3 := Lib.hid hfr3
        have HR3 := Lib.hid hR3
        have HLINE3 := Lib.hid hline3
        have HOWN3 := Lib.hid hown3
        have hcap1 : (1 : Int) ≤ cap := by omega
        clear hb3 hring3 hfr3 hR3 hline3 hown3 e0 e1 e2 e3 e4 e5 e7
        have fin : ∀ V, Qu.Line w3 V ys LB → Qu.EnterRel w sb c b MV R LB (Qu.enterF c b xs0 ys0 u0) ys.length v' (w3.setCell ⟨sb, 6, none⟩ V) := by
          intro V hV
          have hble : py ≤ b - u ∧ xs.length < c := by
            have := HRB.out
            simp [Qu.roomB] at this
            exact ⟨this.2, this.1⟩
          refine ⟨xs ++ [(px, py)], ys, u + py, out ++ [px], R3, rfl, ⟨L3, k3, V, ?_, ?_, ?_, ?_⟩, by simp; omega, by omega, by omega, fun p hp => HPS.out p (by simp [hp]), by omega, by simp; omega, ?_, ?_, ?_, ?_⟩
          · have := Qu.blk_set HB3.out 6 V
            simpa only [List.setIfInBounds_toArray, List.set_cons_succ, List.set_cons_zero] using this
          · exact HRING3.out.keep (fun i hi => Below.heap_setCell _ _ _ _ (HRING3.out.ne HB3.out i hi))
          · exact hV.keep (fun i hi => Below.heap_setCell _ _ _ _ (hV.ne HB3.out i hi))
          · intro i hi hl
            rcases HR3.out with h | ⟨j, h, hj⟩
            · exact HNE.out i (h ▸ hi) hl
            · have h1 := HLINE2.out.lt i hl
              rw [h] at hi
              injection hi with hi
              omega
          · have := HOWN3.out
            have e : Qu.ints (out ++ [px]) = Qu.ints out ++ [Value.int .i64 px] := by simp [Qu.ints]
            rw [e]
            simpa using Qu.own_fr (S := fun i => i = sb) this ((Qu.Fr.refl (fun i => i = sb) w3).setCell (p := ⟨sb, 6, none⟩) (fun _ => rfl) V) (fun i hi h => by subst h; exact Qu.own_ne this HB3.out (by decide) hi.symm)
          · refine (HFR2.out.trans HFR3.out ?_).setCell (p := ⟨sb, 6, none⟩) (fun _ => .inl rfl) V
            rintro i hi (h | h)
            · exact .inl h
            · rcases HR'.out with h2 | ⟨j, h2, hj⟩
              · exact .inr (h2 ▸ h)
              · rw [h2] at h
                injection h with h
                omega
          · rcases HR3.out with h | ⟨j, h, hj⟩
            · rw [h]; exact HR'.out
            · exact .inr ⟨j, h, by have := HFR2.out.size; omega⟩
          · rw [HF.out]
            have : Qu.enterF c b xs ((px, py) :: ys) u = ((Qu.enterF c b (xs ++ [(px, py)]) ys (u + py)).1, (Qu.enterF c b (xs ++ [(px, py)]) ys (u + py)).2.1, (Qu.enterF c b (xs ++ [(px, py)]) ys (u + py)).2.2.1, px :: (Qu.enterF c b (xs ++ [(px, py)]) ys (u + py)).2.2.2) := by rw [Qu.enterF, if_pos HRB.out]
            rw [this]
            simp
        have hln : ∀ A cp', ys.length ≤ cp' → cp' + 1 = cap → (A = (⟨lb, off + 2, none⟩ : Addr) ∨ (cp' = 0 ∧ A = ⟨lb, off, none⟩)) → Qu.Line w3 (.slice (some A) ys.length cp') ys LB := by
          intro A cp' h1 h2 hA
          rcases HLINE3.out with ⟨_, h, _⟩ | ⟨lb', off', cap', arr, hl, h, i2, i3, i4, i5, i6⟩
          · cases h
          · simp at h
            obtain ⟨⟨rfl, rfl⟩, rfl⟩ := h
            rcases hA with rfl | ⟨rfl, rfl⟩
            · refine .inr ⟨lb, off + 2, cp', arr, hl, rfl, h1, by unfold maxLen; omega, i4, by omega, fun j hj => ?_⟩
              obtain ⟨g0, g1⟩ := i6 (j + 1) (by simpa using hj)
              rw [show off + 2 + j * 2 = off + (j + 1) * 2 from by omega]
              exact ⟨by simpa using g0, by simpa using g1⟩
            · refine .inr ⟨lb, off, 0, arr, hl, rfl, h1, by unfold maxLen; omega, i4, by omega, fun j hj => by omega⟩
        have FIN := Lib.hid fin
        have HLN := Lib.hid hln
        clear fin hln
        by_cases hcap : cap = 1
        · subst hcap
          go_wp2
          go_roundg ys.length
          case measure => simp
          case rel =>
            refine FIN.out _ ?_
            have := HLN.out ⟨lb, off, none⟩ 0 (by omega) rfl (.inr ⟨rfl, rfl⟩)
            rwa [show ys.length = 0 from by omega] at this
        · go_wp2
          go_roundg ys.length
          case measure => simp
          case rel =>
            refine FIN.out _ ?_

            exact HLN.out ⟨lb, off + 2, none⟩ (cap - 1) (by omega) (by omega) (.inl rfl)
      · have hr' : Qu.roomB xs.length c py b u = false := by simpa using hr
        have HRB := Lib.hid hr'
        clear hr hr'
        go_wp2_with (go_at_call 33; refine (HROOM.out _ c0 c1 c2 c5).mono ?_; rw [HRB.out]; rintro e w1 ⟨rfl, hb1⟩)
        go_ret
        refine ⟨_, rfl, R', ?_, ?_, ?_, HR'.out⟩
        · rw [HF.out]
          have : Qu.enterF c b xs ((px, py) :: ys) u = (xs, (px, py) :: ys, u, []) := by rw [Qu.enterF, if_neg (by rw [HRB.out]; simp)]
          rw [this]
          exact Qu.At.below ⟨L, k, _, HBLK.out, HRING.out, HLINE.out, HNE.out⟩ hb1
        · rw [HF.out]
          have : Qu.enterF c b xs ((px, py) :: ys) u = (xs, (px, py) :: ys, u, []) := by rw [Qu.enterF, if_neg (by rw [HRB.out]; simp)]
          rw [this]
          simpa using Qu.own_below HOWN.out hb1
        · exact HFR.out.trans (S1 := fun _ => False) (Qu.Fr.of_below hb1) (fun _ _ h => h.elim)
end Go.Proofs.Ytgdeoodihhcdjaa
