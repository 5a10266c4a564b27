/- A number added to the 36 words. -/
import Derived.Test.YtljmnafmnmmehaaGreatDoorBh
import Derived.Deep.RegionWith
import Derived.WalkKit
import Derived.BigQuiet
import Derived.Deep.QuietTactic
import Derived.BigRegion
import Derived.Below
import Derived.Lib.Hide
import Derived.Outline
import Derived.OwnWalk
import Derived.WalkLawsBesides
import Derived.Handy
namespace Go.Proofs.YtljmnafmnmmehaaGreatDoor
open Go.RowKit
set_option linter.unusedVariables false
set_option linter.unusedSimpArgs false

/-- One step: the sum (the difference), the carry (the borrow). -/
def Rl.stepF (neg : Bool) (x y c : Nat) : Nat × Nat :=
  if neg then ((x + 18446744073709551616 - y - c) % 18446744073709551616, if x < y + c then 1 else 0) else ((x + y + c) % 18446744073709551616, (x + y + c) / 18446744073709551616)
def Rl.sub64Entry : Array Value → Sem Value := fun args => do
  let (x, y, b) ← Extern.MathBitsCarry.three "Sub64" args
  pure (Extern.MathBitsCarry.pair ((x + Extern.MathBitsCarry.m64 - y - b) % Extern.MathBitsCarry.m64) (if x < y + b then 1 else 0))
theorem Rl.run65 (x y c : Nat) (hx : x < 18446744073709551616) (hy : y < 18446744073709551616) (hc : c ≤ 1) (w : World) :
    Sem.run Tryz.prog (callFunc 65 #[.int .u64 (x : Int), .int .u64 (y : Int), .int .u64 (c : Int)]) w = .ok (.value (.tuple #[.int .u64 ((Rl.stepF false x y c).1 : Nat), .int .u64 ((Rl.stepF false x y c).2 : Nat)])) w := by
  have h := run_callFunc_extern (P := Tryz.prog) Tryz.func65 (by kernel_rfl) (by kernel_rfl) (by kernel_rfl) (e := add64Entry) (by kernel_rfl) #[.int .u64 (x : Int), .int .u64 (y : Int), .int .u64 (c : Int)] w
  rw [h]
  have : c = 0 ∨ c = 1 := by omega
  rcases this with rfl | rfl <;> rfl
theorem Rl.run66 (x y c : Nat) (hx : x < 18446744073709551616) (hy : y < 18446744073709551616) (hc : c ≤ 1) (w : World) :
    Sem.run Tryz.prog (callFunc 66 #[.int .u64 (x : Int), .int .u64 (y : Int), .int .u64 (c : Int)]) w = .ok (.value (.tuple #[.int .u64 ((Rl.stepF true x y c).1 : Nat), .int .u64 ((Rl.stepF true x y c).2 : Nat)])) w := by
  have h := run_callFunc_extern (P := Tryz.prog) Tryz.func66 (by kernel_rfl) (by kernel_rfl) (by kernel_rfl) (e := Rl.sub64Entry) (by kernel_rfl) #[.int .u64 (x : Int), .int .u64 (y : Int), .int .u64 (c : Int)] w
  rw [h]
  have : c = 0 ∨ c = 1 := by omega
  rcases this with rfl | rfl <;> rfl
theorem Rl.step_lt (neg : Bool) (x y c : Nat) (hx : x < 18446744073709551616) (hy : y < 18446744073709551616) (hc : c ≤ 1) : (Rl.stepF neg x y c).1 < 18446744073709551616 ∧ (Rl.stepF neg x y c).2 ≤ 1 := by
  unfold Rl.stepF
  cases neg
  · simp only [Bool.false_eq_true, if_false]
    exact ⟨Nat.mod_lt _ (by decide), by omega⟩
  · simp only [if_true]
    exact ⟨Nat.mod_lt _ (by decide), by split <;> omega⟩
/-- The carry goes on. -/
def Rl.carF (neg : Bool) : Nat → Nat → Nat → List Nat → List Nat
  | 0, _, _, ws => ws
  | f + 1, i, c, ws => if 0 < c then Rl.carF neg f (i + 1) (Rl.stepF neg (ws.getD i 0) 0 c).2 (ws.set i (Rl.stepF neg (ws.getD i 0) 0 c).1) else ws
theorem Rl.carF_zero (neg : Bool) (f i : Nat) (ws : List Nat) : Rl.carF neg f i 0 ws = ws := by
  cases f with
  | zero => rfl
  | succ f => simp [Rl.carF]
theorem Rl.wenc_set (ws : List Nat) (i v : Nat) : Rl.wenc (ws.set i v) = (Rl.wenc ws).setIfInBounds i (.int .u64 (v : Nat)) := by
  simp [Rl.wenc, Rl.wval, List.map_set]
theorem Rl.Wd.set {w : World} {b : Nat} {ws : List Nat} (h : Rl.Wd w b ws) (i v : Nat) (hv : v < 18446744073709551616) : Rl.Wd (w.setCell ⟨b, i, none⟩ (.int .u64 (v : Nat))) b (ws.set i v) :=
  ⟨by rw [Rl.wenc_set]; exact Rl.blk_set h.at' i _, by rw [List.length_set]; exact h.len, fun x hx => by
    rcases List.mem_or_eq_of_mem_set hx with h1 | rfl
    · exact h.lt x h1
    · exact hv⟩
theorem Rl.Wd.drew {w : World} {b : Nat} {ws : List Nat} (h : Rl.Wd w b ws) : Rl.Wd w.drew b ws := ⟨h.at', h.len, h.lt⟩
def Rl.AddRel (neg : Bool) (w : World) (wb : Nat) (fin : List Nat) (gk : Nat) (iv cv : Value) (wr : World) : Prop :=
  ∃ (i c : Nat) (ws : List Nat), i ≤ 36 ∧ gk = 36 - i ∧ iv = .int .i64 (i : Int) ∧ cv = .int .u64 (c : Int) ∧ c ≤ 1 ∧ Rl.Wd wr wb ws ∧ w.grownBy wr (some wb) ∧ Rl.carF neg (36 - i) i c ws = fin
/-- The words behind the number: at word q, lo and hi added (taken off). -/
def Rl.putF (neg : Bool) (ws : List Nat) (q lo hi : Nat) : List Nat :=
  Rl.carF neg (36 - (q + 2)) (q + 2) (Rl.stepF neg (ws.getD (q + 1) 0) hi (Rl.stepF neg (ws.getD q 0) lo 0).2).2 ((ws.set q (Rl.stepF neg (ws.getD q 0) lo 0).1).set (q + 1) (Rl.stepF neg (ws.getD (q + 1) 0) hi (Rl.stepF neg (ws.getD q 0) lo 0).2).1)
set_option maxHeartbeats 8000000 in
set_option maxRecDepth 100000 in
theorem add_s0 (w : World) (wb : Nat) (ws : List Nat) (h : Rl.Wd w wb ws) (b dg : Nat) (hb : b < 18446744073709551616) (hs : decide ((9223372036854775808 : Int) ≤ (b : Int)) = false) (hlo : dg < 18446744073709551616) (k2 : bits .and .u64 (b : Int) 4503599627370495 = (dg : Int)) (k1 : bits .and .i64 ((b : Int) / 4503599627370496) 2047 = 0) (k5 : IntKind.u64.wrap (dg : Int) = (dg : Int)) (k6 : (dg : Int) / 18446744073709551616 = 0) :
    Calls Tryz.prog 50 #[.pointer (some ⟨wb, 0, none⟩), .float .f64 b] w fun e w' => e = .returned (.tuple #[]) ∧ Rl.Wd w' wb (Rl.putF false ws 0 dg 0) ∧ w.grownBy w' (some wb) := by
  have kb := Rl.run55
  have hb4 : (b : Int) / 4503599627370496 < 4096 := by omega
  have hlt := Rl.blk_lt h.at'
  have hlen := h.len
  have x0lt := h.get 0
  have x1lt := h.get (1)
  have y0 := h.cell 0 (by omega)
  have y1 := h.cell (1) (by omega)
  have f0 := Rl.blk_frozen h.at' 0
  have f1 := Rl.blk_frozen h.at' (1)
  have hfin : Rl.putF false ws 0 dg 0 = Rl.putF false ws 0 dg 0 := rfl
  generalize hFin : Rl.putF false ws 0 dg 0 = fin at hfin ⊢
  unfold Rl.putF at hFin
  generalize ws.getD 0 0 = x0 at *
  generalize ws.getD (1) 0 = x1 at *
  have b0 := Rl.step_lt false x0 dg 0 x0lt hlo (by decide)
  have a0 : ∀ W : World, Sem.run Tryz.prog (callFunc 65 #[.int .u64 (x0 : Int), .int .u64 (dg : Int), .int .u64 0]) W = .ok (.value (.tuple #[.int .u64 ((Rl.stepF false x0 dg 0).1 : Nat), .int .u64 ((Rl.stepF false x0 dg 0).2 : Nat)])) W := Rl.run65 x0 dg 0 x0lt hlo (by decide)
  generalize Rl.stepF false x0 dg 0 = S0 at *
  obtain ⟨s0, c0⟩ := S0
  have b1 := Rl.step_lt false x1 0 c0 x1lt (by decide) b0.2
  have a1 : ∀ W : World, Sem.run Tryz.prog (callFunc 65 #[.int .u64 (x1 : Int), .int .u64 0, .int .u64 (c0 : Int)]) W = .ok (.value (.tuple #[.int .u64 ((Rl.stepF false x1 0 c0).1 : Nat), .int .u64 ((Rl.stepF false x1 0 c0).2 : Nat)])) W := Rl.run65 x1 0 c0 x1lt (by decide) b0.2
  generalize Rl.stepF false x1 0 c0 = S1 at *
  obtain ⟨s1, c1⟩ := S1
  dsimp only at hFin b0 b1 a0 a1
  have W2 := Lib.hid ((h.set 0 s0 b0.1).set (1) s1 b1.1)
  have H := Lib.hid h
  have HFIN := Lib.hid hFin
  have B1 := Lib.hid b1
  clear h hb hfin hFin x0lt x1lt hlo b0 b1 hlen
  go_enter Tryz.func50, Tryz.ntmps50
  go_wp2
  go_region
  go_wp2
  go_region
  go_wp2
  go_region
  go_wp2
  go_loopg [7, 11] (36 - (0 + 2)) (fun gk iv cv wx => Rl.AddRel false w wb fin gk iv cv wx)
  case atStart => exact ⟨0 + 2, c1, _, by omega, rfl, by go_num, rfl, B1.out.2, W2.out.drew.drew.drew, Rl.gr_drew (Rl.gr_drew (Rl.gr_drew (Rl.gr_set (Rl.gr_set (Rl.gr_refl _ _) _ _) _ _))), HFIN.out⟩
  case round =>
    obtain ⟨i, c, ws2, hi36, rfl, rfl, rfl, hc, hwd, hgr, hF⟩ := hrel
    clear HFIN B1 W2 H a0 a1 k5 k6
    by_cases hlt36 : i < 36
    · have hc01 : c = 0 ∨ c = 1 := by omega
      rcases hc01 with rfl | rfl
      · rw [Rl.carF_zero] at hF
        subst hF
        have HWD := Lib.hid hwd
        have HG := Lib.hid hgr
        clear hwd hgr
        go_wp2
        go_end0
        exact ⟨rfl, HWD.out, HG.out⟩
      · have hlti := Rl.blk_lt hwd.at'
        have xlt := hwd.get i
        have z0 := hwd.cell i hlt36
        have g0 := Rl.blk_frozen hwd.at' i
        rw [show 36 - i = (36 - (i + 1)) + 1 from by omega] at hF
        replace hF : Rl.carF false (36 - (i + 1)) (i + 1) (Rl.stepF false (ws2.getD i 0) 0 1).2 (ws2.set i (Rl.stepF false (ws2.getD i 0) 0 1).1) = fin := hF
        generalize ws2.getD i 0 = x at *
        have b2 := Rl.step_lt false x 0 1 xlt (by decide) (by decide)
        have a2 : ∀ W : World, Sem.run Tryz.prog (callFunc 65 #[.int .u64 (x : Int), .int .u64 0, .int .u64 1]) W = .ok (.value (.tuple #[.int .u64 ((Rl.stepF false x 0 1).1 : Nat), .int .u64 ((Rl.stepF false x 0 1).2 : Nat)])) W := Rl.run65 x 0 1 xlt (by decide) (by decide)
        generalize Rl.stepF false x 0 1 = S at *
        obtain ⟨s, c2⟩ := S
        dsimp only at hF b2 a2
        have W3 := Lib.hid (hwd.set i s b2.1)
        have HG := Lib.hid hgr
        have HF := Lib.hid hF
        have B2 := Lib.hid b2
        clear hwd hgr hF b2 xlt
        go_wp2
        go_region
        go_wp2
        go_roundg (36 - (i + 1))
        case measure => omega
        case rel => exact ⟨i + 1, c2, _, by omega, rfl, by go_num, rfl, B2.out.2, W3.out.drew, Rl.gr_drew (Rl.gr_set HG.out _ _), HF.out⟩
    · obtain rfl : i = 36 := by omega
      replace hF : ws2 = fin := hF
      subst hF
      have HWD := Lib.hid hwd
      have HG := Lib.hid hgr
      clear hwd hgr
      go_wp2
      go_end0
      exact ⟨rfl, HWD.out, HG.out⟩
set_option maxHeartbeats 8000000 in
set_option maxRecDepth 100000 in
theorem add_s1 (w : World) (wb : Nat) (ws : List Nat) (h : Rl.Wd w wb ws) (b dg : Nat) (hb : b < 18446744073709551616) (hs : decide ((9223372036854775808 : Int) ≤ (b : Int)) = true) (hlo : dg < 18446744073709551616) (k2 : bits .and .u64 (b : Int) 4503599627370495 = (dg : Int)) (k1 : bits .and .i64 ((b : Int) / 4503599627370496) 2047 = 0) (k5 : IntKind.u64.wrap (dg : Int) = (dg : Int)) (k6 : (dg : Int) / 18446744073709551616 = 0) :
    Calls Tryz.prog 50 #[.pointer (some ⟨wb, 0, none⟩), .float .f64 b] w fun e w' => e = .returned (.tuple #[]) ∧ Rl.Wd w' wb (Rl.putF true ws 0 dg 0) ∧ w.grownBy w' (some wb) := by
  have kb := Rl.run55
  have hb4 : (b : Int) / 4503599627370496 < 4096 := by omega
  have hlt := Rl.blk_lt h.at'
  have hlen := h.len
  have x0lt := h.get 0
  have x1lt := h.get (1)
  have y0 := h.cell 0 (by omega)
  have y1 := h.cell (1) (by omega)
  have f0 := Rl.blk_frozen h.at' 0
  have f1 := Rl.blk_frozen h.at' (1)
  have hfin : Rl.putF true ws 0 dg 0 = Rl.putF true ws 0 dg 0 := rfl
  generalize hFin : Rl.putF true ws 0 dg 0 = fin at hfin ⊢
  unfold Rl.putF at hFin
  generalize ws.getD 0 0 = x0 at *
  generalize ws.getD (1) 0 = x1 at *
  have b0 := Rl.step_lt true x0 dg 0 x0lt hlo (by decide)
  have a0 : ∀ W : World, Sem.run Tryz.prog (callFunc 66 #[.int .u64 (x0 : Int), .int .u64 (dg : Int), .int .u64 0]) W = .ok (.value (.tuple #[.int .u64 ((Rl.stepF true x0 dg 0).1 : Nat), .int .u64 ((Rl.stepF true x0 dg 0).2 : Nat)])) W := Rl.run66 x0 dg 0 x0lt hlo (by decide)
  generalize Rl.stepF true x0 dg 0 = S0 at *
  obtain ⟨s0, c0⟩ := S0
  have b1 := Rl.step_lt true x1 0 c0 x1lt (by decide) b0.2
  have a1 : ∀ W : World, Sem.run Tryz.prog (callFunc 66 #[.int .u64 (x1 : Int), .int .u64 0, .int .u64 (c0 : Int)]) W = .ok (.value (.tuple #[.int .u64 ((Rl.stepF true x1 0 c0).1 : Nat), .int .u64 ((Rl.stepF true x1 0 c0).2 : Nat)])) W := Rl.run66 x1 0 c0 x1lt (by decide) b0.2
  generalize Rl.stepF true x1 0 c0 = S1 at *
  obtain ⟨s1, c1⟩ := S1
  dsimp only at hFin b0 b1 a0 a1
  have W2 := Lib.hid ((h.set 0 s0 b0.1).set (1) s1 b1.1)
  have H := Lib.hid h
  have HFIN := Lib.hid hFin
  have B1 := Lib.hid b1
  clear h hb hfin hFin x0lt x1lt hlo b0 b1 hlen
  go_enter Tryz.func50, Tryz.ntmps50
  go_wp2
  go_region
  go_wp2
  go_region
  go_wp2
  go_region
  go_wp2
  go_loopg [7, 11] (36 - (0 + 2)) (fun gk iv cv wx => Rl.AddRel true w wb fin gk iv cv wx)
  case atStart => exact ⟨0 + 2, c1, _, by omega, rfl, by go_num, rfl, B1.out.2, W2.out.drew.drew.drew, Rl.gr_drew (Rl.gr_drew (Rl.gr_drew (Rl.gr_set (Rl.gr_set (Rl.gr_refl _ _) _ _) _ _))), HFIN.out⟩
  case round =>
    obtain ⟨i, c, ws2, hi36, rfl, rfl, rfl, hc, hwd, hgr, hF⟩ := hrel
    clear HFIN B1 W2 H a0 a1 k5 k6
    by_cases hlt36 : i < 36
    · have hc01 : c = 0 ∨ c = 1 := by omega
      rcases hc01 with rfl | rfl
      · rw [Rl.carF_zero] at hF
        subst hF
        have HWD := Lib.hid hwd
        have HG := Lib.hid hgr
        clear hwd hgr
        go_wp2
        go_end0
        exact ⟨rfl, HWD.out, HG.out⟩
      · have hlti := Rl.blk_lt hwd.at'
        have xlt := hwd.get i
        have z0 := hwd.cell i hlt36
        have g0 := Rl.blk_frozen hwd.at' i
        rw [show 36 - i = (36 - (i + 1)) + 1 from by omega] at hF
        replace hF : Rl.carF true (36 - (i + 1)) (i + 1) (Rl.stepF true (ws2.getD i 0) 0 1).2 (ws2.set i (Rl.stepF true (ws2.getD i 0) 0 1).1) = fin := hF
        generalize ws2.getD i 0 = x at *
        have b2 := Rl.step_lt true x 0 1 xlt (by decide) (by decide)
        have a2 : ∀ W : World, Sem.run Tryz.prog (callFunc 66 #[.int .u64 (x : Int), .int .u64 0, .int .u64 1]) W = .ok (.value (.tuple #[.int .u64 ((Rl.stepF true x 0 1).1 : Nat), .int .u64 ((Rl.stepF true x 0 1).2 : Nat)])) W := Rl.run66 x 0 1 xlt (by decide) (by decide)
        generalize Rl.stepF true x 0 1 = S at *
        obtain ⟨s, c2⟩ := S
        dsimp only at hF b2 a2
        have W3 := Lib.hid (hwd.set i s b2.1)
        have HG := Lib.hid hgr
        have HF := Lib.hid hF
        have B2 := Lib.hid b2
        clear hwd hgr hF b2 xlt
        go_wp2
        go_region
        go_wp2
        go_roundg (36 - (i + 1))
        case measure => omega
        case rel => exact ⟨i + 1, c2, _, by omega, rfl, by go_num, rfl, B2.out.2, W3.out.drew, Rl.gr_drew (Rl.gr_set HG.out _ _), HF.out⟩
    · obtain rfl : i = 36 := by omega
      replace hF : ws2 = fin := hF
      subst hF
      have HWD := Lib.hid hwd
      have HG := Lib.hid hgr
      clear hwd hgr
      go_wp2
      go_end0
      exact ⟨rfl, HWD.out, HG.out⟩
end Go.Proofs.YtljmnafmnmmehaaGreatDoor
