/- A normal number added to the 36 words. -/
import Derived.Test.YtljmnafmnmmehaaGreatDoorBi
namespace Go.Proofs.YtljmnafmnmmehaaGreatDoor
open Go.RowKit
set_option linter.unusedVariables false
set_option linter.unusedSimpArgs false

set_option maxHeartbeats 8000000 in
set_option maxRecDepth 100000 in
theorem add_n0 (w : World) (wb : Nat) (ws : List Nat) (h : Rl.Wd w wb ws) (b pw dg D P q lo hi : Nat) (hb : b < 18446744073709551616) (hs : decide ((9223372036854775808 : Int) ≤ (b : Int)) = false) (hlo : lo < 18446744073709551616) (hhi : hi < 18446744073709551616) (k2 : bits .and .u64 (b : Int) 4503599627370495 = (dg : Int))
    (k1 : bits .and .i64 ((b : Int) / 4503599627370496) 2047 = (pw : Int)) (hpw : 0 < pw) (hpw2 : pw < 2047) (k3 : bits .or .u64 (dg : Int) 4503599627370496 = (D : Int)) (hD : D < 9007199254740992) (k4 : (pw : Int) - 1 = (P : Int)) (hq : (P : Int) / 64 = (q : Int)) (hq2 : q < 32) (hP : P < 2046) (k5 : IntKind.u64.wrap ((D : Int) * 2 ^ (P % 64)) = (lo : Int)) (k6 : (D : Int) / 2 ^ (64 - P % 64) = (hi : Int)) :
    Calls Tryz.prog 50 #[.pointer (some ⟨wb, 0, none⟩), .float .f64 b] w fun e w' => e = .returned (.tuple #[]) ∧ Rl.Wd w' wb (Rl.putF false ws q lo hi) ∧ w.grownBy w' (some wb) := by
  have kb := Rl.run55
  have hb4 : (b : Int) / 4503599627370496 < 4096 := by omega
  have hlt := Rl.blk_lt h.at'
  have hlen := h.len
  have x0lt := h.get q
  have x1lt := h.get (q + 1)
  have y0 := h.cell q (by omega)
  have y1 := h.cell (q + 1) (by omega)
  have f0 := Rl.blk_frozen h.at' q
  have f1 := Rl.blk_frozen h.at' (q + 1)
  have hfin : Rl.putF false ws q lo hi = Rl.putF false ws q lo hi := rfl
  generalize hFin : Rl.putF false ws q lo hi = fin at hfin ⊢
  unfold Rl.putF at hFin
  generalize ws.getD q 0 = x0 at *
  generalize ws.getD (q + 1) 0 = x1 at *
  have b0 := Rl.step_lt false x0 lo 0 x0lt hlo (by decide)
  have a0 : ∀ W : World, Sem.run Tryz.prog (callFunc 65 #[.int .u64 (x0 : Int), .int .u64 (lo : Int), .int .u64 0]) W = .ok (.value (.tuple #[.int .u64 ((Rl.stepF false x0 lo 0).1 : Nat), .int .u64 ((Rl.stepF false x0 lo 0).2 : Nat)])) W := Rl.run65 x0 lo 0 x0lt hlo (by decide)
  generalize Rl.stepF false x0 lo 0 = S0 at *
  obtain ⟨s0, c0⟩ := S0
  have b1 := Rl.step_lt false x1 hi c0 x1lt hhi b0.2
  have a1 := Rl.run65 x1 hi c0 x1lt hhi b0.2
  generalize Rl.stepF false x1 hi c0 = S1 at *
  obtain ⟨s1, c1⟩ := S1
  dsimp only at hFin b0 b1 a0 a1
  have W2 := Lib.hid ((h.set q s0 b0.1).set (q + 1) s1 b1.1)
  have H := Lib.hid h
  have HFIN := Lib.hid hFin
  have B1 := Lib.hid b1
  clear h hb hfin hFin x0lt x1lt hlo hhi b0 b1 hlen
  go_enter Tryz.func50, Tryz.ntmps50
  go_wp2
  go_region
  go_wp2
  go_region
  go_wp2
  go_region
  go_wp2
  go_loopg [7, 11] (36 - (q + 2)) (fun gk iv cv wx => Rl.AddRel false w wb fin gk iv cv wx)
  case atStart => exact ⟨q + 2, c1, _, by omega, rfl, by go_num, rfl, B1.out.2, W2.out.drew.drew.drew, Rl.gr_drew (Rl.gr_drew (Rl.gr_drew (Rl.gr_set (Rl.gr_set (Rl.gr_refl _ _) _ _) _ _))), HFIN.out⟩
  case round =>
    obtain ⟨i, c, ws2, hi36, rfl, rfl, rfl, hc, hwd, hgr, hF⟩ := hrel
    clear HFIN B1 W2 H a0 a1 k5 k6
    by_cases hlt36 : i < 36
    · have hc01 : c = 0 ∨ c = 1 := by omega
      rcases hc01 with rfl | rfl
      · rw [Rl.carF_zero] at hF
        subst hF
        have HWD := Lib.hid hwd
        have HG := Lib.hid hgr
        clear hwd hgr
        go_wp2
        go_end0
        exact ⟨rfl, HWD.out, HG.out⟩
      · have hlti := Rl.blk_lt hwd.at'
        have xlt := hwd.get i
        have z0 := hwd.cell i hlt36
        have g0 := Rl.blk_frozen hwd.at' i
        rw [show 36 - i = (36 - (i + 1)) + 1 from by omega] at hF
        replace hF : Rl.carF false (36 - (i + 1)) (i + 1) (Rl.stepF false (ws2.getD i 0) 0 1).2 (ws2.set i (Rl.stepF false (ws2.getD i 0) 0 1).1) = fin := hF
        generalize ws2.getD i 0 = x at *
        have b2 := Rl.step_lt false x 0 1 xlt (by decide) (by decide)
        have a2 : ∀ W : World, Sem.run Tryz.prog (callFunc 65 #[.int .u64 (x : Int), .int .u64 0, .int .u64 1]) W = .ok (.value (.tuple #[.int .u64 ((Rl.stepF false x 0 1).1 : Nat), .int .u64 ((Rl.stepF false x 0 1).2 : Nat)])) W := Rl.run65 x 0 1 xlt (by decide) (by decide)
        generalize Rl.stepF false x 0 1 = S at *
        obtain ⟨s, c2⟩ := S
        dsimp only at hF b2 a2
        have W3 := Lib.hid (hwd.set i s b2.1)
        have HG := Lib.hid hgr
        have HF := Lib.hid hF
        have B2 := Lib.hid b2
        clear hwd hgr hF b2 xlt
        go_wp2
        go_region
        go_wp2
        go_roundg (36 - (i + 1))
        case measure => omega
        case rel => exact ⟨i + 1, c2, _, by omega, rfl, by go_num, rfl, B2.out.2, W3.out.drew, Rl.gr_drew (Rl.gr_set HG.out _ _), HF.out⟩
    · obtain rfl : i = 36 := by omega
      replace hF : ws2 = fin := hF
      subst hF
      have HWD := Lib.hid hwd
      have HG := Lib.hid hgr
      clear hwd hgr
      go_wp2
      go_end0
      exact ⟨rfl, HWD.out, HG.out⟩
set_option maxHeartbeats 8000000 in
set_option maxRecDepth 100000 in
theorem add_n1 (w : World) (wb : Nat) (ws : List Nat) (h : Rl.Wd w wb ws) (b pw dg D P q lo hi : Nat) (hb : b < 18446744073709551616) (hs : decide ((9223372036854775808 : Int) ≤ (b : Int)) = true) (hlo : lo < 18446744073709551616) (hhi : hi < 18446744073709551616) (k2 : bits .and .u64 (b : Int) 4503599627370495 = (dg : Int))
    (k1 : bits .and .i64 ((b : Int) / 4503599627370496) 2047 = (pw : Int)) (hpw : 0 < pw) (hpw2 : pw < 2047) (k3 : bits .or .u64 (dg : Int) 4503599627370496 = (D : Int)) (hD : D < 9007199254740992) (k4 : (pw : Int) - 1 = (P : Int)) (hq : (P : Int) / 64 = (q : Int)) (hq2 : q < 32) (hP : P < 2046) (k5 : IntKind.u64.wrap ((D : Int) * 2 ^ (P % 64)) = (lo : Int)) (k6 : (D : Int) / 2 ^ (64 - P % 64) = (hi : Int)) :
    Calls Tryz.prog 50 #[.pointer (some ⟨wb, 0, none⟩), .float .f64 b] w fun e w' => e = .returned (.tuple #[]) ∧ Rl.Wd w' wb (Rl.putF true ws q lo hi) ∧ w.grownBy w' (some wb) := by
  have kb := Rl.run55
  have hb4 : (b : Int) / 4503599627370496 < 4096 := by omega
  have hlt := Rl.blk_lt h.at'
  have hlen := h.len
  have x0lt := h.get q
  have x1lt := h.get (q + 1)
  have y0 := h.cell q (by omega)
  have y1 := h.cell (q + 1) (by omega)
  have f0 := Rl.blk_frozen h.at' q
  have f1 := Rl.blk_frozen h.at' (q + 1)
  have hfin : Rl.putF true ws q lo hi = Rl.putF true ws q lo hi := rfl
  generalize hFin : Rl.putF true ws q lo hi = fin at hfin ⊢
  unfold Rl.putF at hFin
  generalize ws.getD q 0 = x0 at *
  generalize ws.getD (q + 1) 0 = x1 at *
  have b0 := Rl.step_lt true x0 lo 0 x0lt hlo (by decide)
  have a0 : ∀ W : World, Sem.run Tryz.prog (callFunc 66 #[.int .u64 (x0 : Int), .int .u64 (lo : Int), .int .u64 0]) W = .ok (.value (.tuple #[.int .u64 ((Rl.stepF true x0 lo 0).1 : Nat), .int .u64 ((Rl.stepF true x0 lo 0).2 : Nat)])) W := Rl.run66 x0 lo 0 x0lt hlo (by decide)
  generalize Rl.stepF true x0 lo 0 = S0 at *
  obtain ⟨s0, c0⟩ := S0
  have b1 := Rl.step_lt true x1 hi c0 x1lt hhi b0.2
  have a1 := Rl.run66 x1 hi c0 x1lt hhi b0.2
  generalize Rl.stepF true x1 hi c0 = S1 at *
  obtain ⟨s1, c1⟩ := S1
  dsimp only at hFin b0 b1 a0 a1
  have W2 := Lib.hid ((h.set q s0 b0.1).set (q + 1) s1 b1.1)
  have H := Lib.hid h
  have HFIN := Lib.hid hFin
  have B1 := Lib.hid b1
  clear h hb hfin hFin x0lt x1lt hlo hhi b0 b1 hlen
  go_enter Tryz.func50, Tryz.ntmps50
  go_wp2
  go_region
  go_wp2
  go_region
  go_wp2
  go_region
  go_wp2
  go_loopg [7, 11] (36 - (q + 2)) (fun gk iv cv wx => Rl.AddRel true w wb fin gk iv cv wx)
  case atStart => exact ⟨q + 2, c1, _, by omega, rfl, by go_num, rfl, B1.out.2, W2.out.drew.drew.drew, Rl.gr_drew (Rl.gr_drew (Rl.gr_drew (Rl.gr_set (Rl.gr_set (Rl.gr_refl _ _) _ _) _ _))), HFIN.out⟩
  case round =>
    obtain ⟨i, c, ws2, hi36, rfl, rfl, rfl, hc, hwd, hgr, hF⟩ := hrel
    clear HFIN B1 W2 H a0 a1 k5 k6
    by_cases hlt36 : i < 36
    · have hc01 : c = 0 ∨ c = 1 := by omega
      rcases hc01 with rfl | rfl
      · rw [Rl.carF_zero] at hF
        subst hF
        have HWD := Lib.hid hwd
        have HG := Lib.hid hgr
        clear hwd hgr
        go_wp2
        go_end0
        exact ⟨rfl, HWD.out, HG.out⟩
      · have hlti := Rl.blk_lt hwd.at'
        have xlt := hwd.get i
        have z0 := hwd.cell i hlt36
        have g0 := Rl.blk_frozen hwd.at' i
        rw [show 36 - i = (36 - (i + 1)) + 1 from by omega] at hF
        replace hF : Rl.carF true (36 - (i + 1)) (i + 1) (Rl.stepF true (ws2.getD i 0) 0 1).2 (ws2.set i (Rl.stepF true (ws2.getD i 0) 0 1).1) = fin := hF
        generalize ws2.getD i 0 = x at *
        have b2 := Rl.step_lt true x 0 1 xlt (by decide) (by decide)
        have a2 : ∀ W : World, Sem.run Tryz.prog (callFunc 66 #[.int .u64 (x : Int), .int .u64 0, .int .u64 1]) W = .ok (.value (.tuple #[.int .u64 ((Rl.stepF true x 0 1).1 : Nat), .int .u64 ((Rl.stepF true x 0 1).2 : Nat)])) W := Rl.run66 x 0 1 xlt (by decide) (by decide)
        generalize Rl.stepF true x 0 1 = S at *
        obtain ⟨s, c2⟩ := S
        dsimp only at hF b2 a2
        have W3 := Lib.hid (hwd.set i s b2.1)
        have HG := Lib.hid hgr
        have HF := Lib.hid hF
        have B2 := Lib.hid b2
        clear hwd hgr hF b2 xlt
        go_wp2
        go_region
        go_wp2
        go_roundg (36 - (i + 1))
        case measure => omega
        case rel => exact ⟨i + 1, c2, _, by omega, rfl, by go_num, rfl, B2.out.2, W3.out.drew, Rl.gr_drew (Rl.gr_set HG.out _ _), HF.out⟩
    · obtain rfl : i = 36 := by omega
      replace hF : ws2 = fin := hF
      subst hF
      have HWD := Lib.hid hwd
      have HG := Lib.hid hgr
      clear hwd hgr
      go_wp2
      go_end0
      exact ⟨rfl, HWD.out, HG.out⟩
end Go.Proofs.YtljmnafmnmmehaaGreatDoor
