/- The contract of the law's small. -/
import Derived.Test.YtgdeoodihhcdjaaNb
namespace Go.Proofs.Ytgdeoodihhcdjaa
open Go.RowKit
set_option linter.unusedVariables false
set_option linter.unusedSimpArgs false

def Ln.fewB (p : Ln.Past) : Bool := decide (p.call.data.length ≤ 5000) && decide (p.res.data.length ≤ 5000)
def Ln.smallF (ps : List Ln.Past) : Bool := ps.all Ln.fewB && decide (ps.length ≤ 30)
theorem Ln.small_no (ps : List Ln.Past) (k : Nat) (h : k < ps.length) (hk : Ln.fewB (Ln.at' ps k) = false) : Ln.smallF ps = false := by
  unfold Ln.smallF
  rw [show ps.all Ln.fewB = false from by rw [List.all_eq_false]; exact ⟨_, Ln.at_mem ps k h, by rw [hk]; simp⟩]
  rfl
theorem Ln.small_fin (ps : List Ln.Past) (h : ps.all Ln.fewB = true) : Ln.smallF ps = decide (ps.length ≤ 30) := by
  unfold Ln.smallF
  rw [h]
  rfl
def Ln.SmallRel (w : World) (ps : List Ln.Past) (gk : Nat) (i : Value) (wr : World) : Prop :=
  ∃ k : Nat, k ≤ ps.length ∧ gk = ps.length - k ∧ i = .int .i64 k ∧ (ps.take k).all Ln.fewB = true ∧ w = wr

set_option maxHeartbeats 2000000 in
set_option maxRecDepth 100000 in
theorem small_any (A : Option Addr) (cp : Nat) (ps : List Ln.Past) (w : World) (hp : Ln.Pasts w A cp ps) :
    Calls Try.prog 26 #[.slice A ps.length cp] w fun e w' => e = .returned (.bool (Ln.smallF ps)) ∧ w = w' := by
  have HP := Lib.hid hp
  have hl : ps.length ≤ 9223372036854775807 := Nat.le_trans hp.1 hp.2.1
  have hcp := hp.1
  clear hp
  go_enter Try.func26, Try.ntmps26
  go_wp2_with fail
  go_loopg [3] ps.length (fun gk i wr => Ln.SmallRel w ps gk i wr)
  case atStart => exact ⟨0, by omega, by omega, rfl, rfl, rfl⟩
  case round =>
    obtain ⟨k, hk, rfl, rfl, hall, rfl⟩ := hrel
    have HALL := Lib.hid hall
    by_cases hlt : k < ps.length
    · obtain ⟨b, o, cd, rd, rfl, hpk⟩ := HP.out.2.2 k hlt
      have hno := Ln.small_no ps k hlt
      have htk := Ln.take_past ps k hlt
      obtain ⟨x0, x1, x2, x3, x4, x5, x6, x7, xc, xr⟩ := hpk
      have hblt : b < w.heap.size := World.block_lt_of_cell? w _ x0
      generalize Ln.at' ps k = pk at x0 x1 x2 x3 x4 x5 x6 x7 xc xr hno htk
      obtain ⟨⟨ck, cl, cda⟩, ⟨er, rl, rda⟩, bg, fn⟩ := pk
      have HNO := Lib.hid hno
      have HTK := Lib.hid htk
      obtain ⟨Ac, cc, rfl⟩ := xc.slice
      obtain ⟨Ar, cr, rfl⟩ := xr.slice
      dsimp only at x0 x1 x2 x3 x4 x5 x6 x7
      have hc1 : (Ln.u8s cda).length = cda.length := by simp [Ln.u8s]
      have hr1 : (Ln.u8s rda).length = rda.length := by simp [Ln.u8s]
      rw [hc1] at x2
      rw [hr1] at x5
      clear hno htk xc xr hall hc1 hr1 x0 x1 x3 x4 x6 x7
      by_cases g1 : cda.length ≤ 5000
      · by_cases g2 : rda.length ≤ 5000
        · go_wp2_with fail
          go_roundg (ps.length - (k + 1))
          case measure => omega
          case rel => exact ⟨k + 1, by omega, rfl, by go_num, by rw [HTK.out, List.all_append, HALL.out]; simp [Ln.fewB, g1, g2], rfl⟩
        · have g2' : 5000 < rda.length := by omega
          have HG := Lib.hid g2
          clear g2
          go_wp2_with fail
          go_ret
          exact ⟨by rw [HNO.out (by simp [Ln.fewB]; omega)]; rfl, rfl⟩
      · have g1' : 5000 < cda.length := by omega
        clear g1
        go_wp2_with fail
        go_ret
        exact ⟨by rw [HNO.out (by simp [Ln.fewB]; omega)]; rfl, rfl⟩
    · have hke : k = ps.length := by omega
      rw [hke, List.take_length] at hall
      have HF := Lib.hid hall
      clear hall hke HALL
      go_wp2_with fail
      go_ret
      have e : decide ((ps.length : Int) ≤ 30) = decide (ps.length ≤ 30) := decide_eq_decide.2 (by omega)
      exact ⟨(congrArg (fun b => Ending.returned (.bool b)) e).trans (by rw [Ln.small_fin ps HF.out]), rfl⟩

end Go.Proofs.Ytgdeoodihhcdjaa
