/- A list of pasts in memory; the contract of timely, small. -/
import Derived.Test.YtgdeoodihhcdjaaNa
namespace Go.Proofs.Ytgdeoodihhcdjaa
open Go.RowKit
set_option linter.unusedVariables false
set_option linter.unusedSimpArgs false

/-- A past at an address. -/
structure Ln.PAt (w : World) (b o : Nat) (p : Ln.Past) (cd rd : Value) : Prop where
  c0 : w.cell? ⟨b, o, none⟩ = some (.int .i64 p.call.kind)
  c1 : w.cell? ⟨b, o + 1, none⟩ = some (.int .i64 p.call.lsn)
  c2 : w.cell? ⟨b, o + 2, none⟩ = some cd
  c3 : w.cell? ⟨b, o + 3, none⟩ = some (.int .i64 p.res.err)
  c4 : w.cell? ⟨b, o + 4, none⟩ = some (.int .i64 p.res.lsn)
  c5 : w.cell? ⟨b, o + 5, none⟩ = some rd
  c6 : w.cell? ⟨b, o + 6, none⟩ = some (.int .i64 p.beg)
  c7 : w.cell? ⟨b, o + 7, none⟩ = some (.int .i64 p.fin)
  hc : Ln.Rd w cd (Ln.u8s p.call.data)
  hr : Ln.Rd w rd (Ln.u8s p.res.data)
theorem Ln.PAt.keep {w w' : World} {b o : Nat} {p : Ln.Past} {cd rd : Value} (h : Ln.PAt w b o p cd rd) (hb : Below w.heap.size w w') : Ln.PAt w' b o p cd rd := by
  have hlt : b < w.heap.size := World.block_lt_of_cell? w _ h.c0
  have e : ∀ j, w'.cell? ⟨b, j, none⟩ = w.cell? ⟨b, j, none⟩ := fun j => hb.cell (p := ⟨b, j, none⟩) hlt
  exact ⟨(e _).trans h.c0, (e _).trans h.c1, (e _).trans h.c2, (e _).trans h.c3, (e _).trans h.c4, (e _).trans h.c5, (e _).trans h.c6, (e _).trans h.c7, h.hc.keep hb, h.hr.keep hb⟩
/-- A list of pasts. -/
def Ln.Pasts (w : World) (A : Option Addr) (cp : Nat) (ps : List Ln.Past) : Prop :=
  ps.length ≤ cp ∧ cp ≤ 9223372036854775807 ∧ ∀ i, i < ps.length → ∃ b o cd rd, A = some ⟨b, o, none⟩ ∧ Ln.PAt w b (o + i * 8) (Ln.at' ps i) cd rd
theorem Ln.Pasts.keep {w w' : World} {A : Option Addr} {cp : Nat} {ps : List Ln.Past} (h : Ln.Pasts w A cp ps) (hb : Below w.heap.size w w') : Ln.Pasts w' A cp ps := by
  obtain ⟨h1, h2, h3⟩ := h
  refine ⟨h1, h2, fun i hi => ?_⟩
  obtain ⟨b, o, cd, rd, hA, hp⟩ := h3 i hi
  exact ⟨b, o, cd, rd, hA, hp.keep hb⟩

theorem Ln.take_past (ps : List Ln.Past) (k : Nat) (h : k < ps.length) : ps.take (k + 1) = ps.take k ++ [Ln.at' ps k] := by
  rw [List.take_succ_eq_append_getElem h]
  unfold Ln.at'
  rw [List.getD_eq_getElem?_getD, List.getElem?_eq_getElem h]
  rfl
theorem Ln.at_mem (ps : List Ln.Past) (k : Nat) (h : k < ps.length) : Ln.at' ps k ∈ ps := by
  unfold Ln.at'
  rw [List.getD_eq_getElem?_getD, List.getElem?_eq_getElem h]
  exact List.getElem_mem h
theorem Ln.timely_no (ps : List Ln.Past) (k : Nat) (h : k < ps.length) (hk : Ln.okTime (Ln.at' ps k) = false) : Ln.timelyF ps = false := by
  unfold Ln.timelyF
  rw [List.all_eq_false]
  exact ⟨_, Ln.at_mem ps k h, by rw [hk]; simp⟩

def Ln.TimeRel (w : World) (ps : List Ln.Past) (gk : Nat) (i : Value) (wr : World) : Prop :=
  ∃ k : Nat, k ≤ ps.length ∧ gk = ps.length - k ∧ i = .int .i64 k ∧ (ps.take k).all Ln.okTime = true ∧ Below w.heap.size w wr

set_option maxHeartbeats 2000000 in
set_option maxRecDepth 100000 in
theorem timely_any (A : Option Addr) (cp : Nat) (ps : List Ln.Past) (w : World) (hp : Ln.Pasts w A cp ps) :
    Calls Try.prog 51 #[.slice A ps.length cp] w fun e w' => e = .returned (.bool (Ln.timelyF ps)) ∧ Below w.heap.size w w' := by
  have HP := Lib.hid hp
  have hl : ps.length ≤ 9223372036854775807 := Nat.le_trans hp.1 hp.2.1
  have hcp := hp.1
  clear hp
  go_enter Try.func51, Try.ntmps51
  go_wp2_with fail
  go_loopg [7] ps.length (fun gk i wr => Ln.TimeRel w ps gk i wr)
  case atStart => exact ⟨0, by omega, by omega, rfl, rfl, Below.refl _ _⟩
  case round =>
    obtain ⟨k, hk, rfl, rfl, hall, hb⟩ := hrel
    have HB := Lib.hid hb
    have HALL := Lib.hid hall
    by_cases hlt : k < ps.length
    · obtain ⟨b, o, cd, rd, rfl, hpk⟩ := (HP.out.keep hb).2.2 k hlt
      have hno := Ln.timely_no ps k hlt
      have htk := Ln.take_past ps k hlt
      obtain ⟨x0, x1, x2, x3, x4, x5, x6, x7, xc, xr⟩ := hpk
      have hblt : b < wr.heap.size := World.block_lt_of_cell? wr _ x0
      generalize Ln.at' ps k = pk at x0 x1 x2 x3 x4 x5 x6 x7 xc xr hno htk
      obtain ⟨⟨ck, cl, cda⟩, ⟨er, rl, rda⟩, bg, fn⟩ := pk
      have HNO := Lib.hid hno
      have HTK := Lib.hid htk
      obtain ⟨Ac, cc, rfl⟩ := xc.slice
      obtain ⟨Ar, cr, rfl⟩ := xr.slice
      dsimp only at x0 x1 x2 x3 x4 x5 x6 x7
      clear hno htk xc xr hb hall
      by_cases g1 : bg < 1
      · have e1 : decide (bg < 1) = true := decide_eq_true g1
        go_wp2_with fail
        go_ret
        exact ⟨by rw [HNO.out (by simp [Ln.okTime, g1])]; rfl, HB.out.alloc HB.out.size _⟩
      · have e1 : decide (bg < 1) = false := decide_eq_false g1
        have g1' : 1 ≤ bg := by omega
        clear g1
        by_cases g2 : fn = 0
        · subst g2
          go_wp2_with fail
          go_roundg (ps.length - (k + 1))
          case measure => omega
          case rel => exact ⟨k + 1, by omega, rfl, by go_num, by rw [HTK.out, List.all_append, HALL.out]; simp [Ln.okTime]; omega, HB.out.alloc HB.out.size _⟩
        · have e2 : (fn != 0) = true := bne_iff_ne.2 g2
          by_cases g3 : fn ≤ bg
          · have e3 : decide (fn ≤ bg) = true := decide_eq_true g3
            have HG := Lib.hid g2
            clear g2
            go_wp2_with fail
            go_ret
            exact ⟨by rw [HNO.out (by simp [Ln.okTime, HG.out, g3])]; rfl, HB.out.alloc HB.out.size _⟩
          · have e3 : decide (fn ≤ bg) = false := decide_eq_false g3
            have g3' : bg < fn := by omega
            clear g2 g3
            go_wp2_with fail
            go_roundg (ps.length - (k + 1))
            case measure => omega
            case rel => exact ⟨k + 1, by omega, rfl, by go_num, by rw [HTK.out, List.all_append, HALL.out]; simp [Ln.okTime]; omega, HB.out.alloc HB.out.size _⟩
    · have hke : k = ps.length := by omega
      rw [hke, List.take_length] at hall
      have hfin : Ln.timelyF ps = true := hall
      have HF := Lib.hid hfin
      clear hall hfin hb hke HALL
      go_wp2_with fail
      go_ret
      exact ⟨by rw [HF.out]; rfl, HB.out⟩

end Go.Proofs.Ytgdeoodihhcdjaa
