/- The cells of Go's tables from the row's listed variables; the witness. -/
import Derived.Test.YtljmnafmnmmehaaGreatDoorTie
import Derived.Test.YtljmnafmnmmehaaGreatDoorBo
import Derived.ProofKit
import Derived.OpenShut
import Derived.LaidMore
import Derived.Lay
import Derived.SevenTiedAt
import Derived.Stop.Joined
import Derived.ChangeSame
import Derived.ChangeOld
namespace Go.Proofs.YtljmnafmnmmehaaGreatDoor
open Go.ChangeShapes Go.WideShapes Go.ChangeAt Go.RowKit
set_option linter.unusedVariables false
set_option linter.unusedSimpArgs false
set_option maxRecDepth 100000

theorem Rl.own : ownKnob Tryz.prog.godebug = none := by kernel_rfl
noncomputable def Rl.laid : List (String × DataW Unit) := Rows.realClassesRow.laid
theorem Rl.laid_at {w : World} : ∀ {laid : List (String × DataW Unit)} {ps : List MemPlace}, DataW.LaidVars Tryz.prog w laid ps → ∀ {n : String} {d : DataW Unit} (i : Nat), laid[i]? = some (n, d) →
    ∃ g t cs fuel p, Tryz.prog.globalNamed n = some g ∧ (Tryz.prog.globals[g]?).map (·.type) = some t ∧ w.var? Tryz.prog n = some cs ∧ DataW.trod (fun _ => ()) Tryz.prog w 0 (fun _ => true) false fuel t cs.toList = some (d, p)
  | [], _, _, n, d, i, h => by simp at h
  | (n0, d0) :: r, ps, h, n, d, i, hi => by
    obtain ⟨g, t, cs, fuel, p, q, h1, h2, h3, h4, h5, _⟩ := h
    cases i with
    | zero =>
      simp only [List.getElem?_cons_zero, Option.some.injEq, Prod.mk.injEq] at hi
      obtain ⟨rfl, rfl⟩ := hi
      exact ⟨g, t, cs, fuel, p, h1, h2, h3, h4⟩
    | succ i => exact Rl.laid_at h5 i (by simpa using hi)
theorem Rl.laid_tab {W : World} (h : laidMetH Tryz.prog Rl.laid W) : Rl.Tab W := by
  rw [MakeChecks.laidMetH_plain _ _ _ (by kernel_rfl)] at h
  obtain ⟨ps, hl, _, _⟩ := h
  have e3 : W.cell? ⟨1, 0, none⟩ = some (.bool true) := by
    obtain ⟨g, t, cs, fuel, p, hg, ht, hv, hd⟩ := Rl.laid_at hl (n := "internal/strconv.optimize") (d := .lit (.bool true)) 4 (by kernel_rfl)
    obtain rfl := Option.some.inj ((show Tryz.prog.globalNamed "internal/strconv.optimize" = some 1 by kernel_rfl).symm.trans hg)
    obtain rfl := Option.some.inj ((show (Tryz.prog.globals[1]?).map (·.type) = some 4 by kernel_rfl).symm.trans ht)
    obtain ⟨b, hb, hx⟩ := DataW.trod_bool Tryz.underlying4 hd
    simp only [Prod.mk.injEq, DataW.lit.injEq, Lit.bool.injEq] at hx
    rw [World.var?_cell hg hv 0, ← Array.getElem?_toList, hb, ← hx.1]
    rfl
  have e2 : W.cell? ⟨4, 15, none⟩ = some (.int .u64 1000000000000000) := by
    obtain ⟨g, t, cs, fuel, p, hg, ht, hv, hd⟩ := Rl.laid_at hl (n := "internal/strconv.uint64pow10") (d := Rows.laid_internal_strconv_uint64pow10) 8 (by kernel_rfl)
    obtain rfl := Option.some.inj ((show Tryz.prog.globalNamed "internal/strconv.uint64pow10" = some 4 by kernel_rfl).symm.trans hg)
    obtain rfl := Option.some.inj ((show (Tryz.prog.globals[4]?).map (·.type) = some 141 by kernel_rfl).symm.trans ht)
    obtain ⟨xs, m, _, ex, _, hl, hel⟩ := DataW.trod_array Tryz.underlying141 hd
    have c43 : Tryz.prog.cellsOf 43 = 1 := by kernel_rfl
    have hE := hel 15 (by decide)
    rw [c43, Nat.mul_one, List.getElem?_eq_getElem (by omega)] at hE
    obtain ⟨z, e1, e2, _⟩ := DataW.trod_int Tryz.underlying43 hE
    have e3 : (xs.map (·.1))[15]? = some (.lit (.int .u64 1000000000000000) : DataW Unit) := by
      rw [← DataW.agg.inj (Prod.mk.inj ex).1]
      rfl
    rw [List.getElem?_map, List.getElem?_eq_getElem (by omega : 15 < xs.length), e2] at e3
    simp only [Option.map_some, Option.some.injEq, DataW.lit.injEq, Lit.int.injEq, true_and] at e3
    subst e3
    rw [World.var?_cell hg hv 15]
    have : cs.toList[15]? = some (.int .u64 1000000000000000) := by
      have h0 : ((cs.toList.drop 15).take 1)[0]? = some (.int .u64 1000000000000000) := by rw [e1]; rfl
      simpa using h0
    simpa using this
  have e01 : W.cell? ⟨7, 730, none⟩ = some (.int .u64 12800000000000000000) ∧ W.cell? ⟨7, 731, none⟩ = some (.int .u64 0) := by
    obtain ⟨g, t, cs, fuel, p, hg, ht, hv, hd⟩ := Rl.laid_at hl (n := "internal/strconv.pow10Tab") (d := Pinned.pow10Tab) 12 (by kernel_rfl)
    obtain rfl := Option.some.inj ((show Tryz.prog.globalNamed "internal/strconv.pow10Tab" = some 7 by kernel_rfl).symm.trans hg)
    obtain rfl := Option.some.inj ((show (Tryz.prog.globals[7]?).map (·.type) = some 173 by kernel_rfl).symm.trans ht)
    obtain ⟨xs, m, _, ex, _, hl, hel⟩ := DataW.trod_array Tryz.underlying173 hd
    have c172 : Tryz.prog.cellsOf 172 = 2 := by kernel_rfl
    have c43 : Tryz.prog.cellsOf 43 = 1 := by kernel_rfl
    have hE := hel 365 (by decide)
    rw [c172, List.getElem?_eq_getElem (by omega)] at hE
    obtain ⟨y0, y1, n, hy, hlen, h0, h1⟩ := trod_struct2 Tryz.underlying172 hE
    have h0 : DataW.trod (fun _ => ()) Tryz.prog W 0 (fun _ => true) false n 43 ((((cs.toList.drop (365 * 2)).take 2).drop 0).take (Tryz.prog.cellsOf 43)) = some y0 := h0
    have h1 : DataW.trod (fun _ => ()) Tryz.prog W 0 (fun _ => true) false n 43 ((((cs.toList.drop (365 * 2)).take 2).drop 1).take (Tryz.prog.cellsOf 43)) = some y1 := h1
    rw [c43] at h0 h1
    obtain ⟨z0, a0, b0, _⟩ := DataW.trod_int Tryz.underlying43 h0
    obtain ⟨z1, a1, b1, _⟩ := DataW.trod_int Tryz.underlying43 h1
    have e3 : (xs.map (·.1))[365]? = some (.agg [.lit (.int .u64 12800000000000000000), .lit (.int .u64 0)] : DataW Unit) := by
      rw [← DataW.agg.inj (Prod.mk.inj ex).1]
      kernel_rfl
    rw [List.getElem?_map, List.getElem?_eq_getElem (by omega : 365 < xs.length), hy, b0, b1] at e3
    simp only [Option.map_some, Option.some.injEq, DataW.agg.injEq, List.cons.injEq, DataW.lit.injEq, Lit.int.injEq, true_and, and_true] at e3
    obtain ⟨rfl, rfl⟩ := e3
    rw [World.var?_cell hg hv 730, World.var?_cell hg hv 731]
    have q0 : cs.toList[730]? = some (.int .u64 12800000000000000000) := by
      have h2 := congrArg (fun l => l[0]?) a0
      simp only [List.getElem?_take, List.getElem?_drop] at h2
      simpa using h2
    have q1 : cs.toList[731]? = some (.int .u64 0) := by
      have h2 := congrArg (fun l => l[0]?) a1
      simp only [List.getElem?_take, List.getElem?_drop] at h2
      simpa using h2
    exact ⟨by simpa using q0, by simpa using q1⟩
  exact ⟨World.block_lt_of_cell? W _ e01.1, e01.1, e01.2, e2, e3⟩
end Go.Proofs.YtljmnafmnmmehaaGreatDoor
