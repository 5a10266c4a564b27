/- The contract of change. -/
import Derived.Test.YtgdeoodihhcdjaaMq
import Derived.Defers
import Derived.Recover
import Derived.Laws.Pointers
import Derived.Laws.Tables
namespace Go.Proofs.Ytgdeoodihhcdjaa
open Go.RowKit
set_option linter.unusedVariables false
set_option linter.unusedSimpArgs false

theorem Ln.cells8o {w : World} {sb : Nat} {m : Ln.Mod} {v : Value} {t : TypeId} (h : w.heap[sb]? = some (.cells (Ln.cells m v) t (0, 0))) :
    w.cell? ⟨sb, 0, none⟩ = some (.int .i64 m.base) ∧ w.cell? ⟨sb, 1, none⟩ = some (.int .i64 m.first) ∧ w.cell? ⟨sb, 2, none⟩ = some (.int .i64 m.durable) ∧ w.cell? ⟨sb, 3, none⟩ = some (.int .i64 m.next) ∧
    w.cell? ⟨sb, 4, none⟩ = some (.int .i64 m.limit) ∧ w.cell? ⟨sb, 5, none⟩ = some v ∧ w.cell? ⟨sb, 6, none⟩ = some (.bool m.failed) ∧ w.cell? ⟨sb, 7, none⟩ = some (.bool m.closed) :=
  ⟨Qu.blk_cell h 0, Qu.blk_cell h 1, Qu.blk_cell h 2, Qu.blk_cell h 3, Qu.blk_cell h 4, Qu.blk_cell h 5, Qu.blk_cell h 6, Qu.blk_cell h 7⟩

theorem Try.size71 : (Try.prog.info? 71).map (·.size) = some 8 := by kernel_rfl
theorem Ln.cells_one (m : Ln.Mod) (A : Option Addr) (n c : Nat) : (Ln.cells m (.slice A n c)).all (·.oneCell') = true := by
  simp [Ln.cells, Value.oneCell']
theorem Ln.below_setRow {B g : Nat} {w w1 : World} (h : Below B w w1) (hg : B ≤ g) (cs : Array Value) : Below B w (w1.setRow g cs) :=
  ⟨h.os, h.tape, h.output, by have := h.size; simpa using this, fun i hi => (setRow_other w1 g i cs (by omega)).trans (h.block i hi)⟩
theorem Ln.assert127 (w : World) : (Instr.typeAssert (.iface 127 (.agg #[])) 20 127 true).run Try.prog w = .ok (.tuple #[.agg #[], .bool true]) w := by kernel_rfl

set_option maxRecDepth 100000 in
theorem catch_idle (p q : Addr) (w : World) :
    CallsD Try.prog 65 #[.pointer (some p), .pointer (some q)] .returning w fun e u' w' => e = .returned (.tuple #[]) ∧ u' = .returning ∧ w = w' := by
  refine callsD_of_wpS Try.func65 rfl fun c₀ cs hu => ?_
  apply wpS_seq
  apply wpS_region
  simp [wpOpsS, go_sem, recoverD, hu, Try.ntmps65, Exit.thenS]
  change Code.wpS Try.prog _ _ { tmps := #[.pointer (some p), .pointer (some q), .nilIface, undef, undef, .nilIface, undef, undef, undef, undef, undef, undef, undef, undef, undef, undef, undef], defers := [] } _ _
  refine wpS_of_wp ?_
  go_wp2
  cases c₀
  simp_all [bodyPostS, results, Try.results65]

set_option maxRecDepth 100000 in
theorem catch_panicking (ob kb : Nat) (m : Ln.Mod) (v : Value) (b : Bool) (older : List PanicEntry) (w : World) (ho : w.heap[ob]? = some (.cells (Ln.cells m v) 71 (0, 0))) (hk : w.heap[kb]? = some (.cells #[.bool b] 4 (0, 0))) :
    CallsD Try.prog 65 #[.pointer (some ⟨ob, 0, none⟩), .pointer (some ⟨kb, 0, none⟩)] (.panicking ({ v := .iface 127 (.agg #[]), recovered := false } :: older)) w fun e u' w' =>
      e = .returned (.tuple #[]) ∧ u' = .panicking ({ v := .iface 127 (.agg #[]), recovered := true } :: older) ∧ w'.heap[ob]? = some (.cells (Ln.cells Ln.zeroM (.slice none 0 0)) 71 (0, 0)) ∧ w'.heap[kb]? = some (.cells #[.bool false] 4 (0, 0)) ∧ (∀ B, B ≤ ob → B ≤ kb → B ≤ w.heap.size → Below B w w') := by
  refine callsD_of_wpS Try.func65 rfl fun c₀ cs hu => ?_
  apply wpS_seq
  apply wpS_region
  simp [wpOpsS, go_sem, recoverD, hu, Try.ntmps65, Exit.thenS]
  change Code.wpS Try.prog _ _ { tmps := #[.pointer (some ⟨ob, 0, none⟩), .pointer (some ⟨kb, 0, none⟩), .iface 127 (.agg #[]), undef, undef, .iface 127 (.agg #[]), undef, undef, undef, undef, undef, undef, undef, undef, undef, undef, undef], defers := [] } _ _
  refine wpS_of_wp ?_
  have hta := Ln.assert127
  have hlo := Qu.blk_lt ho
  have hlk := Qu.blk_lt hk
  have hne : ob ≠ kb := Qu.blk_ne ho hk (by decide)
  have HOB := Lib.hid ho
  have HKB := Lib.hid hk
  have HNE := Lib.hid hne
  clear ho hk hne
  have hk2 : ((w.alloc (Obj.cells #[] 127)).setRow ob (Ln.cells Ln.zeroM (.slice none 0 0))).heap[kb]? = some (.cells #[.bool b] 4 (0, 0)) := (setRow_other _ _ _ _ (fun h => HNE.out h.symm)).trans (Qu.blk_alloc HKB.out _)
  have ho2 : ((w.alloc (Obj.cells #[] 127)).setRow ob (Ln.cells Ln.zeroM (.slice none 0 0))).heap[ob]? = some (.cells (Ln.cells Ln.zeroM (.slice none 0 0)) 71 (0, 0)) := setRow_heap _ ob (Ln.cells m v) _ 71 (0, 0) (Qu.blk_alloc HOB.out _)
  have k0 := Qu.blk_cell hk2 0
  simp only [List.getElem?_toArray, List.getElem?_cons_zero] at k0
  have fk := Qu.blk_frozen hk2 0
  have HK2 := Lib.hid hk2
  have HO2 := Lib.hid ho2
  clear hk2 ho2
  go_wp2_with (refine wpList_store_row rfl 71 (.tmp 0) (.tmp 16) rfl ob (Ln.cells Ln.zeroM (.slice none 0 0)) rfl rfl 71 (Ln.cells m v) (Qu.blk_alloc HOB.out _) Try.size71 rfl (Ln.cells_one _ _ _ _) ?_)
  have hfin : ∀ B, B ≤ ob → B ≤ kb → B ≤ w.heap.size → Below B w (((w.alloc (Obj.cells #[] 127)).setRow ob (Ln.cells Ln.zeroM (.slice none 0 0))).setCell ⟨kb, 0, none⟩ (.bool false)) := fun B h1 h2 h3 =>
    (Ln.below_setRow (Ln.below_alloc B w h3 _) h1 _).setCell h2 _
  have hko := Qu.blk_set HK2.out 0 (.bool false)
  have hoo := Qu.blk_far HO2.out (p := ⟨kb, 0, none⟩) (fun h => HNE.out h) (.bool false)
  cases c₀
  simp only at hu
  simp [bodyPostS, results, Try.results65]
  exact ⟨hoo, hko, hfin⟩
end Go.Proofs.Ytgdeoodihhcdjaa
