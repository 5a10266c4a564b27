/- The contract of linear.begun. -/
import Derived.Test.YtgdeoodihhcdjaaNc
namespace Go.Proofs.Ytgdeoodihhcdjaa
open Go.RowKit
set_option linter.unusedVariables false
set_option linter.unusedSimpArgs false

theorem Ln.open_take (ps : List Ln.Past) (k : Nat) (h : k < ps.length) : Ln.openF (ps.take (k + 1)) = Ln.openF (ps.take k) + (if (Ln.at' ps k).fin = 0 then 1 else 0) := by
  rw [Ln.take_past ps k h]
  unfold Ln.openF
  rw [List.filter_append, List.length_append]
  by_cases g : (Ln.at' ps k).fin = 0
  · rw [if_pos g]; simp [List.filter_cons, g]
  · rw [if_neg g]; simp [List.filter_cons, g]
theorem Ln.open_le (ps : List Ln.Past) (k : Nat) : Ln.openF (ps.take k) ≤ ps.length := by
  unfold Ln.openF
  exact Nat.le_trans (List.length_filter_le _ _) (by rw [List.length_take]; omega)

set_option maxHeartbeats 2000000 in
set_option maxRecDepth 100000 in
theorem begun_base (base : Int) (V : Value) (w : World) (hb : base < 1) :
    Calls Try.prog 49 #[.int .i64 base, V] w fun e w' => e = .returned (.tuple #[.pointer none, .agg (Ln.cells Ln.zeroM (.slice none 0 0)), .int .i64 1]) ∧ Below w.heap.size w w' := by
  have hnew := fun w5 => new_any base w5
  have hF : Ln.newF base = none := by unfold Ln.newF; rw [if_pos hb]
  rw [hF] at hnew
  simp only [Ln.cells, Ln.zeroM] at hnew
  have HNEW := Lib.hid hnew
  clear hnew hF
  go_enter Try.func49, Try.ntmps49
  go_wp2_with fail
  refine (HNEW.out _).mono ?_
  rintro e w2 ⟨hb2, rfl⟩
  have ho2 := Qu.blk_below (heap_alloc_new w (Obj.cells (Ln.cells Ln.zeroM (.slice none 0 0)) 71)) hb2
  have hb02 : Below w.heap.size w w2 := (Ln.below_alloc _ w (Nat.le_refl _) _).trans (hb2.mono (by simp))
  have hz2 := hb2.size
  simp at hz2
  have HO2 := Lib.hid ho2
  have HB2 := Lib.hid hb02
  clear hb2 ho2 hb02
  go_wp2_with (refine wpList_store_row rfl 71 (.tmp 5) (.tmp 24) rfl w.heap.size (Ln.cells Ln.zeroM (.slice none 0 0)) rfl rfl 71 (Ln.cells Ln.zeroM (.slice none 0 0)) (Qu.blk_alloc HO2.out _) Try.size71 rfl (Ln.cells_one _ _ _ _) ?_)
  have hrow := setRow_heap _ w.heap.size _ (Ln.cells Ln.zeroM (.slice none 0 0)) 71 (0, 0) (Qu.blk_alloc HO2.out (Obj.cells #[Value.int IntKind.i64 0, Value.int IntKind.i64 0, Value.int IntKind.i64 0, Value.int IntKind.i64 0, Value.int IntKind.i64 0, Value.slice none 0 0, Value.bool false, Value.bool false] 71))
  have hbr : Below w.heap.size w ((w2.alloc (Obj.cells #[Value.int IntKind.i64 0, Value.int IntKind.i64 0, Value.int IntKind.i64 0, Value.int IntKind.i64 0, Value.int IntKind.i64 0, Value.slice none 0 0, Value.bool false, Value.bool false] 71)).setRow w.heap.size (Ln.cells Ln.zeroM (.slice none 0 0))) := Ln.below_setRow (HB2.out.alloc (by omega) _) (by omega) _
  generalize (w2.alloc (Obj.cells #[Value.int IntKind.i64 0, Value.int IntKind.i64 0, Value.int IntKind.i64 0, Value.int IntKind.i64 0, Value.int IntKind.i64 0, Value.slice none 0 0, Value.bool false, Value.bool false] 71)).setRow w.heap.size (Ln.cells Ln.zeroM (.slice none 0 0)) = w9 at hrow hbr ⊢
  obtain ⟨o0, o1, o2, o3, o4, o5, o6, o7⟩ := Ln.cells8o hrow
  refine bodyPost_ret (v := .tuple #[.pointer none, .agg (Ln.cells Ln.zeroM (.slice none 0 0)), .int .i64 1]) (by simp [results, Try.results49, go_sem, asAddr, o0, o1, o2, o3, o4, o5, o6, o7]; rfl) rfl ⟨rfl, hbr⟩

end Go.Proofs.Ytgdeoodihhcdjaa
