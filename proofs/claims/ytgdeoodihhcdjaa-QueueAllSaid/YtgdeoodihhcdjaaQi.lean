/- The map of the queue's numbers. -/
import Derived.Test.YtgdeoodihhcdjaaQh
import Derived.Maps.OwnSet
namespace Go.Proofs.Ytgdeoodihhcdjaa
open Go.RowKit
set_option linter.unusedVariables false
set_option linter.unusedSimpArgs false

theorem Qu.law2 : Maps.Keyed Try.prog 2 := Maps.int_keyed Try.underlying2
theorem Qu.zero82 (w : World) : (zeroValue 82).run Try.prog w = .ok (.agg #[]) w := by kernel_rfl
def Qu.In64 (x : Int) : Prop := -9223372036854775808 ≤ x ∧ x ≤ 9223372036854775807
theorem Qu.In64.wf {x : Int} (h : Qu.In64 x) : (Lit.int .i64 x).wf = true := WalkArith.wf_i64 h
/-- The map in block mb holds just the numbers ids. -/
def Qu.Keys (w : World) (mb : Nat) (ids : List Int) : Prop :=
  ∃ D : DataW Unit, w.ownsMap Try.prog 2 unitElem mb ids.length D ∧ Maps.size D = ids.length ∧ ∀ x, Maps.has D (.int .i64 x) = decide (x ∈ ids)
theorem Qu.Keys.keep {w w' : World} {mb : Nat} {ids : List Int} (h : Qu.Keys w mb ids) (hb : w'.heap[mb]? = w.heap[mb]?) : Qu.Keys w' mb ids := by
  obtain ⟨D, ⟨es, clock, h1, h2⟩, h3⟩ := h
  exact ⟨D, ⟨es, clock, hb.trans h1, h2⟩, h3⟩
theorem Qu.Keys.blk {w : World} {mb : Nat} {ids : List Int} (h : Qu.Keys w mb ids) : ∃ es clock, w.heap[mb]? = some (.map es clock) := by
  obtain ⟨D, ⟨es, clock, h1, h2⟩, h3⟩ := h
  exact ⟨es, clock, h1⟩
theorem Qu.Keys.lt {w : World} {mb : Nat} {ids : List Int} (h : Qu.Keys w mb ids) : mb < w.heap.size := by
  obtain ⟨es, clock, h1⟩ := h.blk
  exact (Array.getElem?_eq_some_iff.1 h1).1
theorem Qu.Keys.ne {w : World} {mb g : Nat} {ids : List Int} (h : Qu.Keys w mb ids) {cs : Array Value} {t : TypeId} {f : Nat × Nat} (hg : w.heap[g]? = some (.cells cs t f)) : g ≠ mb := by
  obtain ⟨es, clock, h1⟩ := h.blk
  rintro rfl
  rw [h1] at hg
  cases hg
theorem Qu.Keys.ext {w : World} {mb : Nat} {ids ids' : List Int} (h : Qu.Keys w mb ids) (hl : ids.length = ids'.length) (hm : ∀ x, x ∈ ids ↔ x ∈ ids') : Qu.Keys w mb ids' := by
  obtain ⟨D, h1, h2, h3⟩ := h
  exact ⟨D, hl ▸ h1, hl ▸ h2, fun x => by rw [h3]; simp [hm]⟩
theorem Qu.own_tight {w : World} {mb n : Nat} {D : DataW Unit} (h : w.ownsMap Try.prog 2 unitElem mb n D) : w.ownsMap Try.prog 2 unitElem mb (Maps.size D) D := by
  obtain ⟨es, clock, h1, h2, h3, rfl⟩ := h
  refine ⟨es, clock, h1, h2, ?_, rfl⟩
  simp [Maps.size, length_sorted]
theorem Qu.keyLit (x : Int) : WideAt.IsKeyLit (.int .i64 x) := trivial
theorem Qu.Keys.put {w w' : World} {mb : Nat} {ids : List Int} {D : DataW Unit} (h1 : w.ownsMap Try.prog 2 unitElem mb ids.length D) (h2 : Maps.size D = ids.length) (h3 : ∀ x, Maps.has D (.int .i64 x) = decide (x ∈ ids)) (x : Int) (hx : x ∉ ids)
    (h : w'.ownsMap Try.prog 2 unitElem mb (ids.length + 1) (D.put (.int .i64 x) (.agg []))) : Qu.Keys w' mb (ids ++ [x]) := by
  have ht := h1.tidy Qu.law2
  refine ⟨D.put (.int .i64 x) (.agg []), ?_, ?_, ?_⟩
  · simpa using h
  · rw [Maps.size_put ht, h3, h2]
    simp [hx]
  · intro y
    by_cases hy : y = x
    · subst hy
      rw [Maps.has_put_same ht.isMap (Qu.keyLit y)]
      simp
    · rw [Maps.has_put_other (by simpa using hy), h3]
      simp [hy]
theorem Qu.Keys.del {w w' : World} {mb : Nat} {ids : List Int} {D : DataW Unit} (h1 : w.ownsMap Try.prog 2 unitElem mb ids.length D) (h2 : Maps.size D = ids.length) (h3 : ∀ x, Maps.has D (.int .i64 x) = decide (x ∈ ids)) (x : Int) (hx : x ∈ ids) (hnd : ids.Nodup)
    (h : w'.ownsMap Try.prog 2 unitElem mb ids.length (D.del (.int .i64 x))) : Qu.Keys w' mb (ids.erase x) := by
  have ht := h1.tidy Qu.law2
  have hs : Maps.size (D.del (.int .i64 x)) = (ids.erase x).length := by
    have := Maps.size_del (k := .int .i64 x) ht
    rw [h3, h2] at this
    simp [hx] at this
    rw [List.length_erase_of_mem hx]
    omega
  refine ⟨D.del (.int .i64 x), hs ▸ Qu.own_tight h, hs, ?_⟩
  intro y
  by_cases hy : y = x
  · subst hy
    rw [Maps.has_del_same]
    simp [List.Nodup.mem_erase_iff hnd]
  · rw [Maps.has_del_other (by simpa using hy), h3]
    simp [List.Nodup.mem_erase_iff hnd, hy]
end Go.Proofs.Ytgdeoodihhcdjaa
