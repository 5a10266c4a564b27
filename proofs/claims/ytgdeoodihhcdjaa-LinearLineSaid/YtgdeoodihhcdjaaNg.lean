/- The map of what was tried. -/
import Derived.Test.YtgdeoodihhcdjaaNf
import Derived.Maps.OwnSet
import Derived.Maps.Keyed
import Derived.DeepKeys4
import Derived.Lib.SmallJoins
import Derived.Laws.ShiftsVarLaws
namespace Go.Proofs.Ytgdeoodihhcdjaa
open Go.RowKit
set_option linter.unusedVariables false
set_option linter.unusedSimpArgs false


theorem Ln.laidOut : laidOutB Try.prog = true := by kernel_rfl
theorem Ln.row104 : (104 : TypeId) < Try.prog.types.size := of_decide_eq_true (by kernel_rfl)
theorem Ln.wide104 : (match Try.prog.underlying 104 with | some (.array _ _) | some (.struct _) => true | _ => false) = true := by rw [Try.underlying104]
theorem Ln.kta : Try.prog.keyTypeAt 4 104 = true := by kernel_rfl
theorem Ln.klaw : WideMaps.KeyLaw Try.prog 104 := deep_law_laid Ln.laidOut (m := 4) (by omega) Ln.row104 Ln.kta (by rw [Try.underlying104])
theorem Ln.keyed : Maps.Keyed Try.prog 104 := Maps.Keyed.of_law Ln.klaw
theorem Ln.kt104 : Try.prog.keyType 104 = true := by kernel_rfl
theorem Ln.cells104 : Try.prog.cellsOf 104 = 13 := by kernel_rfl
theorem Ln.cells102 : Try.prog.cellsOf 102 = 12 := by kernel_rfl
theorem Ln.cells101 : Try.prog.cellsOf 101 = 1 := by kernel_rfl
theorem Ln.cells2 : Try.prog.cellsOf 2 = 1 := by kernel_rfl
theorem Ln.tsize : ∃ n, Try.prog.types.size = n + 4 := ⟨Try.prog.types.size - 4, by have h : 104 < Try.prog.types.size := Ln.row104; omega⟩
set_option maxHeartbeats 2000000 in
theorem Ln.key_of (s a0 a1 a2 a3 a4 a5 a6 a7 a8 a9 a10 a11 : Int) (hs : (Lit.int .u64 s).wf = true) (h0 : (Lit.int .i64 a0).wf = true) (h1 : (Lit.int .i64 a1).wf = true) (h2 : (Lit.int .i64 a2).wf = true) (h3 : (Lit.int .i64 a3).wf = true) (h4 : (Lit.int .i64 a4).wf = true) (h5 : (Lit.int .i64 a5).wf = true) (h6 : (Lit.int .i64 a6).wf = true) (h7 : (Lit.int .i64 a7).wf = true) (h8 : (Lit.int .i64 a8).wf = true) (h9 : (Lit.int .i64 a9).wf = true) (h10 : (Lit.int .i64 a10).wf = true) (h11 : (Lit.int .i64 a11).wf = true) : ∃ l, keyOf Try.prog 104 (.agg #[Value.int IntKind.u64 s, Value.int IntKind.i64 a0, Value.int IntKind.i64 a1, Value.int IntKind.i64 a2, Value.int IntKind.i64 a3, Value.int IntKind.i64 a4, Value.int IntKind.i64 a5, Value.int IntKind.i64 a6, Value.int IntKind.i64 a7, Value.int IntKind.i64 a8, Value.int IntKind.i64 a9, Value.int IntKind.i64 a10, Value.int IntKind.i64 a11]) = some l := by
  obtain ⟨n, hn⟩ := Ln.tsize
  unfold keyOf
  simp only [Try.underlying104]
  rw [if_pos (by simp [Ln.kt104, Value.formed, Try.underlying104, Ln.cells104]), hn]
  simp [Program.keyLits, Try.underlying104, Try.underlying102, Try.underlying101, Try.underlying2, Ln.cells104, Ln.cells102, Ln.cells101, Ln.cells2, Value.cells, List.mapM_cons, List.range_succ, hs, h0, h1, h2, h3, h4, h5, h6, h7, h8, h9, h10, h11]

def Ln.I64 (x : Int) : Prop := -9223372036854775808 ≤ x ∧ x ≤ 9223372036854775807
theorem Ln.I64.wf {x : Int} (h : Ln.I64 x) : (Lit.int .i64 x).wf = true := WalkArith.wf_i64 h
/-- The cells of a key. -/
def Ln.kc (k : Ln.Key) : Array Value := (Value.int .u64 (k.set : Int) :: k.lsns.map (Value.int .i64 ·)).toArray
structure Ln.KOk (k : Ln.Key) : Prop where
  set : k.set < 4096
  len : k.lsns.length = 12
  ins : ∀ x ∈ k.lsns, Ln.I64 x
theorem Ln.kc_size {k : Ln.Key} (h : Ln.KOk k) : (Ln.kc k).size = 13 := by simp [Ln.kc, h.len]
theorem Ln.kc_one (k : Ln.Key) : (Ln.kc k).all (·.oneCell') = true := by
  rw [Array.all_eq_true]
  intro i hi
  simp only [Ln.kc, List.getElem_toArray]
  cases i with
  | zero => rfl
  | succ i => simp [Value.oneCell']
theorem Ln.kc_lit {k : Ln.Key} (h : Ln.KOk k) : ∃ a0 a1 a2 a3 a4 a5 a6 a7 a8 a9 a10 a11 : Int, Ln.kc k = #[Value.int IntKind.u64 (k.set : Int), Value.int IntKind.i64 a0, Value.int IntKind.i64 a1, Value.int IntKind.i64 a2, Value.int IntKind.i64 a3, Value.int IntKind.i64 a4, Value.int IntKind.i64 a5, Value.int IntKind.i64 a6, Value.int IntKind.i64 a7, Value.int IntKind.i64 a8, Value.int IntKind.i64 a9, Value.int IntKind.i64 a10, Value.int IntKind.i64 a11] ∧ k.lsns = [a0, a1, a2, a3, a4, a5, a6, a7, a8, a9, a10, a11] := by
  obtain ⟨s, l⟩ := k
  have hl := h.len
  dsimp only at hl
  match l, hl with
  | [a0, a1, a2, a3, a4, a5, a6, a7, a8, a9, a10, a11], _ => exact ⟨a0, a1, a2, a3, a4, a5, a6, a7, a8, a9, a10, a11, rfl, rfl⟩
theorem Ln.kc_inj {k l : Ln.Key} (h : Ln.kc k = Ln.kc l) : k = l := by
  obtain ⟨s, xs⟩ := k
  obtain ⟨t, ys⟩ := l
  have h1 := congrArg Array.toList h
  simp only [Ln.kc, List.cons.injEq] at h1
  obtain ⟨h1, h2⟩ := h1
  have h3 : s = t := by injection h1 with _ h1; exact Int.ofNat.inj h1
  have h4 : xs = ys := (List.map_inj_right (fun a b e => by injection e)).1 h2
  rw [h3, h4]
theorem Ln.KOk.key {k : Ln.Key} (h : Ln.KOk k) : ∃ l, keyOf Try.prog 104 (.agg (Ln.kc k)) = some l := by
  obtain ⟨a0, a1, a2, a3, a4, a5, a6, a7, a8, a9, a10, a11, he, hl⟩ := Ln.kc_lit h
  rw [he]
  have hi := h.ins
  rw [hl] at hi
  exact Ln.key_of _ a0 a1 a2 a3 a4 a5 a6 a7 a8 a9 a10 a11 (WalkArith.wf_u64 (by have := h.set; omega)) (hi a0 (by simp)).wf (hi a1 (by simp)).wf (hi a2 (by simp)).wf (hi a3 (by simp)).wf (hi a4 (by simp)).wf (hi a5 (by simp)).wf (hi a6 (by simp)).wf (hi a7 (by simp)).wf (hi a8 (by simp)).wf (hi a9 (by simp)).wf (hi a10 (by simp)).wf (hi a11 (by simp)).wf
/-- The map in block mb holds just the keys ts. -/
def Ln.Kys (w : World) (mb : Nat) (ts : List Ln.Key) : Prop :=
  ∃ D : DataW Unit, w.ownsMap Try.prog 104 unitElem mb ts.length D ∧ Maps.size D = ts.length ∧ ∀ k, Ln.KOk k → ∀ l, keyOf Try.prog 104 (.agg (Ln.kc k)) = some l → Maps.has D l = decide (k ∈ ts)
theorem Ln.Kys.keep {w w' : World} {mb : Nat} {ts : List Ln.Key} (h : Ln.Kys w mb ts) (hb : w'.heap[mb]? = w.heap[mb]?) : Ln.Kys w' mb ts := by
  obtain ⟨D, ⟨es, clock, h1, h2⟩, h3⟩ := h
  exact ⟨D, ⟨es, clock, hb.trans h1, h2⟩, h3⟩
theorem Ln.Kys.blk {w : World} {mb : Nat} {ts : List Ln.Key} (h : Ln.Kys w mb ts) : ∃ es clock, w.heap[mb]? = some (.map es clock) := by
  obtain ⟨D, ⟨es, clock, h1, h2⟩, h3⟩ := h
  exact ⟨es, clock, h1⟩
theorem Ln.Kys.lt {w : World} {mb : Nat} {ts : List Ln.Key} (h : Ln.Kys w mb ts) : mb < w.heap.size := by
  obtain ⟨es, clock, h1⟩ := h.blk
  exact (Array.getElem?_eq_some_iff.1 h1).1
theorem Ln.Kys.ne {w : World} {mb g : Nat} {ts : List Ln.Key} (h : Ln.Kys w mb ts) {cs : Array Value} {t : TypeId} {f : Nat × Nat} (hg : w.heap[g]? = some (.cells cs t f)) : g ≠ mb := by
  obtain ⟨es, clock, h1⟩ := h.blk
  rintro rfl
  rw [h1] at hg
  cases hg
theorem Ln.Kys.nil {w : World} {mb : Nat} (h : w.heap[mb]? = some (.map #[] 0)) : Ln.Kys w mb [] :=
  ⟨.map [], Joins.ownsMap_empty h, rfl, fun k _ l _ => by simp [Maps.has]⟩
theorem Ln.own_tight {w : World} {mb n : Nat} {D : DataW Unit} (h : w.ownsMap Try.prog 104 unitElem mb n D) : w.ownsMap Try.prog 104 unitElem mb (Maps.size D) D := by
  obtain ⟨es, clock, h1, h2, h3, rfl⟩ := h
  refine ⟨es, clock, h1, h2, ?_, rfl⟩
  simp [Maps.size, length_sorted]
/-- What seen makes of the keys. -/
def Ln.seenF (ts : List Ln.Key) (k : Ln.Key) : List Ln.Key := if k ∈ ts then ts else k :: ts
theorem Ln.Kys.put {w w' : World} {mb : Nat} {ts : List Ln.Key} {D : DataW Unit} (h1 : w.ownsMap Try.prog 104 unitElem mb ts.length D) (h2 : Maps.size D = ts.length)
    (h3 : ∀ k, Ln.KOk k → ∀ l, keyOf Try.prog 104 (.agg (Ln.kc k)) = some l → Maps.has D l = decide (k ∈ ts)) (k : Ln.Key) (hk : Ln.KOk k) (l : Lit) (hl : keyOf Try.prog 104 (.agg (Ln.kc k)) = some l)
    (h : w'.ownsMap Try.prog 104 unitElem mb (ts.length + 1) (D.put l (.agg []))) : Ln.Kys w' mb (Ln.seenF ts k) := by
  have ht := h1.tidy Ln.keyed
  have hkl : WideAt.IsKeyLit l := Ln.keyed.key hl
  have hsz : Maps.size (D.put l (.agg [])) = (Ln.seenF ts k).length := by
    rw [Maps.size_put ht, h3 k hk l hl, h2]
    unfold Ln.seenF
    split <;> simp_all
  refine ⟨D.put l (.agg []), hsz ▸ Ln.own_tight h, hsz, fun k2 hk2 l2 hl2 => ?_⟩
  by_cases e : k2 = k
  · subst e
    have : l2 = l := by rw [hl] at hl2; exact (Option.some.inj hl2).symm
    subst this
    rw [Maps.has_put_same ht.isMap hkl]
    unfold Ln.seenF
    split <;> simp_all
  · have hne : l2 ≠ l := by
      rintro rfl
      have h5 := Ln.klaw.inj hl2 hl
      injection h5 with h5
      exact e (Ln.kc_inj h5)
    rw [Maps.has_put_other hne, h3 k2 hk2 l2 hl2]
    unfold Ln.seenF
    split <;> simp [e]

end Go.Proofs.Ytgdeoodihhcdjaa
