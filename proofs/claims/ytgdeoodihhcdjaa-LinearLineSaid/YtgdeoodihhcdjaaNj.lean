/- Lemmas for put. -/
import Derived.Test.YtgdeoodihhcdjaaNi
namespace Go.Proofs.Ytgdeoodihhcdjaa
open Go.RowKit
set_option linter.unusedVariables false
set_option linter.unusedSimpArgs false


/-- What step comes to, told as one. -/
def Ln.Got2 (w : World) (n : Ln.Mod) (ok : Bool) (e : Ending) (w' : World) : Prop :=
  Below w.heap.size w w' ∧ ∃ (A8 : Option Addr) (l8 c8 : Nat), e = .returned (.tuple #[.agg #[.int .i64 n.base, .int .i64 n.first, .int .i64 n.durable, .int .i64 n.next, .int .i64 n.limit, .slice A8 l8 c8, .bool n.failed, .bool n.closed], .bool ok]) ∧ (ok = true → Ln.Recs 0 w' (.slice A8 l8 c8) n.recs)
def Ln.putK (k : Ln.Key) (p : Ln.Past) (m n : Ln.Mod) (i : Nat) : Ln.Key := ⟨k.set ||| 1 <<< i, if p.fin = 0 ∧ m.next < n.next then k.lsns.set i m.next else k.lsns⟩
def Ln.PutGo (w : World) (n : Ln.Mod) (ok : Bool) (l : Ln.Key) (e : Ending) (w' : World) : Prop :=
  Below w.heap.size w w' ∧ ∃ (A8 : Option Addr) (l8 c8 : Nat), e = .returned (.tuple #[.agg #[.int .i64 n.base, .int .i64 n.first, .int .i64 n.durable, .int .i64 n.next, .int .i64 n.limit, .slice A8 l8 c8, .bool n.failed, .bool n.closed], .agg (Ln.kc l), .bool ok]) ∧ (ok = true → Ln.Recs 0 w' (.slice A8 l8 c8) n.recs)
def Ln.Mid3 (w5 wx : World) (n : Ln.Mod) (ok : Bool) (s11 s12 : Value) : Prop :=
  ∃ (R : Nat) (A8 : Option Addr) (l8 c8 : Nat), s11 = .pointer (some ⟨R, 0, none⟩) ∧ s12 = .bool ok ∧ w5.heap.size ≤ R ∧ Below w5.heap.size w5 wx ∧ wx.heap[R]? = some (.cells #[.int .i64 n.base, .int .i64 n.first, .int .i64 n.durable, .int .i64 n.next, .int .i64 n.limit, .slice A8 l8 c8, .bool n.failed, .bool n.closed] 71 (0, 0)) ∧ (ok = true → Ln.Recs 0 wx (.slice A8 l8 c8) n.recs)
theorem Ln.und {w5 w8 : World} (h : Below w5.drew.drew.heap.size w5.drew.drew w8) : Below w5.heap.size w5 w8 := ⟨h.os, h.tape, h.output, h.size, h.block⟩
theorem Ln.call_a {w5 w8 : World} (h : Below w5.drew.drew.heap.size w5.drew.drew w8) : w5.heap.size ≤ w8.heap.size := h.size
theorem Ln.call_blk {w5 w8 : World} {a : Array Value} (h : Below (w5.alloc (.cells a 71)).drew.drew.heap.size (w5.alloc (.cells a 71)).drew.drew w8) : w8.heap[w5.heap.size]? = some (.cells a 71 (0, 0)) :=
  Qu.blk_below (heap_alloc_new w5 (.cells a 71)) (Ln.und h)
theorem Ln.call_b {w5 w8 : World} {a0 a1 a2 a3 a4 a5 a6 a7 : Value} (h : Below (w5.alloc (.cells #[a0, a1, a2, a3, a4, a5, a6, a7] 71)).drew.drew.heap.size (w5.alloc (.cells #[a0, a1, a2, a3, a4, a5, a6, a7] 71)).drew.drew w8) :
    w8.cell? ⟨w5.heap.size, 0, none⟩ = some a0 ∧ w8.cell? ⟨w5.heap.size, 1, none⟩ = some a1 ∧ w8.cell? ⟨w5.heap.size, 2, none⟩ = some a2 ∧ w8.cell? ⟨w5.heap.size, 3, none⟩ = some a3 ∧ w8.cell? ⟨w5.heap.size, 4, none⟩ = some a4 ∧ w8.cell? ⟨w5.heap.size, 5, none⟩ = some a5 ∧ w8.cell? ⟨w5.heap.size, 6, none⟩ = some a6 ∧ w8.cell? ⟨w5.heap.size, 7, none⟩ = some a7 :=
  ⟨Qu.blk_cell (Ln.call_blk h) 0, Qu.blk_cell (Ln.call_blk h) 1, Qu.blk_cell (Ln.call_blk h) 2, Qu.blk_cell (Ln.call_blk h) 3, Qu.blk_cell (Ln.call_blk h) 4, Qu.blk_cell (Ln.call_blk h) 5, Qu.blk_cell (Ln.call_blk h) 6, Qu.blk_cell (Ln.call_blk h) 7⟩
theorem Ln.call_f {w5 w8 : World} {a : Array Value} (h : Below (w5.alloc (.cells a 71)).drew.drew.heap.size (w5.alloc (.cells a 71)).drew.drew w8) :
    w8.frozen? ⟨w5.heap.size, 0, none⟩ = false ∧ w8.frozen? ⟨w5.heap.size, 1, none⟩ = false ∧ w8.frozen? ⟨w5.heap.size, 2, none⟩ = false ∧ w8.frozen? ⟨w5.heap.size, 3, none⟩ = false ∧ w8.frozen? ⟨w5.heap.size, 4, none⟩ = false ∧ w8.frozen? ⟨w5.heap.size, 5, none⟩ = false ∧ w8.frozen? ⟨w5.heap.size, 6, none⟩ = false ∧ w8.frozen? ⟨w5.heap.size, 7, none⟩ = false :=
  ⟨Qu.blk_frozen (Ln.call_blk h) 0, Qu.blk_frozen (Ln.call_blk h) 1, Qu.blk_frozen (Ln.call_blk h) 2, Qu.blk_frozen (Ln.call_blk h) 3, Qu.blk_frozen (Ln.call_blk h) 4, Qu.blk_frozen (Ln.call_blk h) 5, Qu.blk_frozen (Ln.call_blk h) 6, Qu.blk_frozen (Ln.call_blk h) 7⟩
/-- The records stay where only other blocks are written. -/
theorem Ln.Recs.keep5 {B : Nat} {w w' : World} {v : Value} {rs : List (List UInt8)} (h : Ln.Recs B w v rs) (hb : ∀ (i : Nat) (cs : Array Value) (t : TypeId) (f : Nat × Nat), w.heap[i]? = some (.cells cs t f) → t = 60 ∨ t = 5 → w'.heap[i]? = w.heap[i]?) : Ln.Recs B w' v rs := by
  obtain ⟨xs, h1, h2⟩ := h
  exact ⟨xs, Ln.own_keep h1 (fun i cs f h => hb i cs _ f h (.inl rfl)), fun i hi => Ln.own_keep (h2 i hi) (fun i cs f h => hb i cs _ f h (.inr rfl))⟩
theorem Ln.Recs.one {B b : Nat} {w w' : World} {v : Value} {rs : List (List UInt8)} {cs : Array Value} {t : TypeId} {f : Nat × Nat} (h : Ln.Recs B w v rs) (hb : w.heap[b]? = some (.cells cs t f)) (ht : t ≠ 60 ∧ t ≠ 5) (ho : ∀ i, i ≠ b → w'.heap[i]? = w.heap[i]?) : Ln.Recs B w' v rs :=
  h.keep5 fun i cs2 t2 f2 hi h2 => ho i (fun e => by
    subst e
    rw [hb] at hi
    injection hi with hi
    injection hi with _ hi
    subst hi
    rcases h2 with h2 | h2
    · exact ht.1 h2
    · exact ht.2 h2)
/-- A row of eight written cell by cell. -/
theorem Ln.row8 {w : World} {b : Nat} {t : TypeId} {z0 z1 z2 z3 z4 z5 z6 z7 : Value} (x0 x1 x2 x3 x4 x5 x6 x7 : Value) (h : w.heap[b]? = some (.cells #[z0, z1, z2, z3, z4, z5, z6, z7] t (0, 0))) :
    ((((((((w.setCell ⟨b, 0, none⟩ x0).setCell ⟨b, 1, none⟩ x1).setCell ⟨b, 2, none⟩ x2).setCell ⟨b, 3, none⟩ x3).setCell ⟨b, 4, none⟩ x4).setCell ⟨b, 5, none⟩ x5).setCell ⟨b, 6, none⟩ x6).setCell ⟨b, 7, none⟩ x7).heap[b]? = some (.cells #[x0, x1, x2, x3, x4, x5, x6, x7] t (0, 0)) ∧ (∀ i, i ≠ b → ((((((((w.setCell ⟨b, 0, none⟩ x0).setCell ⟨b, 1, none⟩ x1).setCell ⟨b, 2, none⟩ x2).setCell ⟨b, 3, none⟩ x3).setCell ⟨b, 4, none⟩ x4).setCell ⟨b, 5, none⟩ x5).setCell ⟨b, 6, none⟩ x6).setCell ⟨b, 7, none⟩ x7).heap[i]? = w.heap[i]?) ∧ ∀ (B : Nat) (w0 : World), Below B w0 w → B ≤ b → Below B w0 ((((((((w.setCell ⟨b, 0, none⟩ x0).setCell ⟨b, 1, none⟩ x1).setCell ⟨b, 2, none⟩ x2).setCell ⟨b, 3, none⟩ x3).setCell ⟨b, 4, none⟩ x4).setCell ⟨b, 5, none⟩ x5).setCell ⟨b, 6, none⟩ x6).setCell ⟨b, 7, none⟩ x7) := by
  refine ⟨?_, fun i hi => ?_, fun B w0 h0 h1 => ?_⟩
  · have h2 := (Qu.blk_set (Qu.blk_set (Qu.blk_set (Qu.blk_set (Qu.blk_set (Qu.blk_set (Qu.blk_set (Qu.blk_set h 0 x0) 1 x1) 2 x2) 3 x3) 4 x4) 5 x5) 6 x6) 7 x7)
    simpa using h2
  · iterate 8 rw [Below.heap_setCell _ _ _ _ (show i ≠ _ from hi)]
  · iterate 8 refine Ln.below_set ?_ h1 _ _
    exact h0
theorem Ln.mid3_a {w5 w8 : World} {n : Ln.Mod} {ok : Bool} {A8 : Option Addr} {l8 c8 : Nat} (hb8 : Below w5.drew.drew.heap.size w5.drew.drew w8) (hrec8 : ok = true → Ln.Recs 0 w8 (.slice A8 l8 c8) n.recs) :
    Ln.Mid3 w5 (w8.alloc (Obj.cells #[.int .i64 n.base, .int .i64 n.first, .int .i64 n.durable, .int .i64 n.next, .int .i64 n.limit, .slice A8 l8 c8, .bool n.failed, .bool n.closed] 71)) n ok (Value.pointer (some ⟨w8.heap.size, 0, none⟩)) (Value.bool ok) :=
  ⟨w8.heap.size, A8, l8, c8, rfl, rfl, hb8.size, (Ln.und hb8).alloc hb8.size _, heap_alloc_new _ _, fun h => (hrec8 h).below ((Below.refl _ _).alloc (Nat.le_refl _) _)⟩
theorem Ln.mid3_b {w5 w8 : World} {n : Ln.Mod} {ok : Bool} {A8 : Option Addr} {l8 c8 : Nat} {z0 z1 z2 z3 z4 z5 z6 z7 : Value} (hb8 : Below (w5.alloc (.cells #[z0, z1, z2, z3, z4, z5, z6, z7] 71)).drew.drew.heap.size (w5.alloc (.cells #[z0, z1, z2, z3, z4, z5, z6, z7] 71)).drew.drew w8) (hrec8 : ok = true → Ln.Recs 0 w8 (.slice A8 l8 c8) n.recs) :
    Ln.Mid3 w5 ((((((((w8.setCell ⟨w5.heap.size, 0, none⟩ (Value.int IntKind.i64 n.base)).setCell ⟨w5.heap.size, 1, none⟩ (Value.int IntKind.i64 n.first)).setCell ⟨w5.heap.size, 2, none⟩ (Value.int IntKind.i64 n.durable)).setCell ⟨w5.heap.size, 3, none⟩ (Value.int IntKind.i64 n.next)).setCell ⟨w5.heap.size, 4, none⟩ (Value.int IntKind.i64 n.limit)).setCell ⟨w5.heap.size, 5, none⟩ (Value.slice A8 l8 c8)).setCell ⟨w5.heap.size, 6, none⟩ (Value.bool n.failed)).setCell ⟨w5.heap.size, 7, none⟩ (Value.bool n.closed)) n ok (Value.pointer (some ⟨w5.heap.size, 0, none⟩)) (Value.bool ok) := by
  have hk := Ln.call_blk hb8
  obtain ⟨h1, h2, h3⟩ := Ln.row8 (Value.int IntKind.i64 n.base) (Value.int IntKind.i64 n.first) (Value.int IntKind.i64 n.durable) (Value.int IntKind.i64 n.next) (Value.int IntKind.i64 n.limit) (Value.slice A8 l8 c8) (Value.bool n.failed) (Value.bool n.closed) hk
  refine ⟨w5.heap.size, A8, l8, c8, rfl, rfl, Nat.le_refl _, h3 _ _ ?_ (Nat.le_refl _), h1, fun h => (hrec8 h).one hk (by decide) h2⟩
  exact (Ln.below_alloc _ w5 (Nat.le_refl _) _).trans ((Ln.und hb8).mono (by simp))

end Go.Proofs.Ytgdeoodihhcdjaa
