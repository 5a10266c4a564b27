/- The search struct while it is at work. -/
import Derived.Test.YtgdeoodihhcdjaaNm
namespace Go.Proofs.Ytgdeoodihhcdjaa
open Go.RowKit
set_option linter.unusedVariables false
set_option linter.unusedSimpArgs false


theorem Try.info3 : (Try.prog.info? 3).map (fun i => (i.zero, i.size, i.bytes)) = some (some (.int .i64 0), 1, 8) := by kernel_rfl
def Ln.nats (xs : List Nat) : List Value := xs.map fun (x : Nat) => Value.int .i64 (x : Int)
theorem Ln.nats_len (xs : List Nat) : (Ln.nats xs).length = xs.length := by simp [Ln.nats]
/-- The search at work: w0 is the world where it began. -/
structure Ln.Srch (w0 w : World) (sb mb bb : Nat) (A : Option Addr) (cp : Nat) (ps : List Ln.Past) (st : Ln.St) (OV : Value) : Prop where
  low : Below w0.heap.size w0 w
  sch : Ln.Sch w sb mb bb A cp ps OV st.most
  own : w.ownsRow w0.heap.size 3 1 OV st.order.length (Ln.nats st.order)
  keys : Ln.Kys w mb st.tried
  hs : w0.heap.size ≤ sb
  hm : w0.heap.size ≤ mb
/-- What the search leaves as it is: every block but its own struct, the order's row, the map. -/
structure Ln.Fz (w w' : World) : Prop where
  size : w.heap.size ≤ w'.heap.size
  kp : ∀ (i : Nat) (cs : Array Value) (t : TypeId) (f : Nat × Nat), w.heap[i]? = some (.cells cs t f) → t ≠ 108 → t ≠ 3 → w'.heap[i]? = some (.cells cs t f)
theorem Ln.Fz.refl (w : World) : Ln.Fz w w := ⟨Nat.le_refl _, fun _ _ _ _ h _ _ => h⟩
theorem Ln.Fz.trans {w w1 w2 : World} (h : Ln.Fz w w1) (k : Ln.Fz w1 w2) : Ln.Fz w w2 := ⟨Nat.le_trans h.size k.size, fun i cs t f hi h1 h2 => k.kp i cs t f (h.kp i cs t f hi h1 h2) h1 h2⟩
theorem Ln.Fz.of_below {w w1 : World} (h : Below w.heap.size w w1) : Ln.Fz w w1 := ⟨h.size, fun i cs t f hi _ _ => Qu.blk_below hi h⟩
theorem Ln.Fz.set {w w1 : World} (h : Ln.Fz w w1) {sb : Nat} {cs : Array Value} {f : Nat × Nat} (hs : w1.heap[sb]? = some (.cells cs 108 f)) (j : Nat) (u : Value) : Ln.Fz w (w1.setCell ⟨sb, j, none⟩ u) :=
  ⟨by simpa using h.size, fun i cs2 t f2 hi h1 h2 => by
    have hk := h.kp i cs2 t f2 hi h1 h2
    rw [Below.heap_setCell _ _ _ _ (show i ≠ sb from fun e => ?_)]
    · exact hk
    · subst e
      rw [hk] at hs
      injection hs with hs
      injection hs with _ hs
      exact h1 hs⟩
theorem Ln.Fz.recs {w w1 : World} (h : Ln.Fz w w1) {B : Nat} {v : Value} {rs : List (List UInt8)} (hr : Ln.Recs B w v rs) : Ln.Recs B w1 v rs :=
  hr.keep5 fun i cs t f hi ht => (h.kp i cs t f hi (by rcases ht with rfl | rfl <;> decide) (by rcases ht with rfl | rfl <;> decide)).trans hi.symm
theorem Ln.Fz.mod {w w1 : World} (h : Ln.Fz w w1) {v : Value} {m : Ln.Mod} (hm : Ln.ModAt w v m) : Ln.ModAt w1 v m := by
  obtain ⟨rv, rfl, hr⟩ := hm
  exact ⟨rv, rfl, h.recs hr⟩
/-- A call that makes new blocks alone. -/
theorem Ln.Srch.below {w0 w w1 : World} {sb mb bb : Nat} {A : Option Addr} {cp : Nat} {ps : List Ln.Past} {st : Ln.St} {OV : Value} (h : Ln.Srch w0 w sb mb bb A cp ps st OV) (hb : Below w.heap.size w w1) : Ln.Srch w0 w1 sb mb bb A cp ps st OV :=
  ⟨h.low.trans (hb.mono h.low.size), ⟨Qu.blk_below h.sch.1 hb, Qu.blk_below h.sch.2 hb⟩, Ln.own_keep h.own (fun i cs f hi => hb.block i (Qu.blk_lt hi)), h.keys.keep (hb.block mb h.keys.lt), h.hs, h.hm⟩
/-- Behind seen. -/
theorem Ln.Srch.seen {w0 w w1 : World} {sb mb bb : Nat} {A : Option Addr} {cp : Nat} {ps : List Ln.Past} {st : Ln.St} {OV : Value} (h : Ln.Srch w0 w sb mb bb A cp ps st OV) (hf : Qu.Fr (fun i => i = mb) w w1) (ts : List Ln.Key) (hk : Ln.Kys w1 mb ts) :
    Ln.Srch w0 w1 sb mb bb A cp ps { st with tried := ts } OV ∧ Ln.Fz w w1 := by
  have key : ∀ (i : Nat) (cs : Array Value) (t : TypeId) (f : Nat × Nat), w.heap[i]? = some (.cells cs t f) → w1.heap[i]? = w.heap[i]? := fun i cs t f hi => hf.block i (Qu.blk_lt hi) (fun e => h.keys.ne hi e)
  refine ⟨⟨h.low.trans (hf.below h.low.size (fun i hi => by rw [hi]; exact h.hm)), ⟨(key _ _ _ _ h.sch.1).trans h.sch.1, (key _ _ _ _ h.sch.2).trans h.sch.2⟩, Ln.own_keep h.own (fun i cs f hi => key i cs _ f hi), hk, h.hs, h.hm⟩, ⟨hf.size, fun i cs t f hi _ _ => (key i cs t f hi).trans hi⟩⟩
theorem Ln.Srch.sbne {w0 w : World} {sb mb bb : Nat} {A : Option Addr} {cp : Nat} {ps : List Ln.Past} {st : Ln.St} {OV : Value} (h : Ln.Srch w0 w sb mb bb A cp ps st OV) : mb ≠ sb := fun e => h.keys.ne h.sch.1 e.symm
/-- The order is written anew. -/
theorem Ln.Srch.order {w0 w w1 : World} {sb mb bb : Nat} {A : Option Addr} {cp : Nat} {ps : List Ln.Past} {st : Ln.St} {OV OV1 : Value} (h : Ln.Srch w0 w sb mb bb A cp ps st OV) (hg : w.grownBy w1 OV.ownBlock) (xs : List Nat)
    (ho : w1.ownsRow w0.heap.size 3 1 OV1 xs.length (Ln.nats xs)) : Ln.Srch w0 (w1.setCell ⟨sb, 4, none⟩ OV1) sb mb bb A cp ps { st with order := xs } OV1 ∧ Ln.Fz w (w1.setCell ⟨sb, 4, none⟩ OV1) := by
  have hblk : ∀ (i : Nat) (cs : Array Value) (t : TypeId) (f : Nat × Nat), w.heap[i]? = some (.cells cs t f) → t ≠ 3 → w1.heap[i]? = some (.cells cs t f) := fun i cs t f hi ht => (hg.block i (Qu.blk_lt hi) (fun e => by
      rcases h.own.2 with ⟨h1, _⟩ | ⟨g, cap, cur, h1, _, h3, _⟩
      · rw [h1] at e; cases e
      · rw [h1] at e
        injection e with e
        have e : g = i := e.symm
        subst e
        rw [hi] at h3
        injection h3 with h3
        injection h3 with _ h3
        exact ht h3)).trans hi
  have hs1 := hblk _ _ _ _ h.sch.1 (by decide)
  have hb1 := hblk _ _ _ _ h.sch.2 (by decide)
  have hmb1 : w1.heap[mb]? = w.heap[mb]? := hg.block mb h.keys.lt (fun e => by
      rcases h.own.2 with ⟨h1, _⟩ | ⟨g, cap, cur, h1, _, h3, _⟩
      · rw [h1] at e; cases e
      · rw [h1] at e
        injection e with e
        have e : g = mb := e.symm
        subst e
        exact h.keys.ne h3 rfl)
  have hlow1 : Below w0.heap.size w0 w1 := ⟨hg.os.trans h.low.os, hg.tape.trans h.low.tape, hg.output.trans h.low.output, Nat.le_trans h.low.size hg.size, fun i hi => (hg.block i (Nat.lt_of_lt_of_le hi h.low.size) (fun e => by
      rcases h.own.2 with ⟨h1, _⟩ | ⟨g, cap, cur, h1, h2, h3, _⟩
      · rw [h1] at e; cases e
      · rw [h1] at e
        injection e with e
        have e : g = i := e.symm
        omega)).trans (h.low.block i hi)⟩
  have hne : bb ≠ sb := fun e => by
    have h1 := h.sch.1
    have h2 := h.sch.2
    rw [e] at h2
    rw [h1] at h2
    injection h2 with h2
    injection h2 with _ h2
    cases h2
  refine ⟨⟨Ln.below_set hlow1 h.hs 4 OV1, ⟨?_, ?_⟩, ?_, (h.keys.keep hmb1).keep (Below.heap_setCell _ _ _ _ (show mb ≠ sb from h.sbne)), h.hs, h.hm⟩, ?_⟩
  · have := Qu.blk_set hs1 4 OV1
    simpa using this
  · rw [Below.heap_setCell _ _ _ _ (show bb ≠ sb from hne)]
    exact hb1
  · exact Ln.own_keep ho (fun i cs f hi => Below.heap_setCell _ _ _ _ (fun e => by
      have e : i = sb := e
      subst e
      rw [hs1] at hi
      injection hi with hi
      injection hi with _ hi
      cases hi))
  · exact Ln.Fz.set ⟨hg.size, fun i cs t f hi _ h2 => hblk i cs t f hi h2⟩ hs1 4 OV1
/-- most is written anew. -/
theorem Ln.Srch.far {w0 w : World} {sb mb bb : Nat} {A : Option Addr} {cp : Nat} {ps : List Ln.Past} {st : Ln.St} {OV : Value} (h : Ln.Srch w0 w sb mb bb A cp ps st OV) (x : Int) :
    Ln.Srch w0 (w.setCell ⟨sb, 5, none⟩ (.int .i64 x)) sb mb bb A cp ps { st with most := x } OV ∧ Ln.Fz w (w.setCell ⟨sb, 5, none⟩ (.int .i64 x)) := by
  have hne : bb ≠ sb := fun e => by
    have h1 := h.sch.1
    have h2 := h.sch.2
    rw [e] at h2
    rw [h1] at h2
    injection h2 with h2
    injection h2 with _ h2
    cases h2
  refine ⟨⟨Ln.below_set h.low h.hs 5 _, ⟨?_, ?_⟩, ?_, h.keys.keep (Below.heap_setCell _ _ _ _ (show mb ≠ sb from h.sbne)), h.hs, h.hm⟩, (Ln.Fz.refl w).set h.sch.1 5 _⟩
  · have := Qu.blk_set h.sch.1 5 (.int .i64 x)
    simpa using this
  · rw [Below.heap_setCell _ _ _ _ (show bb ≠ sb from hne)]
    exact h.sch.2
  · exact Ln.own_keep h.own (fun i cs f hi => Below.heap_setCell _ _ _ _ (fun e => by
      have e : i = sb := e
      subst e
      rw [h.sch.1] at hi
      injection hi with hi
      injection hi with _ hi
      cases hi))

end Go.Proofs.Ytgdeoodihhcdjaa
