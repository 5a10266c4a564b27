/- The queue and the reference side by side. -/
import Derived.Test.YtgdeoodihhcdjaaRm
namespace Go.Proofs.Ytgdeoodihhcdjaa
open Go.RowKit
set_option linter.unusedVariables false
set_option linter.unusedSimpArgs false

/-- The queue in blocks of F, the reference beside it; all of it newer than the world w0. -/
structure Qu.Two (F : Nat → Prop) (w0 w : World) (sb mb rb c : Nat) (b : Int) (xs ys xs' ys' : List (Int × Int)) (B1 B2 : Option Nat) : Prop where
  q : Qu.Q F w sb mb c b xs ys
  r : Qu.RAt w rb c b xs' ys' B1 B2
  f : ∀ i, F i → w0.heap.size ≤ i ∧ i < w.heap.size
  nr : ¬ F rb
  n1 : ∀ i, B1 = some i → ¬ F i ∧ w0.heap.size ≤ i
  n2 : ∀ i, B2 = some i → ¬ F i ∧ w0.heap.size ≤ i
  rb0 : w0.heap.size ≤ rb
  below : Below w0.heap.size w0 w
theorem Qu.RAt.rlt {w : World} {rb c : Nat} {b : Int} {xs ys : List (Int × Int)} {B1 B2 : Option Nat} (h : Qu.RAt w rb c b xs ys B1 B2) : rb < w.heap.size ∧ (∀ i, B1 = some i → i < w.heap.size) ∧ (∀ i, B2 = some i → i < w.heap.size) := by
  obtain ⟨V1, V2, h1, h2, h3, h4⟩ := h
  exact ⟨Qu.blk_lt h1, h2.lt, h3.lt⟩
theorem Qu.RAt.keepR {w w' : World} {rb c : Nat} {b : Int} {xs ys : List (Int × Int)} {B1 B2 : Option Nat} (h : Qu.RAt w rb c b xs ys B1 B2) {S : Nat → Prop} (hf : Qu.Fr S w w') (h0 : ¬ S rb) (h1 : ∀ i, B1 = some i → ¬ S i) (h2 : ∀ i, B2 = some i → ¬ S i) : Qu.RAt w' rb c b xs ys B1 B2 := by
  obtain ⟨V1, V2, a1, a2, a3, a4⟩ := h
  exact ⟨V1, V2, Qu.blk_fr a1 hf h0, a2.keep (fun i hi => hf.block i (a2.lt i hi) (h1 i hi)), a3.keep (fun i hi => hf.block i (a3.lt i hi) (h2 i hi)), a4⟩
theorem Qu.Q.trim {F : Nat → Prop} {w : World} {sb mb c : Nat} {b : Int} {xs ys : List (Int × Int)} (h : Qu.Q F w sb mb c b xs ys) : Qu.Q (fun i => F i ∧ i < w.heap.size) w sb mb c b xs ys := by
  obtain ⟨R, LB, h1, h2, h3, h4, h5, h6⟩ := h
  have h1' := h1
  obtain ⟨L, k, LV, q1, q2, q3, q4⟩ := h1'
  exact ⟨R, LB, h1, h2, ⟨h3, Qu.blk_lt q1⟩, ⟨h4, h2.lt⟩, fun i hi => ⟨h5 i hi, q2.lt i hi⟩, fun i hi => ⟨h6 i hi, q3.lt i hi⟩⟩
def Qu.grow (F : Nat → Prop) (w w1 : World) : Nat → Prop := fun i => F i ∨ (w.heap.size ≤ i ∧ i < w1.heap.size)
/-- Behind a call of the queue's. -/
theorem Qu.Two.prog {F : Nat → Prop} {w0 w w1 : World} {sb mb rb c : Nat} {b : Int} {xs ys xs' ys' xs1 ys1 : List (Int × Int)} {B1 B2 : Option Nat} (h : Qu.Two F w0 w sb mb rb c b xs ys xs' ys' B1 B2)
    (hq : Qu.Q (fun i => F i ∨ w.heap.size ≤ i) w1 sb mb c b xs1 ys1) (hf : Qu.Fr F w w1) : Qu.Two (Qu.grow F w w1) w0 w1 sb mb rb c b xs1 ys1 xs' ys' B1 B2 := by
  obtain ⟨r0, r1, r2⟩ := h.r.rlt
  refine ⟨hq.trim.mono (fun i hi => ?_), h.r.keepR hf h.nr (fun i hi => (h.n1 i hi).1) (fun i hi => (h.n2 i hi).1), fun i hi => ?_, ?_, fun i hi => ⟨?_, (h.n1 i hi).2⟩, fun i hi => ⟨?_, (h.n2 i hi).2⟩, h.rb0, Qu.below_fr h.below hf (fun i hi => (h.f i hi).1) h.below.size⟩
  · rcases hi with ⟨h1 | h1, h2⟩
    · exact .inl h1
    · exact .inr ⟨h1, h2⟩
  · have := hf.size; have := h.below.size
    rcases hi with h1 | ⟨h1, h2⟩
    · obtain ⟨q1, q2⟩ := h.f i h1; omega
    · omega
  · rintro (h1 | ⟨h1, _⟩)
    · exact h.nr h1
    · omega
  · rintro (h1 | ⟨h1, _⟩)
    · exact (h.n1 i hi).1 h1
    · have := r1 i hi; omega
  · rintro (h1 | ⟨h1, _⟩)
    · exact (h.n2 i hi).1 h1
    · have := r2 i hi; omega
/-- Behind a call of the reference's. -/
theorem Qu.Two.ref {F : Nat → Prop} {w0 w w1 : World} {sb mb rb c : Nat} {b : Int} {xs ys xs' ys' xs1 ys1 : List (Int × Int)} {B1 B2 : Option Nat} (h : Qu.Two F w0 w sb mb rb c b xs ys xs' ys' B1 B2)
    (hr : Qu.RTo w rb c b B1 B2 xs1 ys1 w1) : (∃ C1 C2, Qu.Two F w0 w1 sb mb rb c b xs ys xs1 ys1 C1 C2) ∧ ∃ S, Qu.Fr S w w1 ∧ ∀ i, F i → ¬ S i := by
  obtain ⟨C1, C2, h1, h2, h3, h4⟩ := hr
  have hS : ∀ i, F i → ¬ (i = rb ∨ B1 = some i ∨ B2 = some i) := by
    rintro i hi (h5 | h5 | h5)
    · exact h.nr (h5 ▸ hi)
    · exact (h.n1 i h5).1 hi
    · exact (h.n2 i h5).1 hi
  refine ⟨⟨C1, C2, h.q.keep h2 hS, h1, fun i hi => ⟨(h.f i hi).1, Nat.lt_of_lt_of_le (h.f i hi).2 h2.size⟩, h.nr, ?_, ?_, h.rb0, Qu.below_fr h.below h2 ?_ h.below.size⟩, _, h2, hS⟩
  · intro i hi
    rcases h3 with h5 | h5
    · exact h.n1 i (h5 ▸ hi)
    · have := h5 i hi; have := h.below.size
      exact ⟨fun h6 => by have := h.f i h6; omega, by omega⟩
  · intro i hi
    rcases h4 with h5 | h5
    · exact h.n2 i (h5 ▸ hi)
    · have := h5 i hi; have := h.below.size
      exact ⟨fun h6 => by have := h.f i h6; omega, by omega⟩
  · rintro i (h5 | h5 | h5)
    · exact h5 ▸ h.rb0
    · exact (h.n1 i h5).2
    · exact (h.n2 i h5).2
end Go.Proofs.Ytgdeoodihhcdjaa
