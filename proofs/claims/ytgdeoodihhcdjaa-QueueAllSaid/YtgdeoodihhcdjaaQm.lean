/- The queue whole: what Put, Take, Look, Line, New do to it. And begun. -/
import Derived.Test.YtgdeoodihhcdjaaQl
namespace Go.Proofs.Ytgdeoodihhcdjaa
open Go.RowKit
set_option linter.unusedVariables false
set_option linter.unusedSimpArgs false

/-- What a queue's numbers keep to. -/
structure Qu.Ok (c : Nat) (b : Int) (xs ys : List (Int × Int)) : Prop where
  c0 : 0 < c
  c1 : c ≤ 1024
  b0 : 1 ≤ b
  b1 : b ≤ 16777216
  xl : xs.length ≤ c
  yl : ys.length ≤ 1024
  sum : Qu.sum xs ≤ b
  px : ∀ p ∈ xs, 0 ≤ p.2
  py : ∀ p ∈ ys, 0 ≤ p.2 ∧ p.2 ≤ b
  nd : ((xs ++ ys).map Prod.fst).Nodup
  wf : ∀ p ∈ xs ++ ys, Qu.In64 p.1
theorem Qu.Ok.sum0 {c : Nat} {b : Int} {xs ys : List (Int × Int)} (h : Qu.Ok c b xs ys) : 0 ≤ Qu.sum xs := Qu.sum_nonneg xs h.px
/-- A queue in the world w, in blocks of F. -/
def Qu.Q (F : Nat → Prop) (w : World) (sb mb c : Nat) (b : Int) (xs ys : List (Int × Int)) : Prop :=
  ∃ R LB, Qu.At w sb c b (Qu.sum xs) xs ys (.map (some mb)) R LB ∧ Qu.Keys w mb ((xs ++ ys).map Prod.fst) ∧ F sb ∧ F mb ∧ (∀ i, R = some i → F i) ∧ (∀ i, LB = some i → F i)
theorem Qu.Q.mono {F F' : Nat → Prop} {w : World} {sb mb c : Nat} {b : Int} {xs ys : List (Int × Int)} (h : Qu.Q F w sb mb c b xs ys) (hF : ∀ i, F i → F' i) : Qu.Q F' w sb mb c b xs ys := by
  obtain ⟨R, LB, h1, h2, h3, h4, h5, h6⟩ := h
  exact ⟨R, LB, h1, h2, hF _ h3, hF _ h4, fun i hi => hF i (h5 i hi), fun i hi => hF i (h6 i hi)⟩
theorem Qu.Q.keep {F S : Nat → Prop} {w w' : World} {sb mb c : Nat} {b : Int} {xs ys : List (Int × Int)} (h : Qu.Q F w sb mb c b xs ys) (hf : Qu.Fr S w w') (hS : ∀ i, F i → ¬ S i) : Qu.Q F w' sb mb c b xs ys := by
  obtain ⟨R, LB, h1, h2, h3, h4, h5, h6⟩ := h
  obtain ⟨L, k, LV, q1, q2, q3, q4⟩ := h1
  exact ⟨R, LB, ⟨L, k, LV, (hf.block _ (Qu.blk_lt q1) (hS _ h3)).trans q1, q2.keep (fun i hi => hf.block i (q2.lt i hi) (hS i (h5 i hi))), q3.keep (fun i hi => hf.block i (q3.lt i hi) (hS i (h6 i hi))), q4⟩, h2.keep (hf.block _ h2.lt (hS _ h4)), h3, h4, h5, h6⟩
theorem Qu.Q.below {F : Nat → Prop} {w w' : World} {sb mb c : Nat} {b : Int} {xs ys : List (Int × Int)} (h : Qu.Q F w sb mb c b xs ys) (hb : Below w.heap.size w w') : Qu.Q F w' sb mb c b xs ys :=
  h.keep (Qu.Fr.of_below (S := fun _ => False) hb) (fun _ _ h => h)

theorem new_Q (c : Nat) (b : Int) (w : World) (hc0 : 0 < c) (hc : c ≤ 1024) (hb0 : 1 ≤ b) (hb1 : b ≤ 16777216) : Calls Try.prog 9 #[.int .i64 c, .int .i64 b] w fun e w' => ∃ sb mb, e = .returned (.tuple #[.pointer (some ⟨sb, 0, none⟩), .int .i64 0]) ∧
    Qu.Q (fun i => w.heap.size ≤ i) w' sb mb c b [] [] ∧ Below w.heap.size w w' :=
  (new_yes c b w hc0 hc hb0 hb1).mono fun _ _ ⟨sb, mb, he, h1, h2, h3, h4, h5⟩ => ⟨sb, mb, he, ⟨none, none, h1, h2, h4, h5, (fun i h => by cases h), (fun i h => by cases h)⟩, h3⟩

theorem put_Q (F : Nat → Prop) (sb mb c : Nat) (b : Int) (xs ys : List (Int × Int)) (id size : Int) (w : World) (h : Qu.Q F w sb mb c b xs ys) (hok : Qu.Ok c b xs ys) (h64 : Qu.In64 id) :
    Calls Try.prog 10 #[.pointer (some ⟨sb, 0, none⟩), .int .i64 id, .int .i64 size] w fun e w' => e = .returned (.tuple #[.bool (Qu.putF c b xs ys id size).1, .int .i64 (Qu.putF c b xs ys id size).2.1]) ∧
      Qu.Q (fun i => F i ∨ w.heap.size ≤ i) w' sb mb c b (Qu.putF c b xs ys id size).2.2.1 (Qu.putF c b xs ys id size).2.2.2 ∧ Qu.Fr F w w' := by
  obtain ⟨R, LB, h1, h2, h3, h4, h5, h6⟩ := h
  have hb0 := hok.b0
  have hb1 := hok.b1
  refine (put_any sb c b xs ys mb R LB id size w hok.c0 hok.c1 ⟨by omega, by omega⟩ h1 h2 hok.xl ⟨hok.sum0, hok.sum⟩ hok.yl h64).mono ?_
  rintro e w' ⟨he, R', LB', q1, q2, q3, q4, q5⟩
  refine ⟨he, ⟨R', LB', q1, q2, .inl h3, .inl h4, ?_, ?_⟩, q3.mono ?_⟩
  · intro i hi
    rcases q4 with h | ⟨j, h, hj⟩
    · exact .inl (h5 i (h ▸ hi))
    · rw [h] at hi; injection hi with hi; exact .inr (by omega)
  · intro i hi
    rcases q5 with h | ⟨j, h, hj⟩
    · exact .inl (h6 i (h ▸ hi))
    · rw [h] at hi; injection hi with hi; exact .inr (by omega)
  · rintro k _ (h | h | h | h)
    · exact h ▸ h3
    · exact h5 k h
    · exact h6 k h
    · exact h ▸ h4

theorem take_Q (F : Nat → Prop) (sb mb c : Nat) (b : Int) (xs ys : List (Int × Int)) (most bytes : Int) (w : World) (h : Qu.Q F w sb mb c b xs ys) (hok : Qu.Ok c b xs ys) (G : List (Int × Int) × List (Int × Int)) (hG : G = Qu.takeF most bytes [] 0 xs)
    (E : List (Int × Int) × List (Int × Int) × Int × List Int) (hE : E = Qu.enterF c b G.2 ys (Qu.sum G.2)) (hsum : E.2.2.1 = Qu.sum E.1) (hkeys : G.2 ++ ys = E.1 ++ E.2.1) :
    Calls Try.prog 11 #[.pointer (some ⟨sb, 0, none⟩), .int .i64 most, .int .i64 bytes] w fun e w' => ∃ v1 v2, e = .returned (.tuple #[v1, v2]) ∧
      w'.ownsRow w.heap.size 38 2 v1 G.1.length (Qu.enc G.1) ∧ w'.ownsRow w.heap.size 2 1 v2 E.2.2.2.length (Qu.ints E.2.2.2) ∧
      Qu.Q (fun i => F i ∨ w.heap.size ≤ i) w' sb mb c b E.1 E.2.1 ∧ Qu.Fr F w w' := by
  obtain ⟨R, LB, h1, h2, h3, h4, h5, h6⟩ := h
  have hb0 := hok.b0
  have hb1 := hok.b1
  have hyl := hok.yl
  refine (take_any sb c b xs ys mb R LB most bytes w hok.c0 hok.c1 (by omega) h1 h2 hok.xl hok.sum hok.px hok.py (by omega) hok.nd (fun p hp => hok.wf p (by simp [hp]))).mono ?_
  rintro e w' ⟨v1, v2, he, R', q1, q2, q3, q4, q5, q6⟩
  rw [← hG] at q1 q2 q3 q4
  rw [← hE] at q1 q4
  rw [hsum] at q1
  rw [hkeys] at q2
  refine ⟨v1, v2, he, q3, q4, ⟨R', LB, q1, q2, .inl h3, .inl h4, ?_, fun i hi => .inl (h6 i hi)⟩, q5.mono ?_⟩
  · intro i hi
    rcases q6 with h | ⟨j, h, hj⟩
    · exact .inl (h5 i (h ▸ hi))
    · rw [h] at hi; injection hi with hi; exact .inr (by omega)
  · rintro k _ (h | h | h)
    · exact h ▸ h3
    · exact h5 k h
    · exact h ▸ h4
theorem look_Q (F : Nat → Prop) (sb mb c : Nat) (b : Int) (xs ys : List (Int × Int)) (w : World) (h : Qu.Q F w sb mb c b xs ys) (hok : Qu.Ok c b xs ys) :
    Calls Try.prog 12 #[.pointer (some ⟨sb, 0, none⟩)] w fun e w' => e = .returned (.agg #[.int .i64 xs.length, .int .i64 (Qu.sum xs), .int .i64 ys.length]) ∧ Below w.heap.size w w' := by
  obtain ⟨R, LB, h1, h2, h3, h4, h5, h6⟩ := h
  have := hok.xl
  have := hok.yl
  have := hok.c1
  exact look_any sb c b _ xs ys _ R LB w hok.c0 h1 (by omega) (by omega)
theorem line_Q (F : Nat → Prop) (sb mb c : Nat) (b : Int) (xs ys : List (Int × Int)) (w : World) (h : Qu.Q F w sb mb c b xs ys) (hok : Qu.Ok c b xs ys) :
    Calls Try.prog 13 #[.pointer (some ⟨sb, 0, none⟩)] w fun e w' => ∃ v, e = .returned v ∧ w'.ownsRow w.heap.size 38 2 v ys.length (Qu.enc ys) ∧ Below w.heap.size w w' := by
  obtain ⟨R, LB, h1, h2, h3, h4, h5, h6⟩ := h
  have := hok.yl
  exact line_any sb c b _ xs ys _ R LB w hok.c0 h1 (by omega)

/-! ### what Put, Take, enter keep -/
theorem Qu.enterF_keeps (c : Nat) (b : Int) : ∀ (ys xs : List (Int × Int)) (u : Int), u = Qu.sum xs → (Qu.enterF c b xs ys u).2.2.1 = Qu.sum (Qu.enterF c b xs ys u).1 ∧ xs ++ ys = (Qu.enterF c b xs ys u).1 ++ (Qu.enterF c b xs ys u).2.1 ∧
    ((xs.length ≤ c ∧ u ≤ b) → (Qu.enterF c b xs ys u).1.length ≤ c ∧ Qu.sum (Qu.enterF c b xs ys u).1 ≤ b) ∧ (Qu.enterF c b xs ys u).2.1.length ≤ ys.length
  | [], xs, u, hu => by simp [Qu.enterF, hu]
  | p :: ys, xs, u, hu => by
    rw [Qu.enterF]
    by_cases h : Qu.roomB xs.length c p.2 b u = true
    · rw [if_pos h]
      simp only [Qu.roomB, Bool.and_eq_true, decide_eq_true_eq] at h
      obtain ⟨h1, h2, h3, h4⟩ := Qu.enterF_keeps c b ys (xs ++ [p]) (u + p.2) (by rw [Qu.sum_append, Qu.sum_cons, Qu.sum_nil]; omega)
      refine ⟨h1, by rw [← h2]; simp, fun _ => h3 ⟨by simp; omega, by omega⟩, by simp; omega⟩
    · rw [if_neg h]
      exact ⟨hu, rfl, fun h => ⟨h.1, hu ▸ h.2⟩, Nat.le_refl _⟩
theorem Qu.takeF_split (most bytes : Int) : ∀ (xs out : List (Int × Int)) (size : Int), (Qu.takeF most bytes out size xs).1 ++ (Qu.takeF most bytes out size xs).2 = out ++ xs
  | [], out, size => by simp [Qu.takeF]
  | p :: xs, out, size => by
    rw [Qu.takeF]
    split
    · split
      · rfl
      · rw [Qu.takeF_split most bytes xs]; simp
    · rfl
theorem Qu.Ok.put {c : Nat} {b : Int} {xs ys : List (Int × Int)} (h : Qu.Ok c b xs ys) (id size : Int) (h64 : Qu.In64 id) : Qu.Ok c b (Qu.putF c b xs ys id size).2.2.1 (Qu.putF c b xs ys id size).2.2.2 := by
  unfold Qu.putF
  split
  · exact h
  split
  · exact h
  split
  · exact h
  split
  · exact h
  rename_i h1 h2 h3 h4
  have hnd := h.nd
  split
  · rename_i h5
    obtain ⟨h5, h6⟩ := h5
    obtain rfl : ys = [] := List.eq_nil_of_length_eq_zero h5
    simp only [Qu.roomB, Bool.and_eq_true, decide_eq_true_eq] at h6
    refine ⟨h.c0, h.c1, h.b0, h.b1, by simp; omega, by simp, by rw [Qu.sum_append, Qu.sum_cons, Qu.sum_nil]; simp; omega, ?_, by simp, ?_, ?_⟩
    · intro p hp
      simp at hp
      rcases hp with hp | rfl
      · exact h.px p hp
      · simp; omega
    · simp only [List.append_nil, List.map_append, List.map_cons, List.map_nil] at hnd h3 ⊢
      rw [List.nodup_append]
      exact ⟨hnd, by simp, by intro a ha b hb; simp at hb; subst hb; rintro rfl; exact h3 ha⟩
    · intro p hp
      simp at hp
      rcases hp with hp | rfl
      · exact h.wf p (by simp [hp])
      · exact h64
  · refine ⟨h.c0, h.c1, h.b0, h.b1, h.xl, by simp; omega, h.sum, h.px, ?_, ?_, ?_⟩
    · intro p hp
      simp at hp
      rcases hp with hp | rfl
      · exact h.py p hp
      · simp; omega
    · rw [← List.append_assoc, List.map_append, List.nodup_append]
      exact ⟨hnd, by simp, by intro a ha b hb; simp at hb; subst hb; rintro rfl; exact h3 ha⟩
    · intro p hp
      rw [← List.append_assoc, List.mem_append] at hp
      rcases hp with hp | hp
      · exact h.wf p hp
      · simp at hp; subst hp; exact h64
theorem Qu.Ok.take {c : Nat} {b : Int} {xs ys : List (Int × Int)} (h : Qu.Ok c b xs ys) (most bytes : Int) : Qu.Ok c b (Qu.enterF c b (Qu.takeF most bytes [] 0 xs).2 ys (Qu.sum (Qu.takeF most bytes [] 0 xs).2)).1 (Qu.enterF c b (Qu.takeF most bytes [] 0 xs).2 ys (Qu.sum (Qu.takeF most bytes [] 0 xs).2)).2.1 := by
  have hs := Qu.takeF_split most bytes xs [] 0
  generalize Qu.takeF most bytes [] 0 xs = G at hs ⊢
  simp only [List.nil_append] at hs
  obtain ⟨h1, h2, h3, h4⟩ := Qu.enterF_keeps c b ys G.2 (Qu.sum G.2) rfl
  generalize Qu.enterF c b G.2 ys (Qu.sum G.2) = E at h1 h2 h3 h4 ⊢
  have hpg : ∀ p ∈ G.2, 0 ≤ p.2 := fun p hp => h.px p (by rw [← hs]; simp [hp])
  have hsg : 0 ≤ Qu.sum G.1 := Qu.sum_nonneg _ (fun p hp => h.px p (by rw [← hs]; simp [hp]))
  have hsum := h.sum
  rw [← hs, Qu.sum_append] at hsum
  have hlen := h.xl
  rw [← hs, List.length_append] at hlen
  obtain ⟨h5, h6⟩ := h3 ⟨by omega, by omega⟩
  have hnd := h.nd
  rw [← hs, List.append_assoc, h2, List.map_append] at hnd
  have hmem : ∀ p ∈ E.1 ++ E.2.1, p ∈ G.2 ++ ys := fun p hp => by rw [h2]; exact hp
  have hle : ∀ p ∈ G.2, p.2 ≤ b := fun p hp => by
    have : p.2 ≤ Qu.sum G.2 := by
      obtain ⟨l1, l2, hl⟩ := List.append_of_mem hp
      rw [hl, Qu.sum_append, Qu.sum_cons]
      have a1 := Qu.sum_nonneg l1 (fun q hq => hpg q (by rw [hl]; simp [hq]))
      have a2 := Qu.sum_nonneg l2 (fun q hq => hpg q (by rw [hl]; simp [hq]))
      omega
    omega
  refine ⟨h.c0, h.c1, h.b0, h.b1, h5, by have := h.yl; omega, h6, ?_, ?_, (List.nodup_append.1 hnd).2.1, ?_⟩
  · intro p hp
    rcases List.mem_append.1 (hmem p (by simp [hp])) with h0 | h0
    · exact hpg p h0
    · exact (h.py p h0).1
  · intro p hp
    rcases List.mem_append.1 (hmem p (by simp [hp])) with h0 | h0
    · exact ⟨hpg p h0, hle p h0⟩
    · exact h.py p h0
  · intro p hp
    rcases List.mem_append.1 (hmem p hp) with h0 | h0
    · exact h.wf p (by rw [← hs]; simp [h0])
    · exact h.wf p (by simp [h0])
end Go.Proofs.Ytgdeoodihhcdjaa
