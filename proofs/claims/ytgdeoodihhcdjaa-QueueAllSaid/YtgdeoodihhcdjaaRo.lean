/- Leave, Clear of the queue whole; what they keep. -/
import Derived.Test.YtgdeoodihhcdjaaRn
namespace Go.Proofs.Ytgdeoodihhcdjaa
open Go.RowKit
set_option linter.unusedVariables false
set_option linter.unusedSimpArgs false

theorem Qu.takeF_none (xs : List (Int × Int)) : Qu.takeF 0 0 [] 0 xs = ([], xs) := by cases xs <;> simp [Qu.takeF]
theorem Qu.Ok.enter {c : Nat} {b : Int} {xs ys : List (Int × Int)} (h : Qu.Ok c b xs ys) : Qu.Ok c b (Qu.enterF c b xs ys (Qu.sum xs)).1 (Qu.enterF c b xs ys (Qu.sum xs)).2.1 := by
  have := h.take 0 0
  rw [Qu.takeF_none] at this
  exact this
theorem Qu.cut_split (ys : List (Int × Int)) (i : Nat) (hi : i < ys.length) : ys = ys.take i ++ ys.getD i (0, 0) :: ys.drop (i + 1) := by
  have h := List.take_append_drop i ys
  rw [List.drop_eq_getElem_cons hi] at h
  rw [List.getD_eq_getElem?_getD, List.getElem?_eq_getElem hi]
  exact h.symm
theorem Qu.cut_keys (xs ys : List (Int × Int)) (i : Nat) (id : Int) (hF : Qu.First ys id i) (hnd : ((xs ++ ys).map Prod.fst).Nodup) : ((xs ++ ys).map Prod.fst).erase id = (xs ++ (ys.take i ++ ys.drop (i + 1))).map Prod.fst := by
  obtain ⟨hi, hid, _⟩ := hF
  have hs := Qu.cut_split ys i hi
  have e : (xs ++ ys).map Prod.fst = (xs ++ ys.take i).map Prod.fst ++ id :: (ys.drop (i + 1)).map Prod.fst := by
    conv => lhs; rw [hs]
    rw [List.getD_eq_getElem?_getD] at hid
    simp [hid]
  rw [e] at hnd ⊢
  have hn : id ∉ (xs ++ ys.take i).map Prod.fst := fun h => (List.nodup_append.1 hnd).2.2 id h id (by simp) rfl
  rw [List.erase_append_right _ hn, List.erase_cons_head]
  simp
theorem Qu.Ok.cut {c : Nat} {b : Int} {xs ys : List (Int × Int)} (h : Qu.Ok c b xs ys) (i : Nat) : Qu.Ok c b xs (ys.take i ++ ys.drop (i + 1)) := by
  have hm : ∀ p ∈ ys.take i ++ ys.drop (i + 1), p ∈ ys := fun p hp => by
    rcases List.mem_append.1 hp with h | h
    · exact List.mem_of_mem_take h
    · exact List.mem_of_mem_drop h
  refine ⟨h.c0, h.c1, h.b0, h.b1, h.xl, by have := h.yl; simp; omega, h.sum, h.px, fun p hp => h.py p (hm p hp), ?_, fun p hp => h.wf p ?_⟩
  · by_cases hi : i < ys.length
    · have hnd := h.nd
      have hs := Qu.cut_split ys i hi
      have e : (xs ++ ys).map Prod.fst = (xs ++ ys.take i).map Prod.fst ++ (ys.getD i (0, 0)).1 :: (ys.drop (i + 1)).map Prod.fst := by
        conv => lhs; rw [hs]
        simp
      rw [e, List.nodup_append] at hnd
      obtain ⟨h1, h2, h3⟩ := hnd
      rw [← List.append_assoc, List.map_append, List.nodup_append]
      exact ⟨h1, (List.nodup_cons.1 h2).2, fun a ha b hb => h3 a ha b (List.mem_cons_of_mem _ hb)⟩
    · rw [List.take_of_length_le (by omega), List.drop_eq_nil_of_le (by omega), List.append_nil]
      exact h.nd
  · rcases List.mem_append.1 hp with h | h
    · simp [h]
    · simp [hm p h]
theorem Qu.Ok.clear {c : Nat} {b : Int} {xs ys : List (Int × Int)} (h : Qu.Ok c b xs ys) : Qu.Ok c b [] [] :=
  ⟨h.c0, h.c1, h.b0, h.b1, by simp, by simp, by have := h.b0; simp [Qu.sum_nil]; omega, by simp, by simp, by simp, by simp⟩

theorem leave_Q (F : Nat → Prop) (sb mb c : Nat) (b : Int) (xs ys : List (Int × Int)) (id : Int) (i : Nat) (w : World) (h : Qu.Q F w sb mb c b xs ys) (hok : Qu.Ok c b xs ys) (hF : Qu.First ys id i) (h64 : Qu.In64 id)
    (E : List (Int × Int) × List (Int × Int) × Int × List Int) (hE : E = Qu.enterF c b xs (ys.take i ++ ys.drop (i + 1)) (Qu.sum xs)) :
    Calls Try.prog 19 #[.pointer (some ⟨sb, 0, none⟩), .int .i64 id] w fun e w' => ∃ v, e = .returned (.tuple #[v, .int .i64 0]) ∧ w'.ownsRow w.heap.size 2 1 v E.2.2.2.length (Qu.ints E.2.2.2) ∧ Qu.Q (fun i => F i ∨ w.heap.size ≤ i) w' sb mb c b E.1 E.2.1 ∧ Qu.Fr F w w' := by
  obtain ⟨R, LB, h1, h2, h3, h4, h5, h6⟩ := h
  have hb1 := hok.b1
  obtain ⟨k1, k2, k3, k4⟩ := Qu.enterF_keeps c b (ys.take i ++ ys.drop (i + 1)) xs (Qu.sum xs) rfl
  rw [← hE] at k1 k2
  refine (leave_yes sb c b xs ys mb R LB id i w hok.c0 hok.c1 (by omega) h1 h2 hok.xl ⟨hok.sum0, hok.sum⟩ hok.py (by have := hok.yl; omega) hF h64 hok.nd).mono ?_
  rintro e w' ⟨v, rfl, ⟨R', LB', q1, q2, q3, q4, q5, q6⟩, q7⟩
  rw [← hE] at q1 q3
  rw [k1] at q1
  rw [Qu.cut_keys xs ys i id hF hok.nd, k2] at q7
  refine ⟨v, rfl, q3, ⟨R', LB', q1, q7, .inl h3, .inl h4, ?_, fun i hi => .inr (q6 i hi)⟩, q4.mono ?_⟩
  · intro i hi
    rcases q5 with h | ⟨j, h, hj⟩
    · exact .inl (h5 i (h ▸ hi))
    · rw [h] at hi; injection hi with hi; exact .inr (by omega)
  · rintro k _ (h | h | h)
    · exact h ▸ h3
    · exact h5 k h
    · exact h ▸ h4
theorem clear_Q (F : Nat → Prop) (sb mb c : Nat) (b : Int) (xs ys : List (Int × Int)) (w : World) (h : Qu.Q F w sb mb c b xs ys) (hok : Qu.Ok c b xs ys) :
    Calls Try.prog 21 #[.pointer (some ⟨sb, 0, none⟩)] w fun e w' => ∃ v, e = .returned v ∧ w'.ownsRow w.heap.size 2 1 v (xs ++ ys).length (Qu.ints ((xs ++ ys).map Prod.fst)) ∧ Qu.Q (fun i => F i ∨ w.heap.size ≤ i) w' sb mb c b [] [] ∧ Qu.Fr F w w' := by
  obtain ⟨R, LB, h1, h2, h3, h4, h5, h6⟩ := h
  have := hok.xl
  have := hok.yl
  have := hok.c1
  refine (clear_any sb c b _ xs ys mb R LB w hok.c0 h1 h2 (by omega) (by omega)).mono ?_
  rintro e w' ⟨v, rfl, q1, q2, q3, q4⟩
  refine ⟨v, rfl, q1, ⟨none, none, q2, q3, .inl h3, .inl h4, (fun i h => by cases h), (fun i h => by cases h)⟩, q4.mono ?_⟩
  rintro k _ (h | h)
  · exact h ▸ h3
  · exact h ▸ h4
theorem Qu.first_or (ys : List (Int × Int)) (id : Int) : (∃ i, Qu.First ys id i) ∨ ∀ j, j < ys.length → (ys.getD j (0, 0)).1 ≠ id := by
  by_cases h : ∃ i, i < ys.length ∧ (ys.getD i (0, 0)).1 = id
  · left
    obtain ⟨i, h1, h2⟩ := h
    induction i using Nat.strongRecOn with
    | _ i ih =>
      by_cases hb : ∃ j, j < i ∧ (ys.getD j (0, 0)).1 = id
      · obtain ⟨j, hj, hj2⟩ := hb
        exact ih j hj (by omega) hj2
      · exact ⟨i, h1, h2, fun j hj he => hb ⟨j, hj, he⟩⟩
  · right
    intro j hj he
    exact h ⟨j, hj, he⟩
end Go.Proofs.Ytgdeoodihhcdjaa
