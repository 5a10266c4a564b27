/- The plain law of QueueFair: what Put and Take do to the order of the numbers. -/
import Derived.Test.YtgdeoodihhcdjaaQo
namespace Go.Proofs.Ytgdeoodihhcdjaa
open Go.RowKit
set_option linter.unusedVariables false
set_option linter.unusedSimpArgs false

/-- Who stands first in line has no room, and somebody is held. -/
def Qu.Good (c : Nat) (b : Int) (xs ys : List (Int × Int)) : Prop := ∀ p r, ys = p :: r → xs ≠ [] ∧ Qu.roomB xs.length c p.2 b (Qu.sum xs) = false
/-- The numbers rise by one from o on. -/
def Qu.Rise (o : Int) (l : List (Int × Int)) : Prop := ∀ t, t < l.length → (l.getD t (0, 0)).1 = o + t
theorem Qu.Rise.nil (o : Int) : Qu.Rise o [] := fun t h => by simp at h
theorem Qu.Rise.snoc {o : Int} {l : List (Int × Int)} (h : Qu.Rise o l) (s : Int) : Qu.Rise o (l ++ [(o + l.length, s)]) := by
  intro t ht
  simp at ht
  by_cases hlt : t < l.length
  · rw [← h t hlt]
    simp [List.getD, List.getElem?_append_left hlt]
  · obtain rfl : t = l.length := by omega
    simp [List.getD]
theorem Qu.Rise.append {o : Int} {l1 l2 : List (Int × Int)} (h : Qu.Rise o (l1 ++ l2)) : Qu.Rise o l1 ∧ Qu.Rise (o + l1.length) l2 := by
  constructor
  · intro t ht
    rw [← h t (by simp; omega)]
    simp [List.getD, List.getElem?_append_left ht]
  · intro t ht
    have := h (l1.length + t) (by simp; omega)
    rw [show (l1 ++ l2).getD (l1.length + t) (0, 0) = l2.getD t (0, 0) from by simp [List.getD, List.getElem?_append_right]] at this
    rw [this]
    omega
theorem Qu.Rise.fresh {o : Int} {l : List (Int × Int)} (h : Qu.Rise o l) : o + l.length ∉ l.map Prod.fst := by
  intro hm
  obtain ⟨p, hp, he⟩ := List.mem_map.1 hm
  obtain ⟨t, ht, hg⟩ := List.getElem_of_mem hp
  have := h t ht
  rw [List.getD_eq_getElem?_getD, List.getElem?_eq_getElem ht, Option.getD_some, hg, he] at this
  omega

theorem Qu.fair_put (c : Nat) (b : Int) (xs ys : List (Int × Int)) (o s : Int) (hok : Qu.Ok c b xs ys) (hg : Qu.Good c b xs ys) (hr : Qu.Rise o (xs ++ ys)) :
    let F := Qu.putF c b xs ys (o + (xs ++ ys).length) s
    Qu.Good c b F.2.2.1 F.2.2.2 ∧ ((F.2.1 = 0 ∧ F.2.2.1 ++ F.2.2.2 = (xs ++ ys) ++ [(o + (xs ++ ys).length, s)]) ∨ (F.2.1 ≠ 0 ∧ 0 ≤ F.2.1 ∧ F.2.1 ≤ 9 ∧ F.2.2.1 = xs ∧ F.2.2.2 = ys)) := by
  intro F
  have hF : F = Qu.putF c b xs ys (o + (xs ++ ys).length) s := rfl
  unfold Qu.putF at hF
  split at hF
  · rw [hF]; exact ⟨hg, .inr ⟨by simp, by simp, by simp, rfl, rfl⟩⟩
  split at hF
  · rw [hF]; exact ⟨hg, .inr ⟨by simp, by simp, by simp, rfl, rfl⟩⟩
  split at hF
  · rw [hF]; exact ⟨hg, .inr ⟨by simp, by simp, by simp, rfl, rfl⟩⟩
  split at hF
  · rw [hF]; exact ⟨hg, .inr ⟨by simp, by simp, by simp, rfl, rfl⟩⟩
  rename_i h1 h2 h3 h4
  split at hF
  · rename_i h5
    obtain rfl : ys = [] := List.eq_nil_of_length_eq_zero h5.1
    rw [hF]
    exact ⟨(fun p r h => by cases h), .inl ⟨rfl, by simp⟩⟩
  · rename_i h5
    rw [hF]
    refine ⟨?_, .inl ⟨rfl, by simp⟩⟩
    intro p r h
    cases ys with
    | nil =>
      simp at h
      obtain ⟨rfl, rfl⟩ := h
      have hroom : Qu.roomB xs.length c s b (Qu.sum xs) = false := by
        cases hh : Qu.roomB xs.length c s b (Qu.sum xs)
        · rfl
        · exact absurd ⟨rfl, hh⟩ h5
      refine ⟨?_, hroom⟩
      rintro rfl
      have := hok.c0
      simp [Qu.roomB, Qu.sum_nil] at hroom
      omega
    | cons q ys =>
      simp at h
      obtain ⟨rfl, rfl⟩ := h
      exact hg q ys rfl

theorem Qu.takeF_bounds (most bytes : Int) : ∀ (xs out : List (Int × Int)) (size : Int), size = Qu.sum out → ((out.length : Int) ≤ max most 0) → (1 < out.length → size ≤ bytes) →
    ((Qu.takeF most bytes out size xs).1.length : Int) ≤ max most 0 ∧ (1 < (Qu.takeF most bytes out size xs).1.length → Qu.sum (Qu.takeF most bytes out size xs).1 ≤ bytes)
  | [], out, size, hs, h1, h2 => by simp only [Qu.takeF]; exact ⟨h1, fun h => hs ▸ h2 h⟩
  | p :: xs, out, size, hs, h1, h2 => by
    rw [Qu.takeF]
    split
    · rename_i hm
      split
      · exact ⟨h1, fun h => hs ▸ h2 h⟩
      · rename_i hst
        refine Qu.takeF_bounds most bytes xs (out ++ [p]) (size + p.2) (by rw [Qu.sum_append, Qu.sum_cons, Qu.sum_nil]; omega) (by simp; omega) (fun h => ?_)
        simp at h
        have : ¬ bytes < size + p.2 := fun hh => hst ⟨h, hh⟩
        omega
    · exact ⟨h1, fun h => hs ▸ h2 h⟩

theorem Qu.enterF_good (c : Nat) (b : Int) : ∀ (ys xs : List (Int × Int)) (u : Int), u = Qu.sum xs → 0 < c → (∀ p ∈ ys, p.2 ≤ b) → Qu.Good c b (Qu.enterF c b xs ys u).1 (Qu.enterF c b xs ys u).2.1
  | [], xs, u, hu, hc, hb => by simp only [Qu.enterF]; exact fun p r h => by cases h
  | p :: ys, xs, u, hu, hc, hb => by
    rw [Qu.enterF]
    by_cases h : Qu.roomB xs.length c p.2 b u = true
    · rw [if_pos h]
      exact Qu.enterF_good c b ys (xs ++ [p]) (u + p.2) (by rw [Qu.sum_append, Qu.sum_cons, Qu.sum_nil]; omega) hc (fun q hq => hb q (by simp [hq]))
    · rw [if_neg h]
      intro q r hq
      simp at hq
      obtain ⟨rfl, rfl⟩ := hq
      have hf : Qu.roomB xs.length c p.2 b (Qu.sum xs) = false := by rw [← hu]; simpa using h
      refine ⟨?_, hf⟩
      rintro rfl
      have := hb p (by simp)
      simp [Qu.roomB, Qu.sum_nil] at hf
      omega

theorem Qu.fair_take (c : Nat) (b : Int) (xs ys : List (Int × Int)) (most bytes : Int) (hok : Qu.Ok c b xs ys) (G : List (Int × Int) × List (Int × Int)) (hG : G = Qu.takeF most bytes [] 0 xs)
    (E : List (Int × Int) × List (Int × Int) × Int × List Int) (hE : E = Qu.enterF c b G.2 ys (Qu.sum G.2)) :
    E.2.2.1 = Qu.sum E.1 ∧ G.2 ++ ys = E.1 ++ E.2.1 ∧ Qu.Ok c b E.1 E.2.1 ∧ Qu.Good c b E.1 E.2.1 ∧ xs ++ ys = G.1 ++ (E.1 ++ E.2.1) ∧ (G.1.length : Int) ≤ max most 0 ∧ (1 < G.1.length → Qu.sum G.1 ≤ bytes) ∧ (∀ p ∈ G.1, 0 ≤ p.2) ∧ Qu.sum G.1 ≤ b := by
  subst hG
  subst hE
  obtain ⟨h1, h2, h3, h4⟩ := Qu.enterF_keeps c b ys (Qu.takeF most bytes [] 0 xs).2 (Qu.sum (Qu.takeF most bytes [] 0 xs).2) rfl
  have hs := Qu.takeF_split most bytes xs [] 0
  simp only [List.nil_append] at hs
  obtain ⟨h5, h6⟩ := Qu.takeF_bounds most bytes xs [] 0 rfl (by simp; omega) (by simp)
  have hpx : ∀ p ∈ (Qu.takeF most bytes [] 0 xs).1, 0 ≤ p.2 := fun p hp => hok.px p (by rw [← hs]; simp [hp])
  refine ⟨h1, h2, hok.take most bytes, Qu.enterF_good c b ys _ _ rfl hok.c0 (fun p hp => (hok.py p hp).2), by rw [← h2, ← List.append_assoc, hs], h5, h6, hpx, ?_⟩
  have := hok.sum
  rw [← hs, Qu.sum_append] at this
  have h7 := Qu.sum_nonneg (Qu.takeF most bytes [] 0 xs).2 (fun p hp => hok.px p (by rw [← hs]; simp [hp]))
  omega
end Go.Proofs.Ytgdeoodihhcdjaa
