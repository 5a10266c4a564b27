/- What LinearFirst says, in plain Lean. -/
import Derived.Test.YtgdeoodihhcdjaaLc
namespace Go.Proofs.Ytgdeoodihhcdjaa
set_option linter.unusedVariables false
set_option linter.unusedSimpArgs false


theorem Ln.yes_legal {base : Int} {ps : List Ln.Past} (h : Ln.begunF base ps = 0) (hs : (Ln.searchF base ps).1 = true) : Ln.legalF base ps ((Ln.searchF base ps).2.order.map Int.ofNat) = true := by
  obtain ⟨hb, hn, _, ht⟩ := Ln.begun_ok h
  obtain ⟨⟨m', k', p, hc⟩, _⟩ := Ln.search_yes h hs
  exact (Ln.legal_iff hb ht).2 ⟨_, m', k', rfl, p, hc⟩
theorem Ln.no_legal {base : Int} {ps : List Ln.Past} (h : Ln.begunF base ps = 0) (hs : (Ln.searchF base ps).1 = false) (order : List Int) : Ln.legalF base ps order = false := by
  obtain ⟨hb, hn, _, ht⟩ := Ln.begun_ok h
  cases hl : Ln.legalF base ps order with
  | false => rfl
  | true =>
    obtain ⟨is, m', k', _, p, hc⟩ := (Ln.legal_iff hb ht).1 hl
    exact absurd hc (Ln.search_no h hs is m' k' p)
theorem Ln.yes_far {base : Int} {ps : List Ln.Past} (h : Ln.begunF base ps = 0) (hs : (Ln.searchF base ps).1 = true) : ((Ln.searchF base ps).2.order.length : Int) ≤ Ln.mostF base ps ∧ (Ln.doneF ps : Int) ≤ Ln.mostF base ps := by
  obtain ⟨⟨m', k', p, hc⟩, _⟩ := Ln.search_yes h hs
  have h1 := Ln.most_far h _ m' k' p
  have h2 := Ln.done_le p hc
  exact ⟨h1, by omega⟩
theorem Ln.yes_first {base : Int} {ps : List Ln.Past} (h : Ln.begunF base ps = 0) (hs : (Ln.searchF base ps).1 = true) (order : List Int) (hl : Ln.legalF base ps order = true) (i : Nat) (hi : i < (Ln.searchF base ps).2.order.length)
    (hj : ∀ j, j < i → order.getD j 0 = (((Ln.searchF base ps).2.order.getD j 0 : Nat) : Int)) : i < order.length ∧ (((Ln.searchF base ps).2.order.getD i 0 : Nat) : Int) ≤ order.getD i 0 := by
  obtain ⟨hb, hn, _, ht⟩ := Ln.begun_ok h
  obtain ⟨_, hf⟩ := Ln.search_yes h hs
  obtain ⟨is, m', k', rfl, p, hc⟩ := (Ln.legal_iff hb ht).1 hl
  have hget : ∀ j, (is.map Int.ofNat).getD j 0 = ((is.getD j 0 : Nat) : Int) := fun j => by
    simp only [List.getD_eq_getElem?_getD, List.getElem?_map]
    cases is[j]? <;> rfl
  have hle := hf is m' k' p hc
  obtain ⟨h1, h2⟩ := Ln.Le.get hle i hi (fun j hji => by
    have := hj j hji
    rw [hget] at this
    exact_mod_cast this)
  refine ⟨by simpa using h1, ?_⟩
  rw [hget]
  exact_mod_cast h2

end Go.Proofs.Ytgdeoodihhcdjaa
