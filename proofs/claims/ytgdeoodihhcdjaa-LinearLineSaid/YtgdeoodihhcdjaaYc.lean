/- The join law of LinearLine: pasts that overlap nowhere have the order of their times, just if the model takes them so. -/
import Derived.Test.YtgdeoodihhcdjaaLc
namespace Go.Proofs.Ytgdeoodihhcdjaa.Ln

def linePast (ps : List Past) (i : Nat) : Past := { at' ps i with beg := 2 * (i : Int) + 1, fin := 2 * (i : Int) + 2 }
def lineF (ps : List Past) (k : Nat) : List Past := (List.range k).map (linePast ps)
theorem lineF_len (ps : List Past) (k : Nat) : (lineF ps k).length = k := by simp [lineF]
theorem lineF_succ (ps : List Past) (k : Nat) : lineF ps (k + 1) = lineF ps k ++ [linePast ps k] := by simp [lineF, List.range_succ]
theorem lineF_at (ps : List Past) (k i : Nat) (h : i < k) : at' (lineF ps k) i = linePast ps i := by
  simp [at', lineF, List.getD_eq_getElem?_getD, h]
theorem line_begun {base : Int} {ps : List Past} (hb : 1 ≤ base) (hn : ps.length ≤ 12) : begunF base (lineF ps ps.length) = 0 := by
  unfold begunF
  have hopen : openF (lineF ps ps.length) = 0 := by
    unfold openF lineF
    rw [List.length_eq_zero_iff, List.filter_eq_nil_iff]
    intro p hp
    obtain ⟨i, _, rfl⟩ := List.mem_map.1 hp
    have : (linePast ps i).fin ≠ 0 := by show 2 * (i : Int) + 2 ≠ 0; omega
    simpa using this
  have htime : timelyF (lineF ps ps.length) = true := by
    unfold timelyF lineF
    rw [List.all_eq_true]
    intro p hp
    obtain ⟨i, _, rfl⟩ := List.mem_map.1 hp
    have h1 : ¬ (linePast ps i).beg < 1 := by show ¬ 2 * (i : Int) + 1 < 1; omega
    have h2 : ¬ (linePast ps i).fin ≤ (linePast ps i).beg := by show ¬ 2 * (i : Int) + 2 ≤ 2 * (i : Int) + 1; omega
    unfold okTime
    rw [decide_eq_false h1, decide_eq_false h2, Bool.and_false]
    rfl
  rw [if_neg (by omega), if_neg (by rw [lineF_len, hopen]; omega), if_pos htime]
/-- The state and whether all went so far. -/
def stF (ps : List Past) (base : Int) : Nat → Mod × Bool
  | 0 => (start base, true)
  | k + 1 => match applyF (stF ps base k).1 (at' ps k).call (at' ps k).res with
    | some n => (n, (stF ps base k).2)
    | none => (zeroM, false)
theorem stF_some {ps : List Past} {base : Int} {k : Nat} {n : Mod} (h : applyF (stF ps base k).1 (at' ps k).call (at' ps k).res = some n) : stF ps base (k + 1) = (n, (stF ps base k).2) := by
  simp only [stF, h]
theorem stF_none {ps : List Past} {base : Int} {k : Nat} (h : applyF (stF ps base k).1 (at' ps k).call (at' ps k).res = none) : stF ps base (k + 1) = (zeroM, false) := by
  simp only [stF, h]
theorem stF_back {ps : List Past} {base : Int} {k : Nat} (h : (stF ps base (k + 1)).2 = true) : (stF ps base k).2 = true ∧ applyF (stF ps base k).1 (at' ps k).call (at' ps k).res = some (stF ps base (k + 1)).1 := by
  cases ha : applyF (stF ps base k).1 (at' ps k).call (at' ps k).res with
  | none => rw [stF_none ha] at h; cases h
  | some n => rw [stF_some ha] at h ⊢; exact ⟨h, rfl⟩
theorem stF_down {ps : List Past} {base : Int} {k : Nat} (c : Nat) (h : (stF ps base (k + c)).2 = true) : (stF ps base k).2 = true := by
  induction c with
  | zero => exact h
  | succ c ih => exact ih (stF_back h).1
theorem line_step (ps : List Past) (m : Mod) (i : Nat) : stepF m (linePast ps i) = applyF m (at' ps i).call (at' ps i).res := by
  unfold stepF linePast
  rw [if_neg (by simp; omega)]
theorem line_ahead (ps : List Past) (x i : Nat) : aheadF (linePast ps x) (linePast ps i) = decide (x < i) := by
  unfold aheadF linePast
  simp only [decide_eq_decide]
  omega
theorem line_path {ps : List Past} {base : Int} {m m' : Mod} {k k' : Key} {is : List Nat} (p : Path (lineF ps ps.length) m k is m' k') : ∀ j, j ≤ ps.length → (∀ x, k.set.testBit x = decide (x < j)) → (stF ps base j) = (m, true) → Complete (lineF ps ps.length) k' →
    is = List.range' j (ps.length - j) ∧ (stF ps base ps.length).2 = true := by
  induction p with
  | @nil m k =>
    intro j hj hk hs hc
    have hjn : j = ps.length := by
      by_cases hlt : j < ps.length
      · have := (complete_iff _ _).1 hc j (by rw [lineF_len]; exact hlt) (by rw [lineF_at _ _ _ hlt]; simp [linePast]; omega)
        rw [hk] at this
        simp at this
      · omega
    subst hjn
    exact ⟨by simp, by rw [hs]⟩
  | @cons m n m' k l k' i is hi hp p ih =>
    intro j hj hk hs hc
    rw [lineF_len] at hi
    obtain ⟨h1, h2, h3, rfl⟩ := putF_some hp
    rw [hk] at h1
    have hge : j ≤ i := by simpa using h1
    have hij : i = j := by
      by_cases hlt : j < i
      · have := h2 j (by rw [lineF_len]; omega) (by rw [lineF_at _ _ _ (by omega), lineF_at _ _ _ hi, line_ahead]; simpa using hlt)
        rw [hk] at this
        simp at this
      · omega
    subst hij
    rw [lineF_at _ _ _ hi, line_step] at h3
    have hs1 : stF ps base i = (m, true) := hs
    have h4 : stF ps base (i + 1) = (n, true) := by
      rw [stF_some (n := n) (by rw [hs1]; exact h3), hs1]
    obtain ⟨e1, e2⟩ := ih (i + 1) (by omega) (fun x => by
      rw [or_testBit, hk]
      by_cases hx : x < i
      · simp [hx, show x < i + 1 by omega]
      · by_cases hx2 : i = x
        · simp [hx2]
        · simp [hx, hx2, show ¬ x < i + 1 by omega]) h4 hc
    refine ⟨?_, e2⟩
    rw [e1, show ps.length - i = (ps.length - (i + 1)) + 1 by omega, List.range'_succ]
theorem line_back {ps : List Past} {base : Int} (h : (stF ps base ps.length).2 = true) : ∀ c j m k, j + c = ps.length → (∀ x, k.set.testBit x = decide (x < j)) → stF ps base j = (m, true) →
    ∃ is m' k', Path (lineF ps ps.length) m k is m' k' ∧ Complete (lineF ps ps.length) k'
  | 0, j, m, k, hj, hk, hs => ⟨[], m, k, .nil, (complete_iff _ _).2 fun x hx _ => by rw [lineF_len] at hx; rw [hk]; simp; omega⟩
  | c + 1, j, m, k, hj, hk, hs => by
    have h5 : (stF ps base (j + 1)).2 = true := stF_down c (by rw [show j + 1 + c = ps.length by omega]; exact h)
    obtain ⟨_, ha⟩ := stF_back h5
    rw [hs] at ha
    have hn : stF ps base (j + 1) = ((stF ps base (j + 1)).1, true) := by
      rw [← h5]
    have hput := putF_mk (ps := lineF ps ps.length) (m := m) (n := (stF ps base (j + 1)).1) (k := k) (i := j) (by rw [hk]; simp) (fun x hx hax => by
      rw [lineF_len] at hx
      rw [lineF_at _ _ _ hx, lineF_at _ _ _ (by omega), line_ahead] at hax
      rw [hk]
      exact hax) (by rw [lineF_at _ _ _ (by omega), line_step]; exact ha)
    obtain ⟨is, m', k', p, hc⟩ := line_back h c (j + 1) (stF ps base (j + 1)).1 ⟨k.set ||| 1 <<< j, if (at' (lineF ps ps.length) j).fin = 0 ∧ m.next < (stF ps base (j + 1)).1.next then k.lsns.set j m.next else k.lsns⟩ (by omega) (fun x => by
      show (k.set ||| 1 <<< j).testBit x = _
      rw [or_testBit, hk]
      by_cases hx : x < j
      · simp [hx, show x < j + 1 by omega]
      · by_cases hx2 : j = x
        · simp [hx2]
        · simp [hx, hx2, show ¬ x < j + 1 by omega]) hn
    exact ⟨_, m', k', .cons (by rw [lineF_len]; omega) hput p, hc⟩
theorem line_search {base : Int} {ps : List Past} (hb : 1 ≤ base) (hn : ps.length ≤ 12) :
    (searchF base (lineF ps ps.length)).1 = (stF ps base ps.length).2 ∧ ((searchF base (lineF ps ps.length)).1 = true → (searchF base (lineF ps ps.length)).2.order = List.range' 0 ps.length) := by
  have h0 := line_begun hb hn
  have hk0 : ∀ x, key0.set.testBit x = decide (x < 0) := fun x => by simp [key0]
  cases hs : (searchF base (lineF ps ps.length)).1 with
  | true =>
    obtain ⟨⟨m', k', p, hc⟩, _⟩ := search_yes h0 hs
    obtain ⟨e1, e2⟩ := line_path (base := base) p 0 (by omega) hk0 rfl hc
    exact ⟨e2.symm, fun _ => e1⟩
  | false =>
    refine ⟨?_, fun h => by cases h⟩
    cases hf : (stF ps base ps.length).2 with
    | false => rfl
    | true =>
      obtain ⟨is, m', k', p, hc⟩ := line_back hf ps.length 0 (start base) key0 (by omega) hk0 rfl
      exact absurd hc (search_no h0 hs is m' k' p)
end Go.Proofs.Ytgdeoodihhcdjaa.Ln
