/- Plain laws of the search for an order: what it finds is the first one; how far it goes. -/
import Derived.Test.YtgdeoodihhcdjaaLb
namespace Go.Proofs.Ytgdeoodihhcdjaa.Ln

/-- Steps on from a state. -/
inductive Path (ps : List Past) : Mod → Key → List Nat → Mod → Key → Prop
  | nil {m : Mod} {k : Key} : Path ps m k [] m k
  | cons {m n m' : Mod} {k l k' : Key} {i : Nat} {is : List Nat} : i < ps.length → putF ps m k i = some (n, l) → Path ps n l is m' k' → Path ps m k (i :: is) m' k'

theorem Reach.path {ps : List Past} {base : Int} {m m' : Mod} {k k' : Key} {is : List Nat} (p : Path ps m k is m' k') : ∀ {l : List Nat}, Reach ps base l m k → Reach ps base (l ++ is) m' k' := by
  induction p with
  | nil => intro l h; simpa using h
  | @cons m n m' k l k' i is hi hp p ih =>
    intro l h
    have := ih (h.snoc hi hp)
    simpa using this

def Complete (ps : List Past) (k : Key) : Prop := k.set &&& allF ps = allF ps

theorem complete_iff (ps : List Past) (k : Key) : Complete ps k ↔ ∀ j, j < ps.length → (at' ps j).fin ≠ 0 → k.set.testBit j = true := by
  unfold Complete
  rw [Nat.and_comm, sub_iff]
  unfold allF
  constructor
  · intro h j hj hf
    exact h j (by rw [maskF_testBit]; simp [hj, hf])
  · intro h j hj
    rw [maskF_testBit] at hj
    simp only [Bool.and_eq_true, decide_eq_true_eq] at hj
    exact h j hj.1 hj.2

/-- How many of the numbers below n p takes. -/
def cntF (p : Nat → Bool) : Nat → Nat
  | 0 => 0
  | n + 1 => cntF p n + (if p n = true then 1 else 0)
theorem cntF_le (p : Nat → Bool) (n : Nat) : cntF p n ≤ n := by
  induction n with
  | zero => exact Nat.le_refl _
  | succ n ih => simp only [cntF]; split <;> omega
theorem cntF_same (p q : Nat → Bool) (n : Nat) (h : ∀ j, j < n → p j = q j) : cntF p n = cntF q n := by
  induction n with
  | zero => rfl
  | succ n ih => simp only [cntF]; rw [ih fun j hj => h j (by omega), h n (by omega)]
theorem cntF_one (p q : Nat → Bool) (i n : Nat) (hi : i < n) (hp : p i = false) (hq : q i = true) (h : ∀ j, j ≠ i → p j = q j) : cntF q n = cntF p n + 1 := by
  induction n with
  | zero => omega
  | succ n ih =>
    simp only [cntF]
    by_cases e : i = n
    · subst e
      rw [hp, hq, cntF_same q p i fun j hj => (h j (by omega)).symm]
      simp
    · rw [ih (by omega), h n (fun h => e h.symm)]
      omega

def cnt (ps : List Past) (k : Key) : Nat := cntF (fun j => k.set.testBit j) ps.length
theorem cnt_le (ps : List Past) (k : Key) : cnt ps k ≤ ps.length := cntF_le _ _
theorem cnt_put {ps : List Past} {m n : Mod} {k l : Key} {i : Nat} (hi : i < ps.length) (h : putF ps m k i = some (n, l)) : cnt ps l = cnt ps k + 1 := by
  obtain ⟨h1, _, _, rfl⟩ := putF_some h
  refine cntF_one _ _ i _ hi h1 ?_ fun j hj => ?_
  · rw [or_testBit]; simp
  · simp only [or_testBit]
    rw [decide_eq_false (fun e => hj e.symm)]
    simp
theorem cnt_reach {ps : List Past} {base : Int} {l : List Nat} {m : Mod} {k : Key} (h : Reach ps base l m k) : cnt ps k = l.length := by
  induction h with
  | nil =>
    unfold cnt key0
    rw [cntF_same _ (fun _ => false) _ fun j _ => by simp]
    generalize ps.length = n
    induction n with
    | zero => rfl
    | succ n ih => simpa [cntF] using ih
  | snoc h hi hp ih => rw [cnt_put hi hp, ih]; simp

/-- Nothing whole lies behind the key. -/
def Vain (ps : List Past) (base : Int) (t : Key) : Prop := ∀ l m, Reach ps base l m t → ∀ is m' k', Path ps m t is m' k' → ¬ Complete ps k'
/-- Nothing behind the key goes further than d. -/
def Far (ps : List Past) (base : Int) (t : Key) (d : Int) : Prop := ∀ l m, Reach ps base l m t → ∀ is m' k', Path ps m t is m' k' → (cnt ps t : Int) + is.length ≤ d

/-- One order stands not behind another one (one that the other begins with stands ahead). -/
inductive Le : List Nat → List Nat → Prop
  | nil {l : List Nat} : Le [] l
  | lt {a b : Nat} {x y : List Nat} : a < b → Le (a :: x) (b :: y)
  | eq {a : Nat} {x y : List Nat} : Le x y → Le (a :: x) (a :: y)

def First (ps : List Past) (m : Mod) (k : Key) (is : List Nat) : Prop :=
  (∃ m' k', Path ps m k is m' k' ∧ Complete ps k') ∧ ∀ is2 m2 k2, Path ps m k is2 m2 k2 → Complete ps k2 → Le is is2

theorem loop_law {ps : List Past} {base : Int} {m : Mod} {k : Key} {T : List Key} {o0 : List Nat} (g : Nat → St → Bool × St)
    (hg : ∀ i st, i < ps.length → st.order = o0 → (∀ t ∈ st.tried, t ∈ T ∨ Vain ps base t) →
      ((g i st).1 = true → ∃ n l is, putF ps m k i = some (n, l) ∧ (g i st).2.order = o0 ++ i :: is ∧ First ps n l is) ∧
      ((g i st).1 = false → (g i st).2.order = o0 ∧ (∀ t ∈ (g i st).2.tried, t ∈ T ∨ Vain ps base t) ∧ ∀ n l, putF ps m k i = some (n, l) → ∀ is m' k', Path ps n l is m' k' → ¬ Complete ps k'))
    (hk : ¬ Complete ps k) :
    ∀ (c a : Nat) (st : St), a + c = ps.length → st.order = o0 → (∀ t ∈ st.tried, t ∈ T ∨ Vain ps base t) →
      (∀ j, j < a → ∀ n l, putF ps m k j = some (n, l) → ∀ is m' k', Path ps n l is m' k' → ¬ Complete ps k') →
      ((loopF g (List.range' a c) st).1 = true → ∃ is, (loopF g (List.range' a c) st).2.order = o0 ++ is ∧ First ps m k is) ∧
      ((loopF g (List.range' a c) st).1 = false → (loopF g (List.range' a c) st).2.order = o0 ∧ (∀ t ∈ (loopF g (List.range' a c) st).2.tried, t ∈ T ∨ Vain ps base t) ∧
        ∀ is m' k', Path ps m k is m' k' → ¬ Complete ps k') := by
  intro c
  induction c with
  | zero =>
    intro a st hac ho ht hv
    refine ⟨fun h => by simp [loopF] at h, fun _ => ⟨ho, ht, fun is m' k' hp => ?_⟩⟩
    cases hp with
    | nil => exact hk
    | cons hi hp p => exact hv _ (by omega) _ _ hp _ _ _ p
  | succ c ih =>
    intro a st hac ho ht hv
    obtain ⟨h1, h2⟩ := hg a st (by omega) ho ht
    rw [List.range'_succ]
    unfold loopF
    cases hb : (g a st).1 with
    | true =>
      rw [if_pos rfl]
      refine ⟨fun _ => ?_, fun h => by cases h⟩
      obtain ⟨n, l, is, hp, hord, ⟨m', k', hpath, hcomp⟩, hleast⟩ := h1 hb
      refine ⟨a :: is, hord, ⟨m', k', .cons (by omega) hp hpath, hcomp⟩, fun is2 m2 k2 p2 c2 => ?_⟩
      cases p2 with
      | nil => exact absurd c2 hk
      | @cons _ n2 _ _ l2 _ j is2 hj hp2 p2 =>
        by_cases hja : j < a
        · exact absurd c2 (hv j hja _ _ hp2 _ _ _ p2)
        · by_cases e : a = j
          · subst e
            rw [hp] at hp2
            injection hp2 with hp2
            injection hp2 with e1 e2
            subst e1
            subst e2
            exact .eq (hleast _ _ _ p2 c2)
          · exact .lt (by omega)
    | false =>
      rw [if_neg (by simp)]
      obtain ⟨ho2, ht2, hv2⟩ := h2 hb
      refine ih (a + 1) (g a st).2 (by omega) ho2 ht2 fun j hj n l hp => ?_
      by_cases e : j = a
      · subst e; exact hv2 n l hp
      · exact hv j (by omega) n l hp

theorem finds_law {ps : List Past} {base : Int} (hn : ps.length ≤ 12) : ∀ (f : Nat) (m : Mod) (k : Key) (st : St) (l0 : List Nat), Reach ps base l0 m k → ps.length < f + cnt ps k →
    (∀ t ∈ st.tried, cnt ps k ≤ cnt ps t → Vain ps base t) →
    ((findsF ps f m k st).1 = true → ∃ is, (findsF ps f m k st).2.order = st.order ++ is ∧ First ps m k is) ∧
    ((findsF ps f m k st).1 = false → (findsF ps f m k st).2.order = st.order ∧ (∀ t ∈ (findsF ps f m k st).2.tried, t ∈ st.tried ∨ Vain ps base t) ∧ ∀ is m' k', Path ps m k is m' k' → ¬ Complete ps k') := by
  intro f
  induction f with
  | zero =>
    intro m k st l0 hr hf ht
    have := cnt_le ps k
    omega
  | succ f ih =>
    intro m k st l0 hr hf ht
    unfold findsF
    by_cases hc : k.set &&& allF ps = allF ps
    · rw [if_pos hc]
      refine ⟨fun _ => ⟨[], by simp, ⟨m, k, .nil, hc⟩, fun _ _ _ _ _ => .nil⟩, fun h => by cases h⟩
    · rw [if_neg hc]
      by_cases hkt : k ∈ st.tried
      · rw [if_pos hkt]
        refine ⟨(fun h => by cases h), fun _ => ⟨rfl, fun t h => .inl h, fun is m' k' p => ht k hkt (Nat.le_refl _) _ _ hr _ _ _ p⟩⟩
      · rw [if_neg hkt, List.range_eq_range']
        have hvk : (∀ is m' k', Path ps m k is m' k' → ¬ Complete ps k') → Vain ps base k := fun h l m2 hr2 is m' k' p => by
          have := hr.same hn hr2
          subst this
          exact h is m' k' p
        have L := loop_law (ps := ps) (base := base) (m := m) (k := k) (T := k :: st.tried) (o0 := st.order)
          (fun i st => match putF ps m k i with
            | none => (false, st)
            | some (n, l) => if (findsF ps f n l { st with order := st.order ++ [i] }).1 = true then (true, (findsF ps f n l { st with order := st.order ++ [i] }).2)
                else (false, { (findsF ps f n l { st with order := st.order ++ [i] }).2 with order := (findsF ps f n l { st with order := st.order ++ [i] }).2.order.dropLast }))
          (fun i st1 hi ho htr => by
            cases hp : putF ps m k i with
            | none => exact ⟨fun h => by simp at h, fun _ => ⟨ho, htr, fun n l h => by cases h⟩⟩
            | some x =>
              obtain ⟨n, l⟩ := x
              have hcnt := cnt_put hi hp
              obtain ⟨i1, i2⟩ := ih n l { st1 with order := st1.order ++ [i] } (l0 ++ [i]) (hr.snoc hi hp) (by omega) (fun t h hle => by
                rcases htr t h with h | h
                · rcases List.mem_cons.1 h with h | h
                  · subst h; omega
                  · exact ht t h (by omega)
                · exact h)
              dsimp only at i1 i2 ⊢
              cases hb : (findsF ps f n l { st1 with order := st1.order ++ [i] }).1 with
              | true =>
                rw [if_pos rfl]
                refine ⟨fun _ => ?_, fun h => by cases h⟩
                obtain ⟨is, ho2, hfirst⟩ := i1 hb
                exact ⟨n, l, is, rfl, by rw [ho2, ho]; simp, hfirst⟩
              | false =>
                rw [if_neg (by simp)]
                refine ⟨(fun h => by cases h), fun _ => ?_⟩
                obtain ⟨ho2, ht2, hv2⟩ := i2 hb
                refine ⟨by rw [ho2, ho]; simp, fun t h => ?_, fun n' l' e => ?_⟩
                · rcases ht2 t h with h | h
                  · exact htr t h
                  · exact .inr h
                · injection e with e
                  injection e with e1 e2
                  subst e1
                  subst e2
                  exact hv2)
          hc ps.length 0 { st with tried := k :: st.tried } (by omega) rfl (fun t h => .inl h) (fun j hj => by omega)
        obtain ⟨L1, L2⟩ := L
        refine ⟨L1, fun h => ?_⟩
        obtain ⟨l1, l2, l3⟩ := L2 h
        refine ⟨l1, fun t h => ?_, l3⟩
        rcases l2 t h with h | h
        · rcases List.mem_cons.1 h with h | h
          · subst h; exact .inr (hvk l3)
          · exact .inl h
        · exact .inr h

theorem Far.mono {ps : List Past} {base : Int} {t : Key} {d d' : Int} (h : Far ps base t d) (hd : d ≤ d') : Far ps base t d' := fun l m hr is m' k' p => Int.le_trans (h l m hr is m' k' p) hd

theorem walk_law {ps : List Past} {base : Int} {m : Mod} {k : Key} {T : List Key} {M : Int} (g : Nat → St → St)
    (hg : ∀ i st, i < ps.length → M ≤ st.most → (∀ t ∈ st.tried, t ∈ T ∨ Far ps base t st.most) →
      st.most ≤ (g i st).most ∧ (∀ t ∈ (g i st).tried, t ∈ T ∨ Far ps base t (g i st).most) ∧ ∀ n l, putF ps m k i = some (n, l) → ∀ is m' k', Path ps n l is m' k' → (cnt ps k : Int) + 1 + is.length ≤ (g i st).most)
    (hM : (cnt ps k : Int) ≤ M) :
    ∀ (c a : Nat) (st : St), a + c = ps.length → M ≤ st.most → (∀ t ∈ st.tried, t ∈ T ∨ Far ps base t st.most) →
      (∀ j, j < a → ∀ n l, putF ps m k j = some (n, l) → ∀ is m' k', Path ps n l is m' k' → (cnt ps k : Int) + 1 + is.length ≤ st.most) →
      st.most ≤ (walkF g (List.range' a c) st).most ∧ (∀ t ∈ (walkF g (List.range' a c) st).tried, t ∈ T ∨ Far ps base t (walkF g (List.range' a c) st).most) ∧
        ∀ is m' k', Path ps m k is m' k' → (cnt ps k : Int) + is.length ≤ (walkF g (List.range' a c) st).most := by
  intro c
  induction c with
  | zero =>
    intro a st hac hm ht hv
    refine ⟨Int.le_refl _, ht, fun is m' k' hp => ?_⟩
    cases hp with
    | nil =>
      simp only [List.length_nil, List.range'_zero, walkF]
      omega
    | cons hi hp p =>
      have := hv _ (by omega) _ _ hp _ _ _ p
      simp only [List.length_cons, List.range'_zero, walkF]
      omega
  | succ c ih =>
    intro a st hac hm ht hv
    obtain ⟨h1, h2, h3⟩ := hg a st (by omega) hm ht
    rw [List.range'_succ]
    unfold walkF
    obtain ⟨i1, i2, i3⟩ := ih (a + 1) (g a st) (by omega) (by omega) h2 fun j hj n l hp is m' k' p => by
      by_cases e : j = a
      · subst e; exact h3 n l hp is m' k' p
      · have := hv j (by omega) n l hp is m' k' p
        omega
    exact ⟨by omega, i2, i3⟩

theorem goes_law {ps : List Past} {base : Int} (hn : ps.length ≤ 12) : ∀ (f : Nat) (m : Mod) (k : Key) (d : Int) (st : St) (l0 : List Nat), Reach ps base l0 m k → ps.length < f + cnt ps k → d = cnt ps k →
    (∀ t ∈ st.tried, cnt ps k ≤ cnt ps t → Far ps base t st.most) →
    st.most ≤ (goesF ps f m k d st).most ∧ (∀ t ∈ (goesF ps f m k d st).tried, t ∈ st.tried ∨ Far ps base t (goesF ps f m k d st).most) ∧
      ∀ is m' k', Path ps m k is m' k' → (cnt ps k : Int) + is.length ≤ (goesF ps f m k d st).most := by
  intro f
  induction f with
  | zero =>
    intro m k d st l0 hr hf hd ht
    have := cnt_le ps k
    omega
  | succ f ih =>
    intro m k d st l0 hr hf hd ht
    subst hd
    unfold goesF
    by_cases hkt : k ∈ st.tried
    · rw [if_pos hkt]
      exact ⟨Int.le_refl _, fun t h => .inl h, fun is m' k' p => ht k hkt (Nat.le_refl _) _ _ hr _ _ _ p⟩
    · rw [if_neg hkt, List.range_eq_range']
      obtain ⟨L1, L2, L3⟩ := walk_law (ps := ps) (base := base) (m := m) (k := k) (T := k :: st.tried) (M := max st.most (cnt ps k))
        (fun i st => match putF ps m k i with
          | none => st
          | some (m2, l) => goesF ps f m2 l ((cnt ps k : Int) + 1) st)
        (fun i st1 hi hm1 htr => by
          cases hp : putF ps m k i with
          | none => exact ⟨Int.le_refl _, htr, fun n l h => by cases h⟩
          | some x =>
            obtain ⟨n, l⟩ := x
            have hcnt := cnt_put hi hp
            dsimp only
            obtain ⟨i1, i2, i3⟩ := ih n l ((cnt ps k : Int) + 1) st1 (l0 ++ [i]) (hr.snoc hi hp) (by omega) (by omega) (fun t h hle => by
              rcases htr t h with h | h
              · rcases List.mem_cons.1 h with h | h
                · subst h; omega
                · exact (ht t h (by omega)).mono (by omega)
              · exact h)
            refine ⟨i1, fun t h => ?_, fun n' l' e is m' k' p => ?_⟩
            · rcases i2 t h with h | h
              · rcases htr t h with h | h
                · exact .inl h
                · exact .inr (h.mono i1)
              · exact .inr h
            · injection e with e
              injection e with e1 e2
              subst e1
              subst e2
              have := i3 is m' k' p
              omega)
        (by omega) ps.length 0 { st with tried := k :: st.tried, most := max st.most (cnt ps k) } (by omega) (Int.le_refl _) (fun t h => .inl h) (fun j hj => by omega)
      refine ⟨Int.le_trans (Int.le_max_left _ _) L1, fun t h => ?_, L3⟩
      rcases L2 t h with h | h
      · rcases List.mem_cons.1 h with h | h
        · subst h
          refine .inr fun l m2 hr2 is m' k' p => ?_
          have := hr.same hn hr2
          subst this
          exact L3 is m' k' p
        · exact .inl h
      · exact .inr h

/-- Who is in, as bools and as bits. -/
def Match (ps : List Past) (ins : List Bool) (k : Key) : Prop := ins.length = ps.length ∧ ∀ j, j < ps.length → ins.getD j false = k.set.testBit j

theorem Match.put {ps : List Past} {ins : List Bool} {m n : Mod} {k l : Key} {i : Nat} (h : Match ps ins k) (hi : i < ps.length) (hp : putF ps m k i = some (n, l)) : Match ps (ins.set i true) l := by
  obtain ⟨_, _, _, rfl⟩ := putF_some hp
  refine ⟨by rw [List.length_set]; exact h.1, fun j hj => ?_⟩
  rw [or_testBit, ← h.2 j hj, List.getD_eq_getElem?_getD, List.getD_eq_getElem?_getD]
  by_cases e : i = j
  · subst e
    rw [List.getElem?_set_self (by rw [h.1]; exact hi)]
    simp
  · rw [List.getElem?_set_ne e, decide_eq_false e]
    simp

theorem legal_of_path {ps : List Past} {m m' : Mod} {k k' : Key} {is : List Nat} (p : Path ps m k is m' k') : ∀ ins, Match ps ins k → ∃ ins', legalLoop ps (is.map Int.ofNat) m ins = some ins' ∧ Match ps ins' k' := by
  induction p with
  | nil => intro ins h; exact ⟨ins, rfl, h⟩
  | @cons m n m' k l k' i is hi hp p ih =>
    intro ins h
    obtain ⟨h1, h2, h3, _⟩ := putF_some hp
    obtain ⟨ins', e, h'⟩ := ih _ (h.put hi hp)
    refine ⟨ins', ?_, h'⟩
    simp only [List.map_cons, legalLoop]
    rw [if_neg (by simp only [Int.ofNat_eq_natCast]; omega), if_neg, if_neg]
    · simp only [Int.ofNat_eq_natCast, Int.toNat_natCast]
      rw [h3]
      exact e
    · rw [Bool.not_eq_true, List.any_eq_false]
      intro j hj
      rw [List.mem_range] at hj
      simp only [Int.ofNat_eq_natCast, Int.toNat_natCast, Bool.and_eq_true, Bool.not_eq_true', not_and]
      intro ha
      rw [h.2 j hj, h2 j hj ha]
      simp
    · simp only [Int.ofNat_eq_natCast, Int.toNat_natCast]
      rw [h.2 i hi, h1]
      simp

theorem path_of_legal {ps : List Past} : ∀ (order : List Int) (m : Mod) (k : Key) (ins ins' : List Bool), Match ps ins k → legalLoop ps order m ins = some ins' → ∃ is m' k', order = is.map Int.ofNat ∧ Path ps m k is m' k' ∧ Match ps ins' k' := by
  intro order
  induction order with
  | nil =>
    intro m k ins ins' h e
    simp only [legalLoop, Option.some.injEq] at e
    subst e
    exact ⟨[], m, k, rfl, .nil, h⟩
  | cons i is ih =>
    intro m k ins ins' h e
    simp only [legalLoop] at e
    split at e
    · cases e
    · rename_i hi
      split at e
      · cases e
      · rename_i hin
        split at e
        · cases e
        · rename_i ha
          cases hs : stepF m (at' ps i.toNat) with
          | none => rw [hs] at e; cases e
          | some n =>
            rw [hs] at e
            have hil : i.toNat < ps.length := by omega
            have hp := putF_mk (k := k) (i := i.toNat) (by rw [← h.2 _ hil]; simpa using hin) (fun j hj hah => by
              rw [Bool.not_eq_true, List.any_eq_false] at ha
              have := ha j (List.mem_range.2 hj)
              rw [hah] at this
              rw [← h.2 j hj]
              simpa using this) hs
            obtain ⟨is', m', k', e1, p, h'⟩ := ih _ _ _ _ (h.put hil hp) e
            exact ⟨i.toNat :: is', m', k', by simp only [List.map_cons, e1, Int.ofNat_eq_natCast]; rw [Int.toNat_of_nonneg (by omega)], .cons hil hp p, h'⟩

theorem match0 (ps : List Past) : Match ps (List.replicate ps.length false) key0 := by
  refine ⟨by simp, fun j hj => ?_⟩
  simp [key0, List.getD_eq_getElem?_getD, hj]

theorem legal_iff {base : Int} {ps : List Past} {order : List Int} (hb : 1 ≤ base) (ht : timelyF ps = true) :
    legalF base ps order = true ↔ ∃ is m' k', order = is.map Int.ofNat ∧ Path ps (start base) key0 is m' k' ∧ Complete ps k' := by
  have hfin : ∀ ins k, Match ps ins k → ((List.range ps.length).all (fun i => decide ((at' ps i).fin = 0) || ins.getD i false) = true ↔ Complete ps k) := fun ins k h => by
    rw [complete_iff, List.all_eq_true]
    constructor
    · intro h1 j hj hf
      have := h1 j (List.mem_range.2 hj)
      rw [decide_eq_false hf, Bool.false_or, h.2 j hj] at this
      exact this
    · intro h1 j hj
      rw [List.mem_range] at hj
      by_cases hf : (at' ps j).fin = 0
      · rw [decide_eq_true hf]; rfl
      · rw [decide_eq_false hf, Bool.false_or, h.2 j hj]
        exact h1 j hj hf
  unfold legalF
  rw [if_neg (by rw [ht]; simp; omega)]
  constructor
  · intro h
    cases hl : legalLoop ps order (start base) (List.replicate ps.length false) with
    | none => rw [hl] at h; cases h
    | some ins =>
      rw [hl] at h
      obtain ⟨is, m', k', e, p, hm⟩ := path_of_legal _ _ _ _ _ (match0 ps) hl
      exact ⟨is, m', k', e, p, (hfin _ _ hm).1 h⟩
  · rintro ⟨is, m', k', rfl, p, hc⟩
    obtain ⟨ins', e, hm⟩ := legal_of_path p _ (match0 ps)
    rw [e]
    exact (hfin _ _ hm).2 hc

theorem cnt_key0 (ps : List Past) : cnt ps key0 = 0 := cnt_reach (base := 0) (.nil (ps := ps))

theorem begun_ok {base : Int} {ps : List Past} (h : begunF base ps = 0) : 1 ≤ base ∧ ps.length ≤ 12 ∧ openF ps ≤ 4 ∧ timelyF ps = true := by
  unfold begunF at h
  split at h
  · cases h
  · split at h
    · cases h
    · split at h
      · rename_i h1 h2 h3
        exact ⟨by omega, by omega, by omega, h3⟩
      · cases h

/-- What is found is legal, and stands ahead of all that is. -/
theorem search_yes {base : Int} {ps : List Past} (h : begunF base ps = 0) (hs : (searchF base ps).1 = true) : First ps (start base) key0 (searchF base ps).2.order := by
  obtain ⟨hb, hn, _, ht⟩ := begun_ok h
  obtain ⟨is, e, hf⟩ := (finds_law (base := base) hn 13 (start base) key0 st0 [] .nil (by omega) (fun t h => by cases h)).1 hs
  have : (searchF base ps).2.order = is := by unfold searchF; rw [e]; rfl
  rw [this]
  exact hf
theorem search_no {base : Int} {ps : List Past} (h : begunF base ps = 0) (hs : (searchF base ps).1 = false) : ∀ is m' k', Path ps (start base) key0 is m' k' → ¬ Complete ps k' := by
  obtain ⟨hb, hn, _, ht⟩ := begun_ok h
  exact ((finds_law (base := base) hn 13 (start base) key0 st0 [] .nil (by omega) (fun t h => by cases h)).2 hs).2.2
theorem most_far {base : Int} {ps : List Past} (h : begunF base ps = 0) : ∀ is m' k', Path ps (start base) key0 is m' k' → (is.length : Int) ≤ mostF base ps := by
  obtain ⟨hb, hn, _, ht⟩ := begun_ok h
  intro is m' k' p
  have := (goes_law (base := base) hn 13 (start base) key0 0 st0 [] .nil (by omega) (by rw [cnt_key0]; rfl) (fun t h => by cases h)).2.2 is m' k' p
  rw [cnt_key0] at this
  unfold mostF
  simpa using this

/-- The order that is found, as the law goes along it: never behind one that is said. -/
theorem Le.get : ∀ {x y : List Nat}, Le x y → ∀ i, i < x.length → (∀ j, j < i → y.getD j 0 = x.getD j 0) → i < y.length ∧ x.getD i 0 ≤ y.getD i 0 := by
  intro x y h
  induction h with
  | nil => intro i hi; simp at hi
  | @lt a b x y hab =>
    intro i hi hj
    cases i with
    | zero => exact ⟨by simp, by simp; omega⟩
    | succ i =>
      have := hj 0 (by omega)
      simp at this
      omega
  | @eq a x y h ih =>
    intro i hi hj
    cases i with
    | zero => exact ⟨by simp, by simp⟩
    | succ i =>
      obtain ⟨h1, h2⟩ := ih i (by simpa using hi) (fun j hj' => by simpa using hj (j + 1) (by omega))
      exact ⟨by simpa using h1, by simpa using h2⟩

theorem cntF_mono (p q : Nat → Bool) (n : Nat) (h : ∀ j, j < n → p j = true → q j = true) : cntF p n ≤ cntF q n := by
  induction n with
  | zero => exact Nat.le_refl _
  | succ n ih =>
    have := ih fun j hj => h j (by omega)
    have h1 := h n (by omega)
    simp only [cntF]
    by_cases hp : p n = true
    · rw [if_pos hp, if_pos (h1 hp)]; omega
    · rw [if_neg hp]; omega

def doneF (ps : List Past) : Nat := cntF (fun i => decide ((at' ps i).fin ≠ 0)) ps.length
theorem done_le {base : Int} {ps : List Past} {is : List Nat} {m' : Mod} {k' : Key} (p : Path ps (start base) key0 is m' k') (hc : Complete ps k') : doneF ps ≤ is.length := by
  have hr := Reach.path p (.nil (base := base))
  rw [← show ([] ++ is).length = is.length from rfl, ← cnt_reach hr]
  refine cntF_mono _ _ _ fun j hj h => (complete_iff ps k').1 hc j hj (by simpa using h)

end Go.Proofs.Ytgdeoodihhcdjaa.Ln
