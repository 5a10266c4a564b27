/- Plain laws of the search for an order: what a step does to a state, and that the state hangs on the key alone. -/
import Derived.Test.YtgdeoodihhcdjaaLa
namespace Go.Proofs.Ytgdeoodihhcdjaa.Ln

theorem maskF_testBit (p : Nat → Bool) (n j : Nat) : (maskF p n).testBit j = (decide (j < n) && p j) := by
  induction n with
  | zero => simp [maskF]
  | succ n ih =>
    unfold maskF
    split
    · rename_i h
      rw [Nat.testBit_or, ih, Nat.one_shiftLeft, Nat.testBit_two_pow]
      by_cases e : n = j
      · subst e; simp [h]
      · by_cases hj : j < n
        · have : j < n + 1 := by omega
          simp [hj, this, e]
        · have : ¬ j < n + 1 := by omega
          simp [hj, this, e]
    · rename_i h
      rw [ih]
      by_cases e : j = n
      · subst e
        have : p j = false := by simpa using h
        simp [this]
      · by_cases hj : j < n
        · have : j < n + 1 := by omega
          simp [hj, this]
        · have : ¬ j < n + 1 := by omega
          simp [hj, this]

theorem sub_iff (a b : Nat) : a &&& b = a ↔ ∀ j, a.testBit j = true → b.testBit j = true := by
  constructor
  · intro h j hj
    have := congrArg (fun x => x.testBit j) h
    simp only [Nat.testBit_and, hj, Bool.true_and] at this
    exact this
  · intro h
    refine Nat.eq_of_testBit_eq fun j => ?_
    rw [Nat.testBit_and]
    cases hj : a.testBit j with
    | false => rfl
    | true => rw [h j hj]; rfl

theorem or_testBit (a i j : Nat) : (a ||| 1 <<< i).testBit j = (a.testBit j || decide (i = j)) := by
  rw [Nat.testBit_or, Nat.one_shiftLeft, Nat.testBit_two_pow]

theorem putF_some {ps : List Past} {m n : Mod} {k l : Key} {i : Nat} (h : putF ps m k i = some (n, l)) :
    k.set.testBit i = false ∧ (∀ j, j < ps.length → aheadF (at' ps j) (at' ps i) = true → k.set.testBit j = true) ∧ stepF m (at' ps i) = some n ∧
      l = ⟨k.set ||| 1 <<< i, if (at' ps i).fin = 0 ∧ m.next < n.next then k.lsns.set i m.next else k.lsns⟩ := by
  unfold putF at h
  split at h
  · cases h
  · rename_i hn
    rw [not_or, Classical.not_not] at hn
    obtain ⟨h1, h2⟩ := hn
    rw [sub_iff] at h2
    cases hs : stepF m (at' ps i) with
    | none => rw [hs] at h; cases h
    | some n' =>
      rw [hs] at h
      simp only [Option.map_some, Option.some.injEq, Prod.mk.injEq] at h
      obtain ⟨rfl, rfl⟩ := h
      refine ⟨by simpa using h1, fun j hj ha => h2 j ?_, rfl, rfl⟩
      unfold beforeF
      rw [maskF_testBit, ha]
      simpa using hj

theorem putF_mk {ps : List Past} {m n : Mod} {k : Key} {i : Nat} (h1 : k.set.testBit i = false) (h2 : ∀ j, j < ps.length → aheadF (at' ps j) (at' ps i) = true → k.set.testBit j = true)
    (h3 : stepF m (at' ps i) = some n) : putF ps m k i = some (n, ⟨k.set ||| 1 <<< i, if (at' ps i).fin = 0 ∧ m.next < n.next then k.lsns.set i m.next else k.lsns⟩) := by
  unfold putF
  rw [if_neg, h3]
  · rfl
  · rw [not_or, Classical.not_not]
    refine ⟨by simp [h1], (sub_iff _ _).2 fun j hj => ?_⟩
    unfold beforeF at hj
    rw [maskF_testBit] at hj
    simp only [Bool.and_eq_true, decide_eq_true_eq] at hj
    exact h2 j hj.1 hj.2

structure Eff where
  tr : Option Int
  du : Option Int
  li : Option Int
  fa : Bool
  cl : Bool
  ad : Option (List UInt8)

def mx : Option Int → Int → Int
  | none, x => x
  | some y, x => max x y
def mn : Option Int → Int → Int
  | none, x => x
  | some y, x => min x y

def appEff (e : Eff) (m : Mod) : Mod :=
  ⟨m.base, mx e.tr m.first, mx e.du m.durable, m.next + e.ad.toList.length, mn e.li m.limit, m.recs ++ e.ad.toList, m.failed || e.fa, m.closed || e.cl⟩

def noEff : Eff := ⟨none, none, none, false, false, none⟩
def effT (c : Call) (r : Res) : Eff :=
  if r.err = 0 then ⟨some c.lsn, some c.lsn, none, false, false, none⟩
  else if r.err = 40 then (if r.lsn = 0 then { noEff with fa := true } else ⟨some c.lsn, some c.lsn, none, true, false, none⟩)
  else noEff
def effA (c : Call) (r : Res) : Eff :=
  if r.err = 41 then noEff
  else if c.kind = 4 ∨ c.kind = 5 then (if r.err = 0 then { noEff with du := some (c.lsn + 1) } else { noEff with fa := decide (r.err = 40) })
  else if c.kind = 1 ∨ c.kind = 2 then
    (if r.err = 0 then { noEff with ad := some c.data }
     else if r.err = 40 then (if r.lsn = 0 then { noEff with fa := true } else { noEff with li := some r.lsn, ad := some c.data })
     else noEff)
  else if c.kind = 6 then effT c r
  else if c.kind = 3 then { noEff with fa := decide (r.err = 40) }
  else { noEff with fa := decide (r.err = 40), cl := true }
def effH (c : Call) : Eff :=
  if c.kind = 1 ∨ c.kind = 2 then { noEff with ad := some c.data }
  else if c.kind = 6 then effT c ⟨0, 0, []⟩
  else { noEff with cl := true }
def eff (p : Past) : Eff := if p.fin = 0 then effH p.call else effA p.call p.res

theorem ite_none_some {α : Type} {c : Prop} [Decidable c] {x : Option α} {t : α} (h : (if c then x else none) = some t) : c ∧ x = some t := by
  split at h
  · exact ⟨‹_›, h⟩
  · cases h

theorem addF_some {s t : Mod} {lsn : Int} {d : List UInt8} (h : addF s lsn d = some t) : lsn = s.next ∧ t = appEff { noEff with ad := some d } s := by
  unfold addF at h
  obtain ⟨_, h⟩ := ite_none_some h
  obtain ⟨⟨⟨_, h1⟩, _⟩, h⟩ := ite_none_some h
  injection h with h
  subst h
  exact ⟨h1, by simp [appEff, noEff, mx, mn]⟩

theorem app_noEff (s : Mod) : appEff noEff s = s := by
  cases s
  simp [appEff, noEff, mx, mn]

theorem frontF_some {s t : Mod} {lsn : Int} (h : frontF s lsn = some t) (h1 : s.first < lsn) : t = appEff { noEff with tr := some lsn, du := some lsn } s := by
  unfold frontF at h
  obtain ⟨_, h⟩ := ite_none_some h
  unfold raiseF at h
  split at h
  · simp only [Option.map_some, Option.some.injEq] at h
    subst h
    simp [appEff, noEff, mx, mn]
    omega
  · cases h

theorem truncF_some {s t : Mod} {c : Call} {r : Res} (h : truncF s c r = some t) (hd : s.first ≤ s.durable) : t = appEff (effT c r) s := by
  unfold truncF at h
  unfold effT
  split at h
  · rename_i h40
    rw [if_neg (by omega), if_pos h40]
    split at h
    · rename_i h0
      rw [if_pos h0]
      injection h with h
      subst h
      simp [appEff, noEff, mx, mn]
    · rename_i h0
      rw [if_neg h0]
      obtain ⟨⟨_, hl⟩, h⟩ := ite_none_some h
      cases hf : frontF s c.lsn with
      | none => rw [hf] at h; cases h
      | some u =>
        rw [hf] at h
        simp only [Option.map_some, Option.some.injEq] at h
        subst h
        rw [frontF_some hf hl]
        simp [appEff, noEff]
  · rename_i h40
    obtain ⟨_, h⟩ := ite_none_some h
    obtain ⟨_, h⟩ := ite_none_some h
    split at h
    · rename_i h0
      rw [if_pos h0]
      split at h
      · rename_i hl
        rw [frontF_some h hl]
        simp [appEff, noEff]
      · rename_i hl
        injection h with h
        subst h
        cases s
        simp [appEff, mx, mn] at hl hd ⊢
        omega
    · rename_i h0
      rw [if_neg h0, if_neg h40]
      split at h
      · obtain ⟨_, h⟩ := ite_none_some h
        injection h with h
        subst h
        exact (app_noEff _).symm
      · obtain ⟨_, h⟩ := ite_none_some h
        injection h with h
        subst h
        exact (app_noEff _).symm

theorem app_fa (s : Mod) : appEff { noEff with fa := true } s = { s with failed := true } := by
  cases s
  simp [appEff, noEff, mx, mn]

theorem syncF_some {s t : Mod} {r : Res} (h : syncF s r = some t) : t = appEff { noEff with fa := decide (r.err = 40) } s := by
  unfold syncF at h
  obtain ⟨_, h⟩ := ite_none_some h
  split at h
  · rename_i h0
    obtain ⟨_, h⟩ := ite_none_some h
    obtain ⟨_, h⟩ := ite_none_some h
    injection h with h
    subst h
    rw [show decide (r.err = 40) = false from decide_eq_false (by omega)]
    exact (app_noEff _).symm
  · obtain ⟨h4, h⟩ := ite_none_some h
    injection h with h
    subst h
    rw [show decide (r.err = 40) = true from decide_eq_true h4, app_fa]

theorem answerF_some {s t : Mod} {c : Call} {r : Res} (h : answerF s c r = some t) (hd : s.first ≤ s.durable) (h41 : r.err ≠ 41) :
    t = appEff (effA c r) s ∧ ((effA c r).ad ≠ none → r.lsn = s.next) := by
  unfold answerF at h
  obtain ⟨_, h⟩ := ite_none_some h
  unfold effA
  rw [if_neg h41]
  split at h
  · rename_i hk
    rw [if_pos hk]
    unfold readF at h
    split at h
    · rename_i h0
      rw [if_pos h0]
      obtain ⟨_, h⟩ := ite_none_some h
      unfold raiseF at h
      obtain ⟨_, h⟩ := ite_none_some h
      injection h with h
      subst h
      exact ⟨by simp [appEff, noEff, mx, mn], fun h => by simp [noEff] at h⟩
    · rename_i h0
      rw [if_neg h0]
      refine ⟨?_, fun h => by simp [noEff] at h⟩
      obtain ⟨_, h⟩ := ite_none_some h
      split at h
      · obtain ⟨_, h⟩ := ite_none_some h
        injection h with h
        subst h
        rw [show decide (r.err = 40) = false from decide_eq_false (by omega)]
        exact (app_noEff _).symm
      · split at h
        · obtain ⟨_, h⟩ := ite_none_some h
          injection h with h
          subst h
          rw [show decide (r.err = 40) = false from decide_eq_false (by omega)]
          exact (app_noEff _).symm
        · split at h
          · obtain ⟨_, h⟩ := ite_none_some h
            injection h with h
            subst h
            rw [show decide (r.err = 40) = false from decide_eq_false (by omega)]
            exact (app_noEff _).symm
          · obtain ⟨h4, h⟩ := ite_none_some h
            obtain ⟨_, h⟩ := ite_none_some h
            injection h with h
            subst h
            rw [show decide (r.err = 40) = true from decide_eq_true h4.1, app_fa]
  · rename_i hk
    rw [if_neg hk]
    split at h
    · rename_i hk1
      rw [if_pos hk1]
      unfold appendF at h
      split at h
      · rename_i h0
        rw [if_pos h0]
        obtain ⟨_, h⟩ := ite_none_some h
        exact ⟨(addF_some h).2, fun _ => (addF_some h).1⟩
      · rename_i h0
        rw [if_neg h0]
        split at h
        · rename_i h4
          rw [if_pos h4]
          split at h
          · rename_i hl
            rw [if_pos hl]
            injection h with h
            subst h
            exact ⟨(app_fa _).symm, fun h => by simp [noEff] at h⟩
          · rename_i hl
            rw [if_neg hl]
            cases ha : addF s r.lsn c.data with
            | none => rw [ha] at h; cases h
            | some u =>
              rw [ha] at h
              simp only [Option.bind_some] at h
              obtain ⟨hn, rfl⟩ := addF_some ha
              unfold capF at h
              obtain ⟨_, h⟩ := ite_none_some h
              injection h with h
              subst h
              exact ⟨by simp [appEff, noEff, mx, mn], fun _ => hn⟩
        · rename_i h4
          rw [if_neg h4]
          obtain ⟨_, h⟩ := ite_none_some h
          obtain ⟨_, h⟩ := ite_none_some h
          obtain ⟨_, h⟩ := ite_none_some h
          injection h with h
          subst h
          exact ⟨(app_noEff _).symm, fun h => by simp [noEff] at h⟩
    · rename_i hk1
      rw [if_neg hk1]
      split at h
      · rename_i hk6
        rw [if_pos hk6]
        refine ⟨truncF_some h hd, fun h => ?_⟩
        unfold effT at h
        split at h
        · simp at h
        · split at h
          · split at h <;> simp [noEff] at h
          · simp [noEff] at h
      · rename_i hk6
        rw [if_neg hk6]
        split at h
        · rename_i hk3
          rw [if_pos hk3]
          exact ⟨syncF_some h, fun h => by simp [noEff] at h⟩
        · rename_i hk3
          rw [if_neg hk3]
          refine ⟨?_, fun h => by simp [noEff] at h⟩
          unfold closeF at h
          cases hs : syncF s r with
          | none => rw [hs] at h; cases h
          | some u =>
            rw [hs] at h
            simp only [Option.map_some, Option.some.injEq] at h
            subst h
            rw [syncF_some hs]
            simp [appEff, noEff]

theorem stepF_some {m n : Mod} {p : Past} (h : stepF m p = some n) (hd : m.first ≤ m.durable) : n = appEff (eff p) m ∧ (p.fin ≠ 0 → (eff p).ad ≠ none → p.res.lsn = m.next) := by
  unfold stepF at h
  unfold eff
  split at h
  · rename_i h0
    rw [if_pos h0]
    refine ⟨?_, fun h => absurd h0 h⟩
    unfold halfF at h
    obtain ⟨_, h⟩ := ite_none_some h
    unfold effH
    split at h
    · rename_i hk
      rw [if_pos hk]
      exact (addF_some h).2
    · rename_i hk
      rw [if_neg hk]
      split at h
      · rename_i h6
        rw [if_pos h6]
        split at h
        · cases h
        · exact truncF_some h hd
      · rename_i h6
        rw [if_neg h6]
        obtain ⟨_, h⟩ := ite_none_some h
        split at h
        · cases h
        · injection h with h
          subst h
          cases m
          simp [appEff, noEff, mx, mn]
  · rename_i h0
    rw [if_neg h0]
    unfold applyF at h
    obtain ⟨_, h⟩ := ite_none_some h
    split at h
    · rename_i h41
      obtain ⟨_, h⟩ := ite_none_some h
      injection h with h
      subst h
      unfold effA
      rw [if_pos h41]
      exact ⟨(app_noEff _).symm, fun _ h => by simp [noEff] at h⟩
    · rename_i h41
      split at h
      · cases h
      · exact ⟨(answerF_some h hd h41).1, fun _ => (answerF_some h hd h41).2⟩

/-- Whatever makes First go on raises Durable as far. -/
theorem eff_tr (p : Past) : (eff p).tr = none ∨ (eff p).du = (eff p).tr := by
  have ht : ∀ c r, (effT c r).tr = none ∨ (effT c r).du = (effT c r).tr := fun c r => by
    unfold effT
    split
    · exact .inr rfl
    · split
      · split
        · exact .inl rfl
        · exact .inr rfl
      · exact .inl rfl
  unfold eff
  split
  · unfold effH
    split
    · exact .inl rfl
    · split
      · exact ht _ _
      · exact .inl rfl
  · unfold effA
    split
    · exact .inl rfl
    · split
      · split <;> exact .inl rfl
      · split
        · split
          · exact .inl rfl
          · split
            · split <;> exact .inl rfl
            · exact .inl rfl
        · split
          · exact ht _ _
          · split <;> exact .inl rfl

theorem app_first {p : Past} {m : Mod} (h : m.first ≤ m.durable) : (appEff (eff p) m).first ≤ (appEff (eff p) m).durable := by
  rcases eff_tr p with h1 | h1
  · show mx (eff p).tr m.first ≤ mx (eff p).du m.durable
    rw [h1]
    cases (eff p).du with
    | none => exact h
    | some y => simp only [mx]; omega
  · show mx (eff p).tr m.first ≤ mx (eff p).du m.durable
    rw [h1]
    cases (eff p).tr with
    | none => exact h
    | some y => simp only [mx]; omega

/-- x is the greatest of b and of what P takes. -/
def IsMax (P : Int → Prop) (b x : Int) : Prop := b ≤ x ∧ (∀ y, P y → y ≤ x) ∧ (x = b ∨ P x)
def IsMin (P : Int → Prop) (b x : Int) : Prop := x ≤ b ∧ (∀ y, P y → x ≤ y) ∧ (x = b ∨ P x)
theorem IsMax.unique {P : Int → Prop} {b x y : Int} (h : IsMax P b x) (k : IsMax P b y) : x = y := by
  obtain ⟨h1, h2, h3⟩ := h
  obtain ⟨k1, k2, k3⟩ := k
  have a : x ≤ y := by
    rcases h3 with rfl | h3
    · exact k1
    · exact k2 _ h3
  have b : y ≤ x := by
    rcases k3 with rfl | k3
    · exact h1
    · exact h2 _ k3
  omega
theorem IsMin.unique {P : Int → Prop} {b x y : Int} (h : IsMin P b x) (k : IsMin P b y) : x = y := by
  obtain ⟨h1, h2, h3⟩ := h
  obtain ⟨k1, k2, k3⟩ := k
  have a : y ≤ x := by
    rcases h3 with rfl | h3
    · exact k1
    · exact k2 _ h3
  have b : x ≤ y := by
    rcases k3 with rfl | k3
    · exact h1
    · exact h2 _ k3
  omega
theorem IsMax.snoc {P Q : Int → Prop} {b x : Int} {o : Option Int} (h : IsMax P b x) (hq : ∀ y, Q y ↔ P y ∨ o = some y) : IsMax Q b (mx o x) := by
  obtain ⟨h1, h2, h3⟩ := h
  cases o with
  | none =>
    refine ⟨h1, fun y hy => ?_, ?_⟩
    · rcases (hq y).1 hy with h | h
      · exact h2 y h
      · cases h
    · rcases h3 with h3 | h3
      · exact .inl h3
      · exact .inr ((hq _).2 (.inl h3))
  | some z =>
    refine ⟨by simp only [mx]; omega, fun y hy => ?_, ?_⟩
    · rcases (hq y).1 hy with h | h
      · have := h2 y h
        simp only [mx]; omega
      · injection h with h
        simp only [mx]; omega
    · by_cases hz : z ≤ x
      · have e : mx (some z) x = x := by simp only [mx]; omega
        rw [e]
        rcases h3 with h3 | h3
        · exact .inl h3
        · exact .inr ((hq _).2 (.inl h3))
      · have e : mx (some z) x = z := by simp only [mx]; omega
        rw [e]
        exact .inr ((hq _).2 (.inr rfl))
theorem IsMin.snoc {P Q : Int → Prop} {b x : Int} {o : Option Int} (h : IsMin P b x) (hq : ∀ y, Q y ↔ P y ∨ o = some y) : IsMin Q b (mn o x) := by
  obtain ⟨h1, h2, h3⟩ := h
  cases o with
  | none =>
    refine ⟨h1, fun y hy => ?_, ?_⟩
    · rcases (hq y).1 hy with h | h
      · exact h2 y h
      · cases h
    · rcases h3 with h3 | h3
      · exact .inl h3
      · exact .inr ((hq _).2 (.inl h3))
  | some z =>
    refine ⟨by simp only [mn]; omega, fun y hy => ?_, ?_⟩
    · rcases (hq y).1 hy with h | h
      · have := h2 y h
        simp only [mn]; omega
      · injection h with h
        simp only [mn]; omega
    · by_cases hz : x ≤ z
      · have e : mn (some z) x = x := by simp only [mn]; omega
        rw [e]
        rcases h3 with h3 | h3
        · exact .inl h3
        · exact .inr ((hq _).2 (.inl h3))
      · have e : mn (some z) x = z := by simp only [mn]; omega
        rw [e]
        exact .inr ((hq _).2 (.inr rfl))

/-- An order so far, the state and the key behind it. -/
inductive Reach (ps : List Past) (base : Int) : List Nat → Mod → Key → Prop
  | nil : Reach ps base [] (start base) key0
  | snoc {l : List Nat} {m n : Mod} {k k' : Key} {i : Nat} : Reach ps base l m k → i < ps.length → putF ps m k i = some (n, k') → Reach ps base (l ++ [i]) n k'

theorem Reach.mem {ps : List Past} {base : Int} {l : List Nat} {m : Mod} {k : Key} (h : Reach ps base l m k) : (∀ j, k.set.testBit j = true ↔ j ∈ l) ∧ k.lsns.length = 12 ∧ (∀ j ∈ l, j < ps.length) := by
  induction h with
  | nil => exact ⟨fun j => by simp [key0], rfl, fun j hj => by cases hj⟩
  | snoc h hi hp ih =>
    obtain ⟨_, _, _, rfl⟩ := putF_some hp
    refine ⟨fun j => ?_, ?_, fun j hj => ?_⟩
    · rw [or_testBit, Bool.or_eq_true, decide_eq_true_eq, ih.1 j, List.mem_append, List.mem_singleton]
      exact ⟨fun h => h.imp id Eq.symm, fun h => h.imp id Eq.symm⟩
    · dsimp only
      split
      · rw [List.length_set]; exact ih.2.1
      · exact ih.2.1
    · rcases List.mem_append.1 hj with hj | hj
      · exact ih.2.2 j hj
      · rw [List.mem_singleton.1 hj]; exact hi

def lsnK (ps : List Past) (k : Key) (i : Nat) : Int := if (at' ps i).fin = 0 then k.lsns.getD i 0 else (at' ps i).res.lsn

structure Canon (ps : List Past) (base : Int) (l : List Nat) (m : Mod) (k : Key) : Prop where
  hbase : m.base = base
  fd : m.first ≤ m.durable
  next : m.next = base + m.recs.length
  first : IsMax (fun y => ∃ i ∈ l, (eff (at' ps i)).tr = some y) base m.first
  durable : IsMax (fun y => ∃ i ∈ l, (eff (at' ps i)).du = some y) base m.durable
  limit : IsMin (fun y => ∃ i ∈ l, (eff (at' ps i)).li = some y) 9223372036854775807 m.limit
  failed : m.failed = true ↔ ∃ i ∈ l, (eff (at' ps i)).fa = true
  closed : m.closed = true ↔ ∃ i ∈ l, (eff (at' ps i)).cl = true
  rec1 : ∀ i ∈ l, ∀ d, (eff (at' ps i)).ad = some d → ∃ p : Nat, lsnK ps k i = base + p ∧ m.recs[p]? = some d
  rec2 : ∀ p : Nat, p < m.recs.length → ∃ i ∈ l, ∃ d, (eff (at' ps i)).ad = some d ∧ lsnK ps k i = base + p

theorem Reach.canon {ps : List Past} {base : Int} (hn : ps.length ≤ 12) {l : List Nat} {m : Mod} {k : Key} (h : Reach ps base l m k) : Canon ps base l m k := by
  induction h with
  | nil =>
    refine ⟨rfl, Int.le_refl _, by simp [start], ⟨Int.le_refl _, ?_, .inl rfl⟩, ⟨Int.le_refl _, ?_, .inl rfl⟩, ⟨Int.le_refl _, ?_, .inl rfl⟩, by simp [start], by simp [start], ?_, ?_⟩
    · intro y h; simp at h
    · intro y h; simp at h
    · intro y h; simp at h
    · intro i hi; cases hi
    · intro p hp; simp [start] at hp
  | @snoc l m n k k' i h hi hp ih =>
    obtain ⟨hmem, hlen, hlt⟩ := h.mem
    obtain ⟨hni, hb, hs, rfl⟩ := putF_some hp
    obtain ⟨rfl, hlsn⟩ := stepF_some hs ih.fd
    have hil : ∀ j ∈ l, j ≠ i := fun j hj e => by
      subst e
      rw [(hmem j).2 hj] at hni
      cases hni
    have hex : ∀ (P : Nat → Prop), (∃ j ∈ l ++ [i], P j) ↔ (∃ j ∈ l, P j) ∨ P i := fun P => by
      constructor
      · rintro ⟨j, hj, hp⟩
        rcases List.mem_append.1 hj with hj | hj
        · exact .inl ⟨j, hj, hp⟩
        · rw [List.mem_singleton.1 hj] at hp; exact .inr hp
      · rintro (⟨j, hj, hp⟩ | hp)
        · exact ⟨j, List.mem_append_left _ hj, hp⟩
        · exact ⟨i, by simp, hp⟩
    have hkeep : ∀ j ∈ l, lsnK ps ⟨k.set ||| 1 <<< i, if (at' ps i).fin = 0 ∧ m.next < (appEff (eff (at' ps i)) m).next then k.lsns.set i m.next else k.lsns⟩ j = lsnK ps k j := fun j hj => by
      unfold lsnK
      split
      · dsimp only
        split
        · rw [List.getD_eq_getElem?_getD, List.getD_eq_getElem?_getD, List.getElem?_set_ne (fun e => hil j hj e.symm)]
        · rfl
      · rfl
    have hnew : ∀ d, (eff (at' ps i)).ad = some d → lsnK ps ⟨k.set ||| 1 <<< i, if (at' ps i).fin = 0 ∧ m.next < (appEff (eff (at' ps i)) m).next then k.lsns.set i m.next else k.lsns⟩ i = base + m.recs.length := fun d hd => by
      unfold lsnK
      split
      · rename_i h0
        have hlt : m.next < (appEff (eff (at' ps i)) m).next := by simp [appEff, hd]; omega
        dsimp only
        rw [if_pos ⟨h0, hlt⟩, List.getD_eq_getElem?_getD, List.getElem?_set_self (by omega)]
        exact ih.next
      · rename_i h0
        rw [hlsn h0 (by rw [hd]; simp), ih.next]
    refine ⟨ih.hbase, app_first ih.fd, ?_, ih.first.snoc fun y => hex _, ih.durable.snoc fun y => hex _, ih.limit.snoc fun y => hex _, ?_, ?_, ?_, ?_⟩
    · simp only [appEff, List.length_append]
      have := ih.next
      omega
    · rw [hex, ← ih.failed]
      simp [appEff]
    · rw [hex, ← ih.closed]
      simp [appEff]
    · intro j hj d hd
      rcases List.mem_append.1 hj with hj | hj
      · obtain ⟨p, h1, h2⟩ := ih.rec1 j hj d hd
        refine ⟨p, (hkeep j hj).trans h1, ?_⟩
        have hp : p < m.recs.length := (List.getElem?_eq_some_iff.1 h2).1
        show (m.recs ++ _)[p]? = some d
        rw [List.getElem?_append_left hp]
        exact h2
      · rw [List.mem_singleton.1 hj] at hd ⊢
        refine ⟨m.recs.length, hnew d hd, ?_⟩
        show (m.recs ++ (eff (at' ps i)).ad.toList)[m.recs.length]? = some d
        rw [hd]
        simp
    · intro p hp
      by_cases hpl : p < m.recs.length
      · obtain ⟨j, hj, d, hd, he⟩ := ih.rec2 p hpl
        exact ⟨j, List.mem_append_left _ hj, d, hd, (hkeep j hj).trans he⟩
      · have hp' : p < (m.recs ++ (eff (at' ps i)).ad.toList).length := hp
        rw [List.length_append] at hp'
        cases hd : (eff (at' ps i)).ad with
        | none => rw [hd] at hp'; simp at hp'; omega
        | some d =>
          rw [hd] at hp'
          simp at hp'
          refine ⟨i, by simp, d, hd, ?_⟩
          rw [hnew d hd]
          omega

/-- The state hangs on the key alone. -/
theorem Reach.same {ps : List Past} {base : Int} (hn : ps.length ≤ 12) {l l' : List Nat} {m m' : Mod} {k : Key} (h : Reach ps base l m k) (h' : Reach ps base l' m' k) : m = m' := by
  have hm : ∀ j, j ∈ l ↔ j ∈ l' := fun j => (h.mem.1 j).symm.trans (h'.mem.1 j)
  have c := h.canon hn
  have c' := h'.canon hn
  have hex : ∀ (P : Nat → Prop), (∃ j ∈ l, P j) ↔ (∃ j ∈ l', P j) := fun P => ⟨fun ⟨j, hj, hp⟩ => ⟨j, (hm j).1 hj, hp⟩, fun ⟨j, hj, hp⟩ => ⟨j, (hm j).2 hj, hp⟩⟩
  have hf : m.first = m'.first := c.first.unique (by have := c'.first; simp only [← hex] at this; exact this)
  have hd : m.durable = m'.durable := c.durable.unique (by have := c'.durable; simp only [← hex] at this; exact this)
  have hl : m.limit = m'.limit := c.limit.unique (by have := c'.limit; simp only [← hex] at this; exact this)
  have hfa : m.failed = m'.failed := Bool.eq_iff_iff.2 (c.failed.trans ((hex _).trans c'.failed.symm))
  have hcl : m.closed = m'.closed := Bool.eq_iff_iff.2 (c.closed.trans ((hex _).trans c'.closed.symm))
  have hr : m.recs = m'.recs := by
    refine List.ext_getElem? fun p => ?_
    by_cases hp : p < m.recs.length
    · obtain ⟨i, hi, d, hd, he⟩ := c.rec2 p hp
      obtain ⟨p1, e1, g1⟩ := c.rec1 i hi d hd
      obtain ⟨p2, e2, g2⟩ := c'.rec1 i ((hm i).1 hi) d hd
      have a1 : p1 = p := by omega
      have a2 : p2 = p := by omega
      subst a1
      subst a2
      rw [g1, g2]
    · by_cases hp' : p < m'.recs.length
      · obtain ⟨i, hi, d, hd, he⟩ := c'.rec2 p hp'
        obtain ⟨p1, e1, g1⟩ := c.rec1 i ((hm i).2 hi) d hd
        have a1 : p1 = p := by omega
        subst a1
        exact absurd (List.getElem?_eq_some_iff.1 g1).1 hp
      · rw [List.getElem?_eq_none (by omega), List.getElem?_eq_none (by omega)]
  have hnx : m.next = m'.next := by rw [c.next, c'.next, hr]
  have hb : m.base = m'.base := c.hbase.trans c'.hbase.symm
  cases m
  cases m'
  simp_all

end Go.Proofs.Ytgdeoodihhcdjaa.Ln
