/- A step keeps the model's shape. -/
import Derived.Test.YtgdeoodihhcdjaaNh
namespace Go.Proofs.Ytgdeoodihhcdjaa
open Go.RowKit
set_option linter.unusedVariables false
set_option linter.unusedSimpArgs false


/-- What a step may do to a model. -/
structure Ln.Grows (s t : Ln.Mod) : Prop where
  base : t.base = s.base
  first : s.first ≤ t.first
  recs : (t.recs = s.recs ∧ t.next = s.next) ∨ ∃ d : List UInt8, d.length ≤ 4096 ∧ t.recs = s.recs ++ [d] ∧ t.next = s.next + 1 ∧ s.next < 9223372036854775807
theorem Ln.Grows.refl (s : Ln.Mod) : Ln.Grows s s := ⟨rfl, Int.le_refl _, .inl ⟨rfl, rfl⟩⟩
theorem Ln.Grows.back {s t u : Ln.Mod} (h : Ln.Grows s t) (hb : u.base = t.base) (hf : t.first ≤ u.first) (hr : u.recs = t.recs) (hn : u.next = t.next) : Ln.Grows s u :=
  ⟨hb.trans h.base, Int.le_trans h.first hf, by rw [hr, hn]; exact h.recs⟩
theorem Ln.add_grows {s t : Ln.Mod} {lsn : Int} {d : List UInt8} (h : Ln.addF s lsn d = some t) : Ln.Grows s t := by
  unfold Ln.addF at h
  obtain ⟨_, h⟩ := Ln.ite_none_some h
  obtain ⟨⟨⟨h1, h2⟩, h3⟩, h⟩ := Ln.ite_none_some h
  injection h with h
  subst h
  exact ⟨rfl, Int.le_refl _, .inr ⟨d, h1, rfl, rfl, by omega⟩⟩
theorem Ln.raise_grows {s t : Ln.Mod} {n : Int} (h : Ln.raiseF s n = some t) : t = { s with durable := max s.durable n } := by
  unfold Ln.raiseF at h
  obtain ⟨_, h⟩ := Ln.ite_none_some h
  injection h with h
  exact h.symm
theorem Ln.cap_grows {s t u : Ln.Mod} {n : Int} (h : Ln.capF t n = some u) (hs : Ln.Grows s t) : Ln.Grows s u := by
  unfold Ln.capF at h
  obtain ⟨_, h⟩ := Ln.ite_none_some h
  injection h with h
  subst h
  exact hs.back rfl (Int.le_refl _) rfl rfl
theorem Ln.append_grows {s t : Ln.Mod} {c : Ln.Call} {r : Ln.Res} (h : Ln.appendF s c r = some t) : Ln.Grows s t := by
  unfold Ln.appendF at h
  split at h
  · obtain ⟨_, h⟩ := Ln.ite_none_some h
    exact Ln.add_grows h
  · split at h
    · split at h
      · injection h with h
        subst h
        exact (Ln.Grows.refl s).back rfl (Int.le_refl _) rfl rfl
      · cases ha : Ln.addF s r.lsn c.data with
        | none => rw [ha] at h; cases h
        | some u => rw [ha] at h; exact Ln.cap_grows h (Ln.add_grows ha)
    · split at h
      · obtain ⟨_, h⟩ := Ln.ite_none_some h
        obtain ⟨_, h⟩ := Ln.ite_none_some h
        injection h with h
        subst h
        exact Ln.Grows.refl s
      · cases h
theorem Ln.sync_grows {s t : Ln.Mod} {r : Ln.Res} (h : Ln.syncF s r = some t) : Ln.Grows s t := by
  unfold Ln.syncF at h
  obtain ⟨_, h⟩ := Ln.ite_none_some h
  split at h
  · obtain ⟨_, h⟩ := Ln.ite_none_some h
    obtain ⟨_, h⟩ := Ln.ite_none_some h
    injection h with h
    subst h
    exact Ln.Grows.refl s
  · obtain ⟨_, h⟩ := Ln.ite_none_some h
    injection h with h
    subst h
    exact (Ln.Grows.refl s).back rfl (Int.le_refl _) rfl rfl
theorem Ln.close_grows {s t : Ln.Mod} {r : Ln.Res} (h : Ln.closeF s r = some t) : Ln.Grows s t := by
  unfold Ln.closeF at h
  cases ha : Ln.syncF s r with
  | none => rw [ha] at h; cases h
  | some u =>
    rw [ha] at h
    injection h with h
    subst h
    exact (Ln.sync_grows ha).back rfl (Int.le_refl _) rfl rfl
theorem Ln.read_grows {s t : Ln.Mod} {c : Ln.Call} {r : Ln.Res} (h : Ln.readF s c r = some t) : Ln.Grows s t := by
  have same : ∀ {u : Ln.Mod}, u = s → Ln.Grows s u := fun e => e ▸ Ln.Grows.refl s
  unfold Ln.readF at h
  split at h
  · obtain ⟨_, h⟩ := Ln.ite_none_some h
    rw [Ln.raise_grows h]
    exact (Ln.Grows.refl s).back rfl (Int.le_refl _) rfl rfl
  · obtain ⟨_, h⟩ := Ln.ite_none_some h
    split at h
    · obtain ⟨_, h⟩ := Ln.ite_none_some h
      injection h with h
      exact same h.symm
    · split at h
      · obtain ⟨_, h⟩ := Ln.ite_none_some h
        injection h with h
        exact same h.symm
      · split at h
        · obtain ⟨_, h⟩ := Ln.ite_none_some h
          injection h with h
          exact same h.symm
        · obtain ⟨_, h⟩ := Ln.ite_none_some h
          obtain ⟨_, h⟩ := Ln.ite_none_some h
          injection h with h
          subst h
          exact (Ln.Grows.refl s).back rfl (Int.le_refl _) rfl rfl
theorem Ln.front_grows {s t : Ln.Mod} {n : Int} (h : Ln.frontF s n = some t) (h1 : s.first < n) : Ln.Grows s t := by
  unfold Ln.frontF at h
  obtain ⟨_, h⟩ := Ln.ite_none_some h
  cases ha : Ln.raiseF s n with
  | none => rw [ha] at h; cases h
  | some u =>
    rw [ha] at h
    injection h with h
    subst h
    rw [Ln.raise_grows ha]
    exact (Ln.Grows.refl s).back rfl (by simp; omega) rfl rfl
theorem Ln.trunc_grows {s t : Ln.Mod} {c : Ln.Call} {r : Ln.Res} (h : Ln.truncF s c r = some t) : Ln.Grows s t := by
  unfold Ln.truncF at h
  split at h
  · split at h
    · injection h with h
      subst h
      exact (Ln.Grows.refl s).back rfl (Int.le_refl _) rfl rfl
    · obtain ⟨h1, h⟩ := Ln.ite_none_some h
      cases ha : Ln.frontF s c.lsn with
      | none => rw [ha] at h; cases h
      | some u =>
        rw [ha] at h
        injection h with h
        subst h
        exact (Ln.front_grows ha h1.2).back rfl (Int.le_refl _) rfl rfl
  · obtain ⟨_, h⟩ := Ln.ite_none_some h
    obtain ⟨_, h⟩ := Ln.ite_none_some h
    split at h
    · split at h
      · rename_i h1
        exact Ln.front_grows h h1
      · injection h with h
        subst h
        exact Ln.Grows.refl s
    · split at h
      · obtain ⟨_, h⟩ := Ln.ite_none_some h
        injection h with h
        subst h
        exact Ln.Grows.refl s
      · obtain ⟨_, h⟩ := Ln.ite_none_some h
        injection h with h
        subst h
        exact Ln.Grows.refl s
theorem Ln.answer_grows {s t : Ln.Mod} {c : Ln.Call} {r : Ln.Res} (h : Ln.answerF s c r = some t) : Ln.Grows s t := by
  unfold Ln.answerF at h
  obtain ⟨_, h⟩ := Ln.ite_none_some h
  split at h
  · exact Ln.read_grows h
  · split at h
    · exact Ln.append_grows h
    · split at h
      · exact Ln.trunc_grows h
      · split at h
        · exact Ln.sync_grows h
        · exact Ln.close_grows h
theorem Ln.some_ite_none {α : Type} {c : Prop} [Decidable c] {x : Option α} {t : α} (h : (if c then none else x) = some t) : ¬ c ∧ x = some t := by
  split at h
  · cases h
  · exact ⟨by assumption, h⟩
theorem Ln.step_grows {s t : Ln.Mod} {p : Ln.Past} (h : Ln.stepF s p = some t) : Ln.Grows s t := by
  unfold Ln.stepF at h
  split at h
  · unfold Ln.halfF at h
    obtain ⟨_, h⟩ := Ln.ite_none_some h
    split at h
    · exact Ln.add_grows h
    · split at h
      · exact Ln.trunc_grows (Ln.some_ite_none h).2
      · obtain ⟨_, h⟩ := Ln.ite_none_some h
        have h := (Ln.some_ite_none h).2
        injection h with h
        subst h
        exact (Ln.Grows.refl s).back rfl (Int.le_refl _) rfl rfl
  · unfold Ln.applyF at h
    obtain ⟨_, h⟩ := Ln.ite_none_some h
    split at h
    · obtain ⟨_, h⟩ := Ln.ite_none_some h
      injection h with h
      subst h
      exact Ln.Grows.refl s
    · exact Ln.answer_grows (Ln.some_ite_none h).2
/-- A model that the search may hold, c records at most. -/
structure Ln.MOk (m : Ln.Mod) (c : Nat) : Prop where
  b0 : 0 ≤ m.base
  bf : m.base ≤ m.first
  nx : m.next = m.base + m.recs.length
  mx : m.next ≤ 9223372036854775807
  ln : m.recs.length ≤ c
  dt : ∀ r ∈ m.recs, r.length ≤ 4096
theorem Ln.MOk.wf {m : Ln.Mod} {c : Nat} (h : Ln.MOk m c) (hc : c ≤ 1000) : Ln.WF m := ⟨h.b0, h.bf, h.nx, h.mx, Nat.le_trans h.ln hc⟩
theorem Ln.MOk.step {m n : Ln.Mod} {c : Nat} {p : Ln.Past} (h : Ln.MOk m c) (hs : Ln.stepF m p = some n) : Ln.MOk n (c + 1) := by
  obtain ⟨g1, g2, g3⟩ := Ln.step_grows hs
  have := h.b0; have := h.bf; have := h.nx; have := h.mx; have := h.ln
  rcases g3 with ⟨g3, g4⟩ | ⟨d, hd, g3, g4, g5⟩
  · exact ⟨by omega, by omega, by rw [g3]; omega, by omega, by rw [g3]; omega, by rw [g3]; exact h.dt⟩
  · refine ⟨by omega, by omega, by rw [g3]; simp; omega, by omega, by rw [g3]; simp; omega, fun r hr => ?_⟩
    rw [g3] at hr
    rcases List.mem_append.1 hr with hr | hr
    · exact h.dt r hr
    · rw [List.mem_singleton.1 hr]; exact hd
theorem Ln.mok_zero : Ln.MOk Ln.zeroM 0 := ⟨by decide, by decide, by decide, by decide, by decide, fun r hr => by cases hr⟩
theorem Ln.mok_start {base : Int} (h : 0 ≤ base) (h2 : base ≤ 9223372036854775807) : Ln.MOk (Ln.start base) 0 := ⟨h, Int.le_refl _, by simp [Ln.start], h2, by simp [Ln.start], fun r hr => by cases hr⟩

end Go.Proofs.Ytgdeoodihhcdjaa
