/- The contract of put. -/
import Derived.Test.YtgdeoodihhcdjaaNk
import Derived.Test.YtgdeoodihhcdjaaNl
import Derived.Test.YtgdeoodihhcdjaaNn
namespace Go.Proofs.Ytgdeoodihhcdjaa
open Go.RowKit
set_option linter.unusedVariables false
set_option linter.unusedSimpArgs false


/-- What put comes to. -/
def Ln.Puts (w : World) (o : Option (Ln.Mod × Ln.Key)) (e : Ending) (w' : World) : Prop :=
  Below w.heap.size w w' ∧ match o with
    | none => Ln.NoPut e
    | some (n, l) => ∃ (A8 : Option Addr) (l8 c8 : Nat), e = .returned (.tuple #[.agg #[.int .i64 n.base, .int .i64 n.first, .int .i64 n.durable, .int .i64 n.next, .int .i64 n.limit, .slice A8 l8 c8, .bool n.failed, .bool n.closed], .agg (Ln.kc l), .bool true]) ∧ Ln.Recs 0 w' (.slice A8 l8 c8) n.recs
theorem Ln.Got.two {w w' : World} {o : Option Ln.Mod} {e : Ending} (h : Ln.Got w o e w') : Ln.Got2 w (o.getD Ln.zeroM) o.isSome e w' := by
  obtain ⟨h1, h2⟩ := h
  cases o with
  | none => exact ⟨h1, none, 0, 0, h2, fun h => by cases h⟩
  | some t =>
    obtain ⟨v, he, rv, rfl, hr⟩ := h2
    obtain ⟨A8, c8, rfl⟩ := hr.slice
    exact ⟨h1, A8, _, c8, he, fun _ => hr⟩
theorem Ln.KOk.putK {k : Ln.Key} (h : Ln.KOk k) {i : Nat} (hi : i < 12) {p : Ln.Past} {m n : Ln.Mod} (hx : Ln.I64 m.next) : Ln.KOk (Ln.putK k p m n i) := by
  unfold Ln.putK
  by_cases g : p.fin = 0 ∧ m.next < n.next
  · rw [if_pos g]; exact h.put hi hx
  · rw [if_neg g]; exact h.or hi
theorem put_any (mv : Value) (m : Ln.Mod) (k : Ln.Key) (i sb mb bb : Nat) (A : Option Addr) (cp : Nat) (ps : List Ln.Past) (OV : Value) (most : Int) (w : World) (c : Nat)
    (hs : Ln.Sch w sb mb bb A cp ps OV most) (hm : Ln.ModAt w mv m) (hmo : Ln.MOk m c) (hc : c ≤ 1000) (hok : Ln.KOk k) (hp : Ln.Pasts w A cp ps) (hi : i < ps.length) (hn : ps.length ≤ 12) :
    Calls Try.prog 62 #[.pointer (some ⟨sb, 0, none⟩), mv, .agg (Ln.kc k), .int .i64 i] w (Ln.Puts w (Ln.putF ps m k i)) := by
  have hw := hmo.wf hc
  have hd := hmo.dt
  unfold Ln.putF
  cases hb : k.set.testBit i with
  | true =>
    rw [if_pos (.inl rfl)]
    exact put_bit mv m k i sb mb bb A cp ps OV most w hs hm hw hd hok hp hi hn hb
  | false =>
    by_cases hsub : Ln.beforeF ps i &&& k.set = Ln.beforeF ps i
    · rw [if_neg (by simp [hsub])]
      refine (put_go mv m k i sb mb bb A cp ps OV most w hs hm hw hd hok hp hi hn ((Ln.stepF m (Ln.at' ps i)).getD Ln.zeroM) (Ln.stepF m (Ln.at' ps i)).isSome hb hsub (fun cd rd w6 h6 hcd hrd => (step_any mv m _ cd rd w6 (hm.below h6) hw hd hcd hrd).mono fun e w' h => h.two)).mono ?_
      rintro e w' ⟨h1, A8, l8, c8, rfl, h2⟩
      have hK : Ln.KOk (Ln.putK k (Ln.at' ps i) m ((Ln.stepF m (Ln.at' ps i)).getD Ln.zeroM) i) := hok.putK (by omega) ⟨by have := hw.n0; omega, hw.mx⟩
      cases hst : Ln.stepF m (Ln.at' ps i) with
      | none =>
        rw [hst] at hK
        exact ⟨h1, Ln.zeroM, A8, l8, c8, _, hK, rfl⟩
      | some n =>
        rw [hst] at h2
        exact ⟨h1, A8, l8, c8, rfl, h2 rfl⟩
    · rw [if_pos (.inr hsub)]
      exact put_sub mv m k i sb mb bb A cp ps OV most w hs hm hw hd hok hp hi hn hb hsub
/-- What put leaves: the model's shape, the key's. -/
theorem Ln.put_ok {ps : List Ln.Past} {m n : Ln.Mod} {k l : Ln.Key} {i c : Nat} (h : Ln.putF ps m k i = some (n, l)) (hm : Ln.MOk m c) (hk : Ln.KOk k) (hi : i < 12) : Ln.MOk n (c + 1) ∧ Ln.KOk l := by
  unfold Ln.putF at h
  have h := (Ln.some_ite_none h).2
  cases hst : Ln.stepF m (Ln.at' ps i) with
  | none => rw [hst] at h; cases h
  | some n2 =>
    rw [hst] at h
    injection h with h
    injection h with h1 h2
    subst h1
    subst h2
    refine ⟨hm.step hst, ?_⟩
    have hx : Ln.I64 m.next := ⟨by have := hm.nx; have := hm.b0; omega, hm.mx⟩
    exact hk.putK hi hx

end Go.Proofs.Ytgdeoodihhcdjaa
