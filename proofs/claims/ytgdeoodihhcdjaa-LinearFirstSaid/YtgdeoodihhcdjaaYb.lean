/- A list of pasts, an order, that came in. -/
import Derived.Test.YtgdeoodihhcdjaaYa
namespace Go.Proofs.Ytgdeoodihhcdjaa
open Go.ChangeShapes Go.WideShapes Go.ChangeAt Go.RowKit Go.Deep
set_option linter.unusedVariables false
set_option linter.unusedSimpArgs false

theorem Qu.i64_of_wf {x : Int} (h : (Lit.int .i64 x).wf = true) : Ln.I64 x := by
  simp [Lit.wf, IntKind.min, IntKind.max, IntKind.signed, IntKind.bits] at h
  unfold Ln.I64
  omega
theorem Qu.arr8 {x : List Value} (h : x.length = 8) : ∃ x0 x1 x2 x3 x4 x5 x6 x7, x = [x0, x1, x2, x3, x4, x5, x6, x7] := by
  match x, h with
  | [x0, x1, x2, x3, x4, x5, x6, x7], _ => exact ⟨x0, x1, x2, x3, x4, x5, x6, x7, rfl⟩
theorem Qu.list_of {Q : Nat → Ln.Past → Prop} : ∀ n, (∀ i, i < n → ∃ p, Q i p) → ∃ l : List Ln.Past, l.length = n ∧ ∀ i, i < n → Q i (Ln.at' l i)
  | 0, _ => ⟨[], rfl, fun i h => by omega⟩
  | n + 1, h => by
    obtain ⟨l, hl, hq⟩ := Qu.list_of n (fun i hi => h i (by omega))
    obtain ⟨p, hp⟩ := h n (by omega)
    refine ⟨l ++ [p], by simp [hl], fun i hi => ?_⟩
    unfold Ln.at'
    by_cases hn : i < n
    · rw [List.getD_eq_getElem?_getD, List.getElem?_append_left (by omega), ← List.getD_eq_getElem?_getD]
      exact hq i hn
    · have : i = n := by omega
      subst this
      rw [List.getD_eq_getElem?_getD, List.getElem?_append_right (by omega)]
      simpa [hl] using hp
theorem Qu.int_list_of {Q : Nat → Int → Prop} : ∀ n, (∀ i, i < n → ∃ p, Q i p) → ∃ l : List Int, l.length = n ∧ ∀ i, i < n → Q i (l.getD i 0)
  | 0, _ => ⟨[], rfl, fun i h => by omega⟩
  | n + 1, h => by
    obtain ⟨l, hl, hq⟩ := Qu.int_list_of n (fun i hi => h i (by omega))
    obtain ⟨p, hp⟩ := h n (by omega)
    refine ⟨l ++ [p], by simp [hl], fun i hi => ?_⟩
    by_cases hn : i < n
    · rw [List.getD_eq_getElem?_getD, List.getElem?_append_left (by omega), ← List.getD_eq_getElem?_getD]
      exact hq i hn
    · have : i = n := by omega
      subst this
      rw [List.getD_eq_getElem?_getD, List.getElem?_append_right (by omega)]
      simpa [hl] using hp
section
variable {H : Type} {enc : TypeId × Value → H} {w : World} {base : Nat} {spare : Nat → Bool} {held : Bool}
theorem Qu.open_past {n : Nat} {cs : List Value} {y : DataW H × List MemPlace} (h : DataW.trod enc Try.prog w base spare held n 66 cs = some y) (hl : cs.length = 8) :
    ∃ (p : Ln.Past) (cd rd : Value), cs = [.int .i64 p.call.kind, .int .i64 p.call.lsn, cd, .int .i64 p.res.err, .int .i64 p.res.lsn, rd, .int .i64 p.beg, .int .i64 p.fin] ∧ Ln.Rd w cd (Ln.u8s p.call.data) ∧ Ln.Rd w rd (Ln.u8s p.res.data) := by
  obtain ⟨x0, x1, x2, x3, x4, x5, x6, x7, rfl⟩ := Qu.arr8 hl
  obtain ⟨xs, n', rfl, _, _, hxl, hf⟩ := DataW.trod_struct Try.underlying66 h
  have h0 : DataW.trod enc Try.prog w base spare held n' 62 (([x0, x1, x2, x3, x4, x5, x6, x7].drop 0).take (Try.prog.cellsOf 62)) = xs[0]? := hf 0 _ rfl
  have h1 : DataW.trod enc Try.prog w base spare held n' 64 (([x0, x1, x2, x3, x4, x5, x6, x7].drop 3).take (Try.prog.cellsOf 64)) = xs[1]? := hf 1 _ rfl
  have h2 : DataW.trod enc Try.prog w base spare held n' 3 (([x0, x1, x2, x3, x4, x5, x6, x7].drop 6).take (Try.prog.cellsOf 3)) = xs[2]? := hf 2 _ rfl
  have h3 : DataW.trod enc Try.prog w base spare held n' 3 (([x0, x1, x2, x3, x4, x5, x6, x7].drop 7).take (Try.prog.cellsOf 3)) = xs[3]? := hf 3 _ rfl
  rw [Qu.c62] at h0
  rw [Qu.c64] at h1
  rw [Qu.c3] at h2 h3
  change DataW.trod enc Try.prog w base spare held n' 62 [x0, x1, x2] = _ at h0
  change DataW.trod enc Try.prog w base spare held n' 64 [x3, x4, x5] = _ at h1
  change DataW.trod enc Try.prog w base spare held n' 3 [x6] = _ at h2
  change DataW.trod enc Try.prog w base spare held n' 3 [x7] = _ at h3
  have hxl : xs.length = 4 := hxl
  rw [List.getElem?_eq_getElem (by omega)] at h0 h1 h2 h3
  obtain ⟨k, l, d, rfl, rfl, hd⟩ := Qu.open_call h0
  obtain ⟨k2, l2, d2, rfl, rfl, hd2⟩ := Qu.open_res h1
  obtain ⟨b, rfl, _⟩ := Qu.trod_int_cell Try.underlying3 h2
  obtain ⟨f, rfl, _⟩ := Qu.trod_int_cell Try.underlying3 h3
  exact ⟨⟨⟨k, l, d⟩, ⟨k2, l2, d2⟩, b, f⟩, x2, x5, rfl, hd, hd2⟩
theorem Qu.open_pasts {A : Option Addr} {len cap : Nat} {d : DataW H} {p : List MemPlace} (h : DataW.Trod enc Try.prog w base spare held 55 (.slice A len cap) d p) :
    ∃ ps : List Ln.Past, ps.length = len ∧ Ln.Pasts w A cap ps := by
  obtain ⟨fuel, hf⟩ := h
  rcases open_slice Try.underlying55 hf with ⟨hcs, _⟩ | ⟨x, l, c, m, n, D, Pl, hcs, _, hl, hm, hmm, _, hi⟩
  · simp [Value.cells] at hcs
    obtain ⟨rfl, rfl, rfl⟩ := hcs
    exact ⟨[], rfl, by simp, by simp, fun i h => by simp at h⟩
  · simp [Value.cells] at hcs
    obtain ⟨rfl, rfl, rfl⟩ := hcs
    unfold maxLen at hm
    have hlm : len ≤ m := by rw [hmm]; split <;> omega
    rw [Qu.c66] at hi
    have key : ∀ i, i < len → ∃ p : Ln.Past, ∃ b o cd rd, x = ⟨b, o, none⟩ ∧ Ln.PAt w b (o + i * 8) p cd rd := by
      intro i hil
      obtain ⟨cs', hc, ht⟩ := hi i (by omega)
      obtain ⟨_, hcl, hat⟩ := World.cells?_some hc
      obtain ⟨p, cd, rd, rfl, h1, h2⟩ := Qu.open_past ht hcl
      have hx0 : ∃ b o, x = ⟨b, o, none⟩ := by
        obtain ⟨cs0, hc0, _⟩ := hi 0 (by omega)
        obtain ⟨_, hcl0, hat0⟩ := World.cells?_some hc0
        have h00 := hat0 0 (by omega)
        rw [List.getElem?_eq_getElem (by omega), Go.Deep.add_add] at h00
        exact ⟨_, _, Qu.spot_none (i := 0) h00⟩
      obtain ⟨b, o, rfl⟩ := hx0
      have e : ∀ j, ((⟨b, o, none⟩ : Addr).add (i * 8)).add j = ⟨b, o + i * 8 + j, none⟩ := fun j => by rw [Qu.add_plain, Qu.add_plain]
      refine ⟨p, b, o, cd, rd, rfl, ?_, ?_, ?_, ?_, ?_, ?_, ?_, ?_, h1, h2⟩
      · have h := hat 0 (by omega); rw [e] at h; exact h
      · have h := hat 1 (by omega); rw [e] at h; exact h
      · have h := hat 2 (by omega); rw [e] at h; exact h
      · have h := hat 3 (by omega); rw [e] at h; exact h
      · have h := hat 4 (by omega); rw [e] at h; exact h
      · have h := hat 5 (by omega); rw [e] at h; exact h
      · have h := hat 6 (by omega); rw [e] at h; exact h
      · have h := hat 7 (by omega); rw [e] at h; exact h
    obtain ⟨ps, hps, hq⟩ := Qu.list_of len key
    refine ⟨ps, hps, by omega, by omega, fun i hil => ?_⟩
    obtain ⟨b, o, cd, rd, rfl, hp⟩ := hq i (by omega)
    exact ⟨b, o, cd, rd, rfl, hp⟩
theorem Qu.open_ord {t : TypeId} {A : Option Addr} {len cap : Nat} {d : DataW H} {p : List MemPlace} (ht : Try.prog.underlying t = some (.slice 3)) (h : DataW.Trod enc Try.prog w base spare held t (.slice A len cap) d p) :
    ∃ order : List Int, order.length = len ∧ Ln.Ord w (.slice A len cap) order := by
  have h0 := h
  obtain ⟨fuel, hf⟩ := h
  rcases open_ints ht Try.underlying3 Qu.c3 hf with ⟨hcs, _⟩ | ⟨x, l, c, zs, hcs, _, hl, hm, hz, _, hcell, hwf⟩
  · simp [Value.cells] at hcs
    obtain ⟨rfl, rfl, rfl⟩ := hcs
    exact ⟨[], rfl, .inl ⟨_, _, rfl, rfl⟩⟩
  · simp [Value.cells] at hcs
    obtain ⟨rfl, rfl, rfl⟩ := hcs
    unfold maxLen at hm
    have hl2 : len ≤ zs.length := by rw [hz]; split <;> omega
    by_cases hz0 : len = 0
    · subst hz0
      exact ⟨[], rfl, .inl ⟨_, _, rfl, rfl⟩⟩
    · have hx := Qu.spot_none (i := 0) (hcell 0 (by omega))
      obtain ⟨b, o, s⟩ := x
      injection hx with _ _ hs
      subst hs
      refine ⟨zs.take len, by simp [Nat.min_eq_left hl2], .inr ⟨b, o, cap, by simp [Nat.min_eq_left hl2], by simp [Nat.min_eq_left hl2]; omega, by omega, ?_, fun j hj => ?_⟩⟩
      · have := World.block_lt_of_cell? w _ (hcell 0 (by omega))
        rw [Qu.add_plain] at this
        exact this
      · have hjl : j < len := by simpa [Nat.min_eq_left hl2] using hj
        have h1 := hcell j (by omega)
        rw [Qu.add_plain] at h1
        rw [h1]
        simp [List.getD_eq_getElem?_getD, List.getElem?_take, hjl]
end
end Go.Proofs.Ytgdeoodihhcdjaa
