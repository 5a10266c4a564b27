/- Slices that are read, append laws, and the contract of add. -/
import Derived.Test.YtgdeoodihhcdjaaMb
import Derived.Deep.RegionLaw
import Derived.Laws.AppendOwn
import Derived.Laws.OwnMore
namespace Go.Proofs.Ytgdeoodihhcdjaa
open Go.RowKit
set_option linter.unusedVariables false
set_option linter.unusedSimpArgs false

/-- A slice of elements of one cell each that reads as vs. -/
def Ln.Rd (w : World) (V : Value) (vs : List Value) : Prop :=
  (V = .slice none 0 0 ∧ vs = []) ∨ ∃ A cp, V = .slice (some A) vs.length cp ∧ ∀ j u, vs[j]? = some u → A.block < w.heap.size ∧ w.cell? (A.add j) = some u
theorem Ln.add_block (A : Addr) (j : Nat) : (A.add j).block = A.block := by unfold Addr.add; split <;> rfl
theorem Ln.Rd.below {w w' : World} {V : Value} {vs : List Value} {B : Nat} (h : Ln.Rd w V vs) (hb : Below B w w') (hlt : ∀ A n c, V = .slice (some A) n c → 0 < n → A.block < B) : Ln.Rd w' V vs := by
  rcases h with h | ⟨A, cp, rfl, h⟩
  · exact .inl h
  · refine .inr ⟨A, cp, rfl, fun j u hj => ?_⟩
    obtain ⟨h1, h2⟩ := h j u hj
    have hpos : 0 < vs.length := by have := (List.getElem?_eq_some_iff.1 hj).1; omega
    refine ⟨Nat.lt_of_lt_of_le h1 hb.size, ?_⟩
    rw [hb.cell (by rw [Ln.add_block]; exact hlt A _ _ rfl hpos)]
    exact h2
theorem Ln.Rd.keep {w w' : World} {V : Value} {vs : List Value} (h : Ln.Rd w V vs) (hb : Below w.heap.size w w') : Ln.Rd w' V vs := by
  rcases h with h | ⟨A, cp, rfl, h⟩
  · exact .inl h
  · refine .inr ⟨A, cp, rfl, fun j u hj => ?_⟩
    obtain ⟨h1, h2⟩ := h j u hj
    refine ⟨Nat.lt_of_lt_of_le h1 hb.size, ?_⟩
    rw [hb.cell (by rw [Ln.add_block]; exact h1)]
    exact h2
theorem Ln.Rd.slice {w : World} {V : Value} {vs : List Value} (h : Ln.Rd w V vs) : ∃ A cp, V = .slice A vs.length cp := by
  rcases h with ⟨rfl, rfl⟩ | ⟨A, cp, rfl, _⟩
  · exact ⟨none, 0, rfl⟩
  · exact ⟨_, _, rfl⟩
theorem Ln.Rd.of_own {w : World} {base n : Nat} {e : TypeId} {v : Value} {xs : List Value} (h : w.ownsRow base e 1 v n xs) : Ln.Rd w v xs := by
  obtain ⟨hl, h⟩ := h
  rcases h with ⟨rfl, rfl⟩ | ⟨g, cap, cur, rfl, _, hg, h1, _, h3, h4⟩
  · exact .inl ⟨rfl, List.eq_nil_of_length_eq_zero (by simpa using hl)⟩
  · rw [Nat.mul_one] at hl h4
    subst hl
    refine .inr ⟨⟨g, 0, none⟩, cap, rfl, fun j u hj => ⟨Qu.blk_lt hg, ?_⟩⟩
    have e1 : (⟨g, 0, none⟩ : Addr).add j = ⟨g, j, none⟩ := by unfold Addr.add; split <;> simp_all
    rw [e1, Qu.blk_cell hg, ← Array.getElem?_toList]
    have := congrArg (fun l => l[j]?) h4
    simp only [List.getElem?_take, hj] at this
    split at this
    · exact this
    · cases this

theorem Ln.run_append {P : Program} (w : World) (t ty e : TypeId) (ht : P.underlying t = some (.slice e)) (z : Value) (bytes : Nat)
    (hinfo : (P.info? e).map (fun i => (i.zero, i.size, i.bytes)) = some (some z, 1, bytes)) (hzs : z.cells.size = 1) (hby : bytes ≤ 1024)
    (base : Nat) (hbase : base ≤ w.heap.size) (v : Value) (n : Nat) (xs vs : List Value) (hown : w.ownsRow base e 1 v n xs) (V : Value) (hrd : Ln.Rd w V vs) (hone : ∀ u ∈ vs, u.oneCell' = true) (hn : n + vs.length ≤ 1000000) :
    ∃ v' w', (Builtin.append_ #[t, t] ty #[v, V]).run P w = .ok v' w' ∧ w'.ownsRow base e 1 v' (n + vs.length) (xs ++ vs) ∧ w.grownBy w' v.ownBlock := by
  obtain ⟨i0, hi, hz0, hz1, hz2⟩ := info_parts hinfo
  rcases hrd with ⟨rfl, rfl⟩ | ⟨A, cp, rfl, h⟩
  · exact ⟨v, w, run_append_owned_none w base t ty e i0 1 ht hi v n xs hown, by simpa using hown, ⟨rfl, rfl, rfl, Nat.le_refl _, fun _ _ _ => rfl⟩⟩
  · obtain ⟨v', w', hrun, hown', hgr, _⟩ := run_append_own (P := P) w base t ty e i0 z 1 bytes ht hi hz0 hz1 hz2 hzs (by decide) v n xs hown A vs.length cp vs (by simp) (fun j u hj => (h j u hj).2) hone (by unfold maxLen; omega)
      (by have := Nat.mul_le_mul_left (n + vs.length) hby; omega) hbase
    exact ⟨v', w', hrun, hown', hgr⟩

theorem Ln.step_append {P : Program} {ops : Array Oper} {o : Oper} {a : Act} {w : World} {K : Act → World → Prop} {Q : Exit → Act → World → Prop} {E : Prop} (hgd : o.guard = none) (s x : Operand) (t e : TypeId)
    (ho : o.op = .call { callee := .builtin .append, args := #[s, x], argTypes := #[t, t] }) (ht : P.underlying t = some (.slice e)) (z : Value) (bytes : Nat)
    (hinfo : (P.info? e).map (fun i => (i.zero, i.size, i.bytes)) = some (some z, 1, bytes)) (hzs : z.cells.size = 1) (hby : bytes ≤ 1024)
    (base : Nat) (v : Value) (n : Nat) (xs vs : List Value) (V : Value) (hs : a.eval s = v) (hx : a.eval x = V) (hbase : base ≤ w.heap.size) (hown : w.ownsRow base e 1 v n xs) (hrd : Ln.Rd w V vs) (hone : ∀ u ∈ vs, u.oneCell' = true) (hn : n + vs.length ≤ 1000000)
    (h : ∀ v' w', w'.ownsRow base e 1 v' (n + vs.length) (xs ++ vs) → w.grownBy w' v.ownBlock → K (a.put o.dst v') w') :
    if Region.wanted o (yielded ops a.tmps) = true then Oper.wp P o a w K Q else E := by
  have hw : Region.wanted o (yielded ops a.tmps) = true := by simp [Region.wanted, hgd]
  rw [if_pos hw]
  obtain ⟨v', w', hrun, h1, h2⟩ := Ln.run_append (P := P) w t o.type e ht z bytes hinfo hzs hby base hbase v n xs vs hown V hrd hone hn
  unfold Oper.wp
  simp [execOp, ho, resolve, invoke, builtin, hs, hx, hrun, Result.andThen]
  exact h v' w' h1 h2

theorem Ln.wpList_append {P : Program} (w : World) {ops : Array Oper} {rest : List Oper} {o : Oper} {a : Act} {Q : Exit → Act → World → Prop} (hgd : o.guard = none) (s x : Operand) (t e : TypeId)
    (ho : o.op = .call { callee := .builtin .append, args := #[s, x], argTypes := #[t, t] }) (ht : P.underlying t = some (.slice e)) (z : Value) (bytes : Nat)
    (hinfo : (P.info? e).map (fun i => (i.zero, i.size, i.bytes)) = some (some z, 1, bytes)) (hzs : z.cells.size = 1) (hby : bytes ≤ 1024)
    (base : Nat) (v : Value) (n : Nat) (xs vs : List Value) (V : Value) (hs : a.eval s = v) (hx : a.eval x = V) (hbase : base ≤ w.heap.size) (hown : w.ownsRow base e 1 v n xs) (hrd : Ln.Rd w V vs) (hone : ∀ u ∈ vs, u.oneCell' = true) (hn : n + vs.length ≤ 1000000)
    (h : ∀ v' w', w'.ownsRow base e 1 v' (n + vs.length) (xs ++ vs) → w.grownBy w' v.ownBlock → wpList P ops Q rest (a.put o.dst v') w') : wpList P ops Q (o :: rest) a w := by
  refine wpList_plain hgd fun K hK => ?_
  obtain ⟨v', w', hrun, h1, h2⟩ := Ln.run_append (P := P) w t o.type e ht z bytes hinfo hzs hby base hbase v n xs vs hown V hrd hone hn
  unfold Oper.wp
  simp [execOp, ho, resolve, invoke, builtin, hs, hx, hrun, Result.andThen]
  exact hK _ _ (h v' w' h1 h2)

theorem Ln.u8s_one (d : List UInt8) : ∀ u ∈ Ln.u8s d, u.oneCell' = true := by
  intro u hu
  unfold Ln.u8s at hu
  obtain ⟨x, _, rfl⟩ := List.mem_map.1 hu
  rfl
theorem Try.info60 : (Try.prog.info? 60).map (fun i => (i.zero, i.size, i.bytes)) = some (some (.slice none 0 0), 1, 24) := by kernel_rfl
theorem Try.info5 : (Try.prog.info? 5).map (fun i => (i.zero, i.size, i.bytes)) = some (some (.int .u8 0), 1, 1) := by kernel_rfl

theorem Ln.own_ne {w : World} {base : Nat} {e t : TypeId} {size n g : Nat} {v : Value} {xs : List Value} {cs : Array Value} {f : Nat × Nat} (h : w.ownsRow base e size v n xs) (hg : w.heap[g]? = some (.cells cs t f)) (hne : e ≠ t) : some g ≠ v.ownBlock := by
  intro hk
  rcases h.2 with ⟨rfl, _⟩ | ⟨g', cap, cur, rfl, _, hh, _⟩
  · simp [Value.ownBlock] at hk
  · have : g = g' := by simpa [Value.ownBlock] using hk
    subst this
    exact Qu.blk_ne hh hg hne rfl
theorem Ln.own_far {w : World} {base base' : Nat} {e e' : TypeId} {size size' n n' : Nat} {v v' : Value} {xs xs' : List Value} (h : w.ownsRow base e size v n xs) (h' : w.ownsRow base' e' size' v' n' xs') (hne : e ≠ e') : v.ownBlock = none ∨ v.ownBlock ≠ v'.ownBlock := by
  rcases h.2 with ⟨rfl, _⟩ | ⟨g, cap, cur, rfl, _, hh, _⟩
  · exact .inl rfl
  · exact .inr (Ln.own_ne h' hh (fun h => hne h.symm))

/-- Behind the two appends of a record: the block of the state as it was, the records with one more. -/
theorem Ln.add_rec {B sb : Nat} {w w1 w3 : World} {m : Ln.Mod} {v v1 v3 : Value} {rs : List (List UInt8)} {xs : List Value} {d : List UInt8} (hB : B ≤ w.heap.size)
    (h1 : w.heap[sb]? = some (.cells (Ln.cells m v) 118 (0, 0))) (ho : w.ownsRow B 60 1 v rs.length xs) (hr : ∀ i, i < rs.length → w.ownsRow B 5 1 (xs.getD i undef) (rs.getD i []).length (Ln.u8s (rs.getD i [])))
    (hg1 : w.grownBy w1 none) (ho1 : w1.ownsRow B 5 1 v1 d.length (Ln.u8s d)) (hg3 : (w1.alloc (.cells #[v1] 60)).grownBy w3 v.ownBlock) (ho3 : w3.ownsRow B 60 1 v3 (rs.length + 1) (xs ++ [v1])) :
    w3.heap[sb]? = some (.cells (Ln.cells m v) 118 (0, 0)) ∧ Ln.Recs B w3 v3 (rs ++ [d]) ∧ Ln.Fra B sb w w3 := by
  have hxl : xs.length = rs.length := by have := ho.1; simpa using this
  have hb1 : Below w.heap.size w w1 := ⟨hg1.os, hg1.tape, hg1.output, hg1.size, fun i hi => hg1.block i hi (by simp)⟩
  have hb2 : Below w.heap.size w (w1.alloc (.cells #[v1] 60)) := hb1.alloc hb1.size _
  have hsb2 := Qu.blk_below h1 hb2
  have hov : (w1.alloc (.cells #[v1] 60)).ownsRow B 60 1 v rs.length xs := Qu.own_below ho hb2
  refine ⟨Qu.blk_grown hsb2 hg3 (Ln.own_ne hov hsb2 (by decide)), ⟨xs ++ [v1], by simpa using ho3, fun i hi => ?_⟩, ⟨(hb2.mono hB).grown hg3 (Nat.le_trans hB hb2.size) (fun k hk => (hov.lt k hk).1), fun i cs t f hi ht _ => Qu.blk_grown (Qu.blk_below hi hb2) hg3 (Ln.own_ne hov (Qu.blk_below hi hb2) (fun h => ht h.symm))⟩⟩
  by_cases hil : i < rs.length
  · have h := Qu.own_below (hr i hil) hb2
    have e1 : (xs ++ [v1]).getD i undef = xs.getD i undef := by rw [List.getD_eq_getElem?_getD, List.getD_eq_getElem?_getD, List.getElem?_append_left (by omega)]
    have e2 : (rs ++ [d]).getD i [] = rs.getD i [] := by rw [List.getD_eq_getElem?_getD, List.getD_eq_getElem?_getD, List.getElem?_append_left (by omega)]
    rw [e1, e2]
    exact h.kept hg3 (Ln.own_far h hov (by decide))
  · have hie : i = rs.length := by simp at hi; omega
    subst hie
    have e1 : (xs ++ [v1]).getD rs.length undef = v1 := by rw [List.getD_eq_getElem?_getD, ← hxl]; simp
    have e2 : (rs ++ [d]).getD rs.length [] = d := by rw [List.getD_eq_getElem?_getD]; simp
    rw [e1, e2]
    have h := ho1.alloc (.cells #[v1] 60)
    exact h.kept hg3 (Ln.own_far h hov (by decide))

end Go.Proofs.Ytgdeoodihhcdjaa
