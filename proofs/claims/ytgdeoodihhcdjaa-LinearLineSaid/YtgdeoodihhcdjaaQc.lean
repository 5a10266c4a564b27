/- Words on the queue's memory, copy of items into a new row, and the contract of ring.push. -/
import Derived.Test.YtgdeoodihhcdjaaQb
import Derived.Laws.CopyRow
import Derived.Laws.MakeOwn
import Derived.Laws.CopyOwn
namespace Go.Proofs.Ytgdeoodihhcdjaa
open Go.RowKit
set_option linter.unusedVariables false
set_option linter.unusedSimpArgs false

/-- w' is w but for the blocks of S and new ones. -/
structure Qu.Fr (S : Nat → Prop) (w w' : World) : Prop where
  os : w'.os = w.os
  tape : w'.tape = w.tape
  output : w'.output = w.output
  size : w.heap.size ≤ w'.heap.size
  block : ∀ k, k < w.heap.size → ¬ S k → w'.heap[k]? = w.heap[k]?
theorem Qu.Fr.refl (S : Nat → Prop) (w : World) : Qu.Fr S w w := ⟨rfl, rfl, rfl, Nat.le_refl _, fun _ _ _ => rfl⟩
theorem Qu.Fr.trans {S S1 : Nat → Prop} {w w1 w2 : World} (h : Qu.Fr S w w1) (k : Qu.Fr S1 w1 w2) (hs : ∀ i, i < w.heap.size → S1 i → S i) : Qu.Fr S w w2 :=
  ⟨k.os.trans h.os, k.tape.trans h.tape, k.output.trans h.output, Nat.le_trans h.size k.size, fun i hi hn => (k.block i (Nat.lt_of_lt_of_le hi h.size) (fun h1 => hn (hs i hi h1))).trans (h.block i hi hn)⟩
theorem Qu.Fr.of_below {S : Nat → Prop} {w w1 : World} (h : Below w.heap.size w w1) : Qu.Fr S w w1 := ⟨h.os, h.tape, h.output, h.size, fun i hi _ => h.block i hi⟩
theorem Qu.Fr.below {S : Nat → Prop} {B : Nat} {w w1 : World} (h : Qu.Fr S w w1) (hB : B ≤ w.heap.size) (hS : ∀ k, S k → B ≤ k) : Below B w w1 := ⟨h.os, h.tape, h.output, h.size, fun i hi => h.block i (by omega) (fun hs => by have := hS i hs; omega)⟩
theorem Qu.Fr.of_grown {S : Nat → Prop} {w w1 : World} {row : Option Nat} (h : w.grownBy w1 row) (hS : ∀ k, row = some k → k < w.heap.size → S k) : Qu.Fr S w w1 :=
  ⟨h.os, h.tape, h.output, h.size, fun i hi hn => h.block i hi (fun e => hn (hS i e.symm hi))⟩
theorem Qu.Fr.alloc {S : Nat → Prop} {w w1 : World} (h : Qu.Fr S w w1) (o : Obj) : Qu.Fr S w (w1.alloc o) :=
  h.trans (S1 := S) ⟨rfl, rfl, rfl, by simp, fun k hk _ => Below.heap_alloc _ _ _ hk⟩ (fun _ _ h => h)
theorem Qu.Fr.drew {S : Nat → Prop} {w w1 : World} (h : Qu.Fr S w w1) : Qu.Fr S w w1.drew := ⟨h.os, h.tape, h.output, h.size, h.block⟩
theorem Qu.Fr.setCell {S : Nat → Prop} {w w1 : World} (h : Qu.Fr S w w1) {p : Addr} (hp : p.block < w.heap.size → S p.block) (u : Value) : Qu.Fr S w (w1.setCell p u) :=
  ⟨h.os, h.tape, h.output, by have := h.size; simpa [World.setCell] using this, fun k hk hn => (Below.heap_setCell _ _ _ _ (fun e => by subst e; exact hn (hp hk))).trans (h.block k hk hn)⟩
theorem Qu.Fr.mono {S S' : Nat → Prop} {w w1 : World} (h : Qu.Fr S w w1) (hs : ∀ k, k < w.heap.size → S k → S' k) : Qu.Fr S' w w1 := ⟨h.os, h.tape, h.output, h.size, fun i hi hn => h.block i hi (fun h1 => hn (hs i hi h1))⟩

theorem Qu.blk_set {w : World} {g : Nat} {t : TypeId} {cs : Array Value} (h : w.heap[g]? = some (.cells cs t (0, 0))) (i : Nat) (u : Value) : (w.setCell ⟨g, i, none⟩ u).heap[g]? = some (.cells (cs.setIfInBounds i u) t (0, 0)) := by
  simp [World.setCell, Array.getElem?_modify, h]
theorem Qu.blk_far {w : World} {g : Nat} {o : Obj} (h : w.heap[g]? = some o) {p : Addr} (hp : g ≠ p.block) (u : Value) : (w.setCell p u).heap[g]? = some o := (Below.heap_setCell w p u g hp).trans h
theorem Qu.blk_lt {w : World} {g : Nat} {o : Obj} (h : w.heap[g]? = some o) : g < w.heap.size := (Array.getElem?_eq_some_iff.1 h).1
theorem Qu.blk_cell {w : World} {g : Nat} {t : TypeId} {cs : Array Value} (h : w.heap[g]? = some (.cells cs t (0, 0))) (i : Nat) : w.cell? ⟨g, i, none⟩ = cs[i]? := cell_of_row w g i cs t (0, 0) h
theorem Qu.blk_frozen {w : World} {g : Nat} {t : TypeId} {cs : Array Value} (h : w.heap[g]? = some (.cells cs t (0, 0))) (i : Nat) : w.frozen? ⟨g, i, none⟩ = false := by simp [World.frozen?, h]
theorem Qu.blk_grown {w w1 : World} {g : Nat} {o : Obj} {row : Option Nat} (h : w.heap[g]? = some o) (hg : w.grownBy w1 row) (hne : some g ≠ row) : w1.heap[g]? = some o := (hg.block g (Qu.blk_lt h) hne).trans h
theorem Qu.blk_below {w w1 : World} {g : Nat} {o : Obj} (h : w.heap[g]? = some o) (hg : Below w.heap.size w w1) : w1.heap[g]? = some o := (hg.block g (Qu.blk_lt h)).trans h
theorem Qu.blk_alloc {w : World} {g : Nat} {o : Obj} (h : w.heap[g]? = some o) (o' : Obj) : (w.alloc o').heap[g]? = some o := (Below.heap_alloc w o' g (Qu.blk_lt h)).trans h
theorem Qu.blk_fr {S : Nat → Prop} {w w1 : World} {g : Nat} {o : Obj} (h : w.heap[g]? = some o) (hg : Qu.Fr S w w1) (hs : ¬ S g) : w1.heap[g]? = some o := (hg.block g (Qu.blk_lt h) hs).trans h
theorem Qu.blk_ne {w : World} {g g' : Nat} {t t' : TypeId} {cs cs' : Array Value} {f f' : Nat × Nat} (h : w.heap[g]? = some (.cells cs t f)) (h' : w.heap[g']? = some (.cells cs' t' f')) (hne : t ≠ t') : g ≠ g' := by
  rintro rfl
  rw [h] at h'
  injection h' with h'
  injection h' with _ ht
  exact hne ht

/-- The ring's places as they lie in an array of cells. -/
def Qu.ringIn (arr : Array Value) (m k : Nat) (xs : List (Int × Int)) : Prop :=
  ∀ j, j < xs.length → arr[(k + j) % m * 2]? = some (.int .i64 (xs.getD j (0, 0)).1) ∧ arr[(k + j) % m * 2 + 1]? = some (.int .i64 (xs.getD j (0, 0)).2)
/-- What the ring's cells hold: the slice L, the front k, the items xs, in the block R. -/
def Qu.Ring (w : World) (L : Value) (k : Nat) (xs : List (Int × Int)) (R : Option Nat) : Prop :=
  (L = .slice none 0 0 ∧ k = 0 ∧ xs = [] ∧ R = none) ∨
  ∃ rb m arr, R = some rb ∧ L = .slice (some ⟨rb, 0, none⟩) m m ∧ m ≤ 4096 ∧ k < m ∧ xs.length ≤ m ∧ w.heap[rb]? = some (.cells arr 38 (0, 0)) ∧ arr.size = m * 2 ∧ Qu.ringIn arr m k xs
theorem Qu.ringAt_of {w : World} {rb m k : Nat} {arr : Array Value} {xs : List (Int × Int)} (h : w.heap[rb]? = some (.cells arr 38 (0, 0))) (hr : Qu.ringIn arr m k xs) : Qu.ringAt w rb m k xs := fun j hj => by
  rw [Qu.blk_cell h, Qu.blk_cell h]
  exact hr j hj
theorem Qu.Ring.keep {w w' : World} {L : Value} {k : Nat} {xs : List (Int × Int)} {R : Option Nat} (h : Qu.Ring w L k xs R) (hb : ∀ b, R = some b → w'.heap[b]? = w.heap[b]?) : Qu.Ring w' L k xs R := by
  rcases h with h | ⟨rb, m, arr, rfl, h1, h2, h3, h4, h5, h6⟩
  · exact .inl h
  · exact .inr ⟨rb, m, arr, rfl, h1, h2, h3, h4, (hb rb rfl).trans h5, h6⟩
theorem Qu.Ring.lt {w : World} {L : Value} {k : Nat} {xs : List (Int × Int)} {R : Option Nat} (h : Qu.Ring w L k xs R) (b : Nat) (hb : R = some b) : b < w.heap.size := by
  rcases h with ⟨_, _, _, rfl⟩ | ⟨rb, m, arr, rfl, _, _, _, _, h5, _⟩
  · cases hb
  · injection hb with hb
    exact hb ▸ Qu.blk_lt h5
theorem Qu.enc_length (xs : List (Int × Int)) : (Qu.enc xs).length = xs.length * 2 := by
  induction xs with
  | nil => rfl
  | cons x xs ih => simp [Qu.enc] at ih ⊢; omega
theorem Qu.enc_get (xs : List (Int × Int)) : ∀ (j : Nat), j < xs.length → (Qu.enc xs)[j * 2]? = some (.int .i64 (xs.getD j (0, 0)).1) ∧ (Qu.enc xs)[j * 2 + 1]? = some (.int .i64 (xs.getD j (0, 0)).2) := by
  induction xs with
  | nil => intro j h; simp at h
  | cons x xs ih =>
    intro j h
    cases j with
    | zero => simp [Qu.enc]
    | succ j =>
      have := ih j (by simpa using h)
      have e : (j + 1) * 2 = j * 2 + 1 + 1 := by omega
      simp [Qu.enc, e] at this ⊢
      exact this

/-- copy of a whole slice into a row that is known whole. -/
theorem Qu.run_copy {P : Program} (w : World) (dT sT ty elem : TypeId) (hu : P.underlying dT = some (.slice elem)) {i : TypeInfo} (hi : P.info? elem = some i) (size : Nat) (hsz : i.size = size)
    (g dLen dCap : Nat) (cur : Array Value) (t : TypeId) (hg : w.heap[g]? = some (.cells cur t (0, 0))) (base n : Nat) (v : Value) (cs : List Value) (hown : w.ownsRow base elem size v n cs) (hn : n ≤ dLen) (hfit : cs.length ≤ cur.size) (h1 : ∀ v ∈ cs, v.oneCell' = true) :
    ∃ w', (Builtin.copy_ #[dT, sT] ty #[.slice (some ⟨g, 0, none⟩) dLen dCap, v]).run P w = .ok (goInt n) w' ∧ w'.heap[g]? = some (.cells (cs ++ cur.toList.drop cs.length).toArray t (0, 0)) ∧ w.grownBy w' (some g) := by
  obtain ⟨hl, hown⟩ := hown
  rcases hown with ⟨rfl, rfl⟩ | ⟨b, cap, row, rfl, _, hrow, hnc, _, hrs, htake⟩
  · have : cs = [] := List.eq_nil_of_length_eq_zero (by omega)
    subst this
    exact ⟨w, run_copy_nil P w dT sT ty elem ⟨g, 0, none⟩ dLen dCap hu (by simp [hi]), by simpa using hg, ⟨rfl, rfl, rfl, Nat.le_refl _, fun _ _ _ => rfl⟩⟩
  · have hl' := run_firstCells_some (P := P) w i.size n ⟨b, 0, none⟩ n cap cs (by rw [hsz]; exact hl) (by
      intro j u hj
      have hadd : (⟨b, 0, none⟩ : Addr).add j = ⟨b, j, none⟩ := by unfold Addr.add; split <;> simp_all
      rw [hadd, Qu.blk_cell hrow]
      rw [← htake, List.getElem?_take] at hj
      split at hj
      · simpa using hj
      · cases hj)
    have hst := run_storeCells_at P g 0 t cs 0 cur w hg (by simpa using hfit) h1
    refine ⟨w.setRow g (cs ++ cur.toList.drop cs.length).toArray, ?_, ?_, ?_⟩
    · simp at hst
      simp [Builtin.copy_, run_underlying hu, Builtin.lenOf, sizeOf, typeInfo, hi, Nat.min_eq_left hn, hl', hst]
    · simpa using setRow_heap w g cur _ t _ hg
    · exact ⟨rfl, rfl, rfl, by simp [World.setRow], fun k _ hk => setRow_other w g k _ (fun e => hk (by rw [e]))⟩
theorem Qu.wpList_copy {P : Program} (w : World) {ops : Array Oper} {rest : List Oper} {o : Oper} {a : Act} {Q : Exit → Act → World → Prop} (hgd : o.guard = none) (d s : Operand) (dT sT : TypeId)
    (ho : o.op = .call { callee := .builtin .copy, args := #[d, s], argTypes := #[dT, sT] }) (elem : TypeId) (hu : P.underlying dT = some (.slice elem)) (z : Value) (size bytes : Nat) (hinfo : (P.info? elem).map (fun i => (i.zero, i.size, i.bytes)) = some (some z, size, bytes))
    (g dLen dCap : Nat) (hd : a.eval d = .slice (some ⟨g, 0, none⟩) dLen dCap) (v : Value) (hs : a.eval s = v)
    (cur : Array Value) (t : TypeId) (hg : w.heap[g]? = some (.cells cur t (0, 0))) (base n : Nat) (cs : List Value) (hown : w.ownsRow base elem size v n cs) (hn : n ≤ dLen) (hfit : cs.length ≤ cur.size) (h1 : ∀ v ∈ cs, v.oneCell' = true)
    (h : ∀ w', w'.heap[g]? = some (.cells (cs ++ cur.toList.drop cs.length).toArray t (0, 0)) → w.grownBy w' (some g) → wpList P ops Q rest (a.put o.dst (goInt n)) w') :
    wpList P ops Q (o :: rest) a w := by
  refine wpList_plain hgd fun K hK => ?_
  obtain ⟨i0, hi, hz0, hz1, hz2⟩ := info_parts hinfo
  obtain ⟨w', hrun, h2, h3⟩ := Qu.run_copy (P := P) w dT sT o.type elem hu hi size hz1 g dLen dCap cur t hg base n v cs hown hn hfit h1
  unfold Oper.wp
  simp [execOp, ho, resolve, invoke, builtin, hd, hs, hrun, Result.andThen]
  exact hK _ _ (h w' h2 h3)
/-- make, the new row being some row of that many cells. -/
theorem Qu.wpList_make {P : Program} (w : World) {ops : Array Oper} {rest : List Oper} {o : Oper} {a : Act} {Q : Exit → Act → World → Prop}
    (hg : o.guard = none) (l c : Operand) (t : TypeId) (hop : o.op = Op.makeSlice t l c)
    (e : TypeId) (z : Value) (size bytes : Nat) (h1 : P.underlying t = some (.slice e)) (hinfo : (P.info? e).map (fun i => (i.zero, i.size, i.bytes)) = some (some z, size, bytes))
    (kl kc : IntKind) (L C : Int) (n : Nat) (hl : a.eval l = .int kl L) (hc : a.eval c = .int kc C) (hL : L = (n : Int)) (hC : C = (n : Int)) (b2 : bytes * n ≤ 281474976710656) (b3 : n ≤ 9223372036854775807)
    (hK : wpList P ops Q rest (a.put o.dst (.slice (some ⟨w.heap.size, 0, none⟩) n n)) (w.alloc (.cells (madeCells z.cells (n * size)) e))) :
    wpList P ops Q (o :: rest) a w := by
  refine wpList_plain hg fun K hK' => ?_
  obtain ⟨i, hi, hz0, hz1, hz2⟩ := info_parts hinfo
  subst hL
  subst hC
  have hb' : (i.bytes : Int) * (n : Int) ≤ 281474976710656 := by
    have h : ((i.bytes * n : Nat) : Int) ≤ 281474976710656 := by rw [hz2]; omega
    rwa [Int.natCast_mul] at h
  have hrun := run_make (P := P) w t e i z h1 hi hz0 kl kc n n (by omega) (Int.le_refl _) hb' (by omega)
  simp only [Int.toNat_natCast, hz1] at hrun
  unfold Oper.wp
  simp [execOp, hop, hl, hc, hrun, Result.andThen]
  exact hK' _ _ hK
end Go.Proofs.Ytgdeoodihhcdjaa
