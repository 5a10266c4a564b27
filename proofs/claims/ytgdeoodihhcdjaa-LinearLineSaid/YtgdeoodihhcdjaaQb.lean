/- The contracts of the leaves of package queue: there, ring.at, ring.all. -/
import Derived.Test.YtgdeoodihhcdjaaProg
import Derived.WalkKit
import Derived.BigQuiet
import Derived.Deep.QuietTactic
import Derived.BigRegion
import Derived.Below
import Derived.Lib.Hide
import Derived.Outline
import Derived.OwnWalk
namespace Go.Proofs.Ytgdeoodihhcdjaa
open Go.RowKit
set_option linter.unusedVariables false
set_option linter.unusedSimpArgs false

theorem Qu.bcell {W w1 : World} (hb : Below W.heap.size W w1) : (∀ b o, b < W.heap.size → w1.cell? ⟨b, o, none⟩ = W.cell? ⟨b, o, none⟩) ∧ (∀ b o, b < W.heap.size → w1.frozen? ⟨b, o, none⟩ = W.frozen? ⟨b, o, none⟩) :=
  ⟨fun b o h => hb.cell (p := ⟨b, o, none⟩) h, fun b o h => hb.frozen (p := ⟨b, o, none⟩) h⟩

/-- Items as cells. -/
def Qu.enc (xs : List (Int × Int)) : List Value := xs.flatMap fun p => [.int .i64 p.1, .int .i64 p.2]
/-- The items of a ring of m places from place k on. -/
def Qu.ringAt (w : World) (rb m k : Nat) (xs : List (Int × Int)) : Prop :=
  ∀ j, j < xs.length → w.cell? ⟨rb, (k + j) % m * 2, none⟩ = some (.int .i64 (xs.getD j (0, 0)).1) ∧ w.cell? ⟨rb, (k + j) % m * 2 + 1, none⟩ = some (.int .i64 (xs.getD j (0, 0)).2)

theorem Qu.below_then {B : Nat} {w w1 w2 : World} (h : Below B w w1) (hB : B ≤ w1.heap.size) (k : Below w1.heap.size w1 w2) : Below B w w2 :=
  h.trans ⟨k.os, k.tape, k.output, k.size, fun i hi => k.block i (Nat.lt_of_lt_of_le hi hB)⟩
theorem Qu.grown_of_below {w w1 : World} (h : Below w.heap.size w w1) (row : Option Nat) : w.grownBy w1 row := ⟨h.os, h.tape, h.output, h.size, fun i hi _ => h.block i hi⟩
theorem Qu.own_below {w w1 : World} {base : Nat} {e : TypeId} {size n : Nat} {v : Value} {xs : List Value} (h : w.ownsRow base e size v n xs) (hb : Below w.heap.size w w1) : w1.ownsRow base e size v n xs :=
  h.kept (Qu.grown_of_below hb none) (by cases v.ownBlock <;> simp)

theorem there_nil (w : World) : Calls Try.prog 32 #[.pointer none] w fun e w' => e = .returned (.bool false) ∧ w' = w := by
  go_enter Try.func32, Try.ntmps32
  go_wp2
  go_ret
  exact ⟨rfl, rfl⟩

theorem there_some (sb : Nat) (c : Int) (w : World) (hc : w.cell? ⟨sb, 0, none⟩ = some (.int .i64 c)) (hp : 0 < c) : Calls Try.prog 32 #[.pointer (some ⟨sb, 0, none⟩)] w fun e w' => e = .returned (.bool true) ∧ w' = w := by
  go_enter Try.func32, Try.ntmps32
  go_wp2
  go_ret
  exact ⟨by simp [hp], rfl⟩

set_option maxRecDepth 100000 in
theorem ring_at (sb so rb m k i : Nat) (x y : Int) (w : World) (hm : m ≤ 4096) (hk : k < m) (hi : i < m)
    (h0 : w.cell? ⟨sb, so, none⟩ = some (.slice (some ⟨rb, 0, none⟩) m m)) (h1 : w.cell? ⟨sb, so+1, none⟩ = some (.int .i64 k))
    (c0 : w.cell? ⟨rb, (k + i) % m * 2, none⟩ = some (.int .i64 x)) (c1 : w.cell? ⟨rb, (k + i) % m * 2 + 1, none⟩ = some (.int .i64 y)) :
    Calls Try.prog 35 #[.pointer (some ⟨sb, so, none⟩), .int .i64 i] w fun e w' => e = .returned (.agg #[.int .i64 x, .int .i64 y]) ∧ Below w.heap.size w w' := by
  have hsb := World.block_lt_of_cell? w _ h0
  have hrb := World.block_lt_of_cell? w _ c0
  simp only at hsb hrb
  have hm0 : (k + i) % m < m := Nat.mod_lt _ (by omega)
  have hi0 : (0:Int) ≤ ((k:Int) + i) % m := Int.emod_nonneg _ (by omega)
  have hi1 : ((k:Int) + i) % m < m := Int.emod_lt_of_pos _ (by omega)
  go_enter Try.func35, Try.ntmps35
  go_wp2
  go_region
  go_wp2
  refine bodyPost_ret (v := .agg #[.int .i64 x, .int .i64 y]) (by simp [results, Try.results35, go_sem]) rfl ⟨rfl, ?_⟩
  exact ((Below.refl _ _).alloc (Nat.le_refl _) _).drew

theorem Try.info38 : (Try.prog.info? 38).map (fun i => (i.zero, i.size, i.bytes)) = some (some (.agg #[.int .i64 0, .int .i64 0]), 2, 16) := by kernel_rfl

theorem Qu.enc_take_succ (xs : List (Int × Int)) (j : Nat) (h : j < xs.length) : Qu.enc (xs.take (j + 1)) = Qu.enc (xs.take j) ++ [.int .i64 (xs.getD j (0, 0)).1, .int .i64 (xs.getD j (0, 0)).2] := by
  rw [List.take_succ_eq_append_getElem h]
  simp only [Qu.enc, List.flatMap_append, List.flatMap_cons, List.flatMap_nil, List.append_nil, List.getD_eq_getElem?_getD, List.getElem?_eq_getElem h, Option.getD_some]
/-- append of one element, whose cells lie in a new block. -/
theorem Qu.append1 {P : Program} (w : World) {ops : Array Oper} {rest : List Oper} {o : Oper} {a : Act} {Q : Exit → Act → World → Prop} (hgd : o.guard = none) (s x : Operand) (t : TypeId)
    (ho : o.op = .call { callee := .builtin .append, args := #[s, x], argTypes := #[t, t] })
    (base : Nat) (e : TypeId) (z : Value) (size bytes : Nat) (ht : P.underlying t = some (.slice e)) (hinfo : (P.info? e).map (fun i => (i.zero, i.size, i.bytes)) = some (some z, size, bytes))
    (hzs : z.cells.size = size) (hsz : 0 < size) (hby : bytes ≤ 1024)
    (v : Value) (n : Nat) (xs : List Value) (hs : a.eval s = v) (W : World) (cs : Array Value) (hW : w = W.alloc (.cells cs e)) (hown : W.ownsRow base e size v n xs)
    (hx : a.eval x = .slice (some ⟨W.heap.size, 0, none⟩) 1 1) (hl : cs.size = size) (h1 : ∀ u ∈ cs.toList, u.oneCell' = true)
    (hn : n ≤ 100000000) (hbase : base ≤ W.heap.size)
    (h : ∀ v' w', w'.ownsRow base e size v' (n + 1) (xs ++ cs.toList) → W.grownBy w' v.ownBlock → wpList P ops Q rest (a.put o.dst v') w') : wpList P ops Q (o :: rest) a w := by
  subst hW
  obtain ⟨i0, hi, hz0, hz1, hz2⟩ := info_parts hinfo
  refine wpList_append_own _ hgd s x t ho base e i0 z size bytes ht hi hz0 hz1 hz2 hzs hsz v n xs hs (hown.alloc _) ⟨W.heap.size, 0, none⟩ 1 1 cs.toList hx (by simp [hl]) ?_ h1 ?_ ?_ ?_ ?_
  · intro j u hj
    have hadd : (⟨W.heap.size, 0, none⟩ : Addr).add j = ⟨W.heap.size, j, none⟩ := by unfold Addr.add; split <;> simp_all
    rw [hadd, cell_of_row _ W.heap.size j cs e (0, 0) (heap_alloc_new W _)]
    simpa using hj
  · unfold maxLen; omega
  · have := Nat.mul_le_mul_left (n + 1) hby
    omega
  · simp; omega
  · intro v' w' h2 h3 _
    refine h v' w' h2 ⟨h3.os, h3.tape, h3.output, ?_, ?_⟩
    · have := h3.size
      simp at this
      omega
    · intro k hk hne
      rw [h3.block k (by simp; omega) hne]
      exact Below.heap_alloc W _ k hk

theorem Qu.grown_below {B : Nat} {w w1 w2 : World} {row : Option Nat} (h : Below B w w1) (hg : w1.grownBy w2 row) (hB : B ≤ w1.heap.size) (hr : ∀ k, row = some k → B ≤ k) : Below B w w2 := h.grown hg hB hr

set_option maxRecDepth 100000 in
theorem ring_all (sb so rb m k : Nat) (A : Option Addr) (xs : List (Int × Int)) (w : World) (hm : m ≤ 4096) (hA : 0 < xs.length → A = some ⟨rb, 0, none⟩ ∧ k < m ∧ xs.length ≤ m)
    (h0 : w.cell? ⟨sb, so, none⟩ = some (.slice A m m)) (h1 : w.cell? ⟨sb, so+1, none⟩ = some (.int .i64 k)) (h2 : w.cell? ⟨sb, so+2, none⟩ = some (.int .i64 xs.length)) (hx : xs.length ≤ 4096)
    (hr : Qu.ringAt w rb m k xs) :
    Calls Try.prog 47 #[.pointer (some ⟨sb, so, none⟩)] w fun e w' => ∃ v, e = .returned v ∧ w'.ownsRow w.heap.size 38 2 v xs.length (Qu.enc xs) ∧ Below w.heap.size w w' := by
  have hsb := World.block_lt_of_cell? w _ h0
  simp only at hsb
  have HR : Hid (Qu.ringAt w rb m k xs) := hr
  clear hr
  go_enter Try.func47, Try.ntmps47
  go_wp2
  go_loopw [3, 9] (fun l i wr => ∃ j : Nat, j ≤ xs.length ∧ i = .int .i64 j ∧ wr.ownsRow w.heap.size 38 2 l j (Qu.enc (xs.take j)) ∧ Below w.heap.size w wr) (fun _ i _ => xs.length - (intOf i).toNat)
  case atStart => exact ⟨0, by omega, rfl, World.ownsRow_nil _ _ _ _, Below.refl _ _⟩
  case round =>
    obtain ⟨j, hj, rfl, hown, hb⟩ := hrel
    by_cases hlt : j < xs.length
    · obtain ⟨rfl, hk, hn⟩ := hA (by omega)
      obtain ⟨hc, hf⟩ := Qu.bcell hb
      have hrb := World.block_lt_of_cell? w _ (HR.out j hlt).1
      simp only at hrb
      have k0 := (hc sb so hsb).trans h0
      have k1 := (hc sb (so+1) hsb).trans h1
      have c0 := (hc rb ((k + j) % m * 2) hrb).trans (HR.out j hlt).1
      have c1 := (hc rb ((k + j) % m * 2 + 1) hrb).trans (HR.out j hlt).2
      have HX := Lib.hid (Qu.enc_take_succ xs j hlt)
      clear hc hf
      generalize (xs.getD j (0, 0)).1 = x at c0 HX
      generalize (xs.getD j (0, 0)).2 = y at c1 HX
      have HO := Lib.hid hown
      have HB := Lib.hid hb
      clear hown hb
      go_wp2_with (first
        | (go_at_call 35; refine (ring_at sb so rb m k j _ _ _ hm hk (by omega) k0 k1 c0 c1).mono ?_; rintro e w1 ⟨rfl, hb1⟩)
        | (at_builtin; refine Qu.append1 _ rfl (.tmp 12) (.tmp 16) 31 rfl w.heap.size 38 _ 2 16 Try.underlying31 Try.info38 rfl (by decide) (by decide) u3 j (Qu.enc (xs.take j)) rfl w1 #[.int .i64 x, .int .i64 y] rfl (Qu.own_below HO.out hb1) rfl rfl (by simp [Value.oneCell']) (by omega) (Nat.le_trans HB.out.size hb1.size) ?_; intro v' w2 hown2 hgrow))
      have HE := Qu.below_then HB.out HB.out.size hb1
      have HE2 := Lib.hid (Qu.grown_below HE hgrow (HE.size) (fun k hk => (HO.out.lt k hk).1))
      have HO2 := Lib.hid hown2
      clear hown2 hgrow HE hb1
      go_wp2
      all_goals go_round
      case rel => exact ⟨j + 1, by omega, by go_num, by rw [HX.out]; exact HO2.out, HE2.out⟩
      case measure => simp [intOf]; omega
    · have HO := Lib.hid hown
      have HB := Lib.hid hb
      clear hown hb
      go_wp2
      go_ret
      have e1 : j = xs.length := by omega
      subst e1
      exact ⟨_, rfl, by simpa using HO.out, HB.out⟩
end Go.Proofs.Ytgdeoodihhcdjaa
