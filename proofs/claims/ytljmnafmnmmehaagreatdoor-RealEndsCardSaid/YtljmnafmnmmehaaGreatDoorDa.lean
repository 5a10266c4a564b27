/- Of: words turned to numbers. -/
import Derived.Test.YtljmnafmnmmehaaGreatDoorBg
import Derived.Deep.LoopGhost
import Derived.Deep.RegionLaw
import Derived.Laws.AppendOwn
import Derived.Laws.OwnMore
import Derived.ChangeSlices
import Derived.WalkKit
import Derived.BigQuiet
import Derived.Deep.QuietTactic
import Derived.BigRegion
import Derived.Below
import Derived.Lib.Hide
import Derived.Outline
import Derived.OwnWalk
import Derived.WalkLawsBesides
import Derived.Handy
namespace Go.Proofs.YtljmnafmnmmehaaGreatDoor
open Go.RowKit
set_option linter.unusedVariables false
set_option linter.unusedSimpArgs false

/-- Words in memory. -/
structure Rl.Us (w : World) (A : Option Addr) (us : List Nat) : Prop where
  len : us.length * 8 ≤ 140737488351232
  cell : ∀ i, i < us.length → ∃ b o, A = some ⟨b, o, none⟩ ∧ b < w.heap.size ∧ w.cell? ⟨b, o + i, none⟩ = some (.int .u64 (us.getD i 0 : Nat))
  lt : ∀ x ∈ us, x < 18446744073709551616
theorem Rl.Us.keep {w w' : World} {A : Option Addr} {us : List Nat} (h : Rl.Us w A us) (hb : Below w.heap.size w w') : Rl.Us w' A us :=
  ⟨h.len, fun i hi => by
    obtain ⟨b, o, hA, hlt, hc⟩ := h.cell i hi
    exact ⟨b, o, hA, Nat.lt_of_lt_of_le hlt hb.size, (hb.cell (p := ⟨b, o + i, none⟩) hlt).trans hc⟩, h.lt⟩
theorem Rl.us_nil (w : World) (A : Option Addr) : Rl.Us w A [] := by
  constructor
  · simp
  · intro i hi
    simp at hi
  · intro x hx
    cases hx
theorem Rl.spot_none {w : World} {x : Addr} {i : Nat} {v : Value} (h0 : w.cell? (x.add 0) = some v) : x = ⟨x.block, x.off, none⟩ := by
  obtain ⟨b, o, s⟩ := x
  cases s with
  | none => rfl
  | some s =>
    simp [Addr.add, World.cell?] at h0
    split at h0 <;> simp at h0
theorem Rl.add_plain (b o i : Nat) : (⟨b, o, none⟩ : Addr).add i = ⟨b, o + i, none⟩ := by
  unfold Addr.add
  split
  · rename_i h; subst h; rfl
  · rfl
theorem Rl.u64_int {a : Int} (h : (Lit.int .u64 a).wf = true) : ((a.toNat : Nat) : Int) = a ∧ a.toNat < 18446744073709551616 := by
  have h' : (decide (IntKind.u64.min ≤ a) && decide (a ≤ IntKind.u64.max)) = true := h
  rw [Bool.and_eq_true, decide_eq_true_eq, decide_eq_true_eq] at h'
  have e1 : IntKind.u64.min = 0 := by decide
  have e2 : IntKind.u64.max = 18446744073709551615 := by decide
  rw [e1, e2] at h'
  omega
theorem Rl.open_bits {H : Type} {enc : TypeId × Value → H} {w : World} {A : Option Addr} {len cap : Nat} {d : DataW H} {p : List MemPlace}
    (h : DataW.Trod enc Tryz.prog w 0 (fun _ => true) true 22 (.slice A len cap) d p) (hs : (DataW.weights Tryz.prog 22 d).all (· ≤ reachBytes) = true) : ∃ us : List Nat, us.length = len ∧ Rl.Us w A us := by
  obtain ⟨fuel, hf⟩ := h
  rcases ChangeShapes.open_ints Tryz.underlying22 Tryz.underlying43 (by kernel_rfl) hf with ⟨hcs, _⟩ | ⟨x, l, c, zs, hcs, _, hl, hm, hz, hx, hcell, hwf⟩
  · simp [Value.cells] at hcs
    obtain ⟨rfl, rfl, rfl⟩ := hcs
    exact ⟨[], rfl, Rl.us_nil w _⟩
  · simp [Value.cells] at hcs
    obtain ⟨rfl, rfl, rfl⟩ := hcs
    rw [if_pos rfl] at hz
    have hd := (Prod.mk.inj hx).1
    subst hd
    have hlen : ((zs.take len).map Int.toNat).length = len := by rw [List.length_map, List.length_take]; omega
    have hw8 : len * 8 ≤ 140737488351232 := by
      have hb : Tryz.prog.bytesOf 43 = 8 := by kernel_rfl
      simp only [DataW.weights, Tryz.underlying22, List.all_cons, Bool.and_eq_true, decide_eq_true_eq, hb] at hs
      have h1 := hs.1
      unfold reachBytes at h1
      have h2 : (ChangeShapes.lits (H := H) .u64 (zs.take len)).length = len := by simp [ChangeShapes.lits]; omega
      rw [h2] at h1
      have := Nat.mul_le_mul_right 8 (Nat.le_add_right len (ChangeShapes.lits (H := H) .u64 (zs.drop len)).length)
      omega
    have hg : ∀ i, i < len → ((((zs.take len).map Int.toNat).getD i 0 : Nat) : Int) = zs.getD i 0 := by
      intro i hi
      rw [List.getD_eq_getElem?_getD, List.getElem?_map, List.getElem?_take, if_pos hi, List.getD_eq_getElem?_getD, List.getElem?_eq_getElem (by omega)]
      exact (Rl.u64_int (hwf _ (List.getElem_mem _))).1
    refine ⟨(zs.take len).map Int.toNat, hlen, ⟨by rw [hlen]; exact hw8, fun i hi => ?_, fun x hx => ?_⟩⟩
    · rw [hlen] at hi
      have hxn := Rl.spot_none (i := 0) (hcell 0 (by omega))
      refine ⟨x.block, x.off, by rw [← hxn], ?_, ?_⟩
      · have := World.block_lt_of_cell? w _ (hcell 0 (by omega))
        rw [hxn, Rl.add_plain] at this
        exact this
      · have h1 := hcell i (by omega)
        rw [hxn, Rl.add_plain] at h1
        rw [hg i hi]
        exact h1
    · obtain ⟨z, hz, rfl⟩ := List.mem_map.1 hx
      exact (Rl.u64_int (hwf _ (List.mem_of_mem_take hz))).2

theorem Rl.info26 : (Tryz.prog.info? 26).map (fun i => (i.zero, i.size, i.bytes)) = some (some (.float .f64 0), 1, 8) := by kernel_rfl
theorem Rl.own_slice {w : World} {base n : Nat} {e : TypeId} {size : Nat} {v : Value} {xs : List Value} (h : w.ownsRow base e size v n xs) : ∃ A c, v = .slice A n c := by
  obtain ⟨_, h⟩ := h
  rcases h with ⟨rfl, rfl⟩ | ⟨g, cap, cur, rfl, _⟩
  · exact ⟨none, 0, rfl⟩
  · exact ⟨_, _, rfl⟩
theorem Rl.wpList_append {ops : Array Oper} {rest : List Oper} {o : Oper} {a : Act} {w : World} {Q : Exit → Act → World → Prop} (hgd : o.guard = none) (s x : Operand)
    (ho : o.op = .call { callee := .builtin .append, args := #[s, x], argTypes := #[24, 24] })
    (base : Nat) (v : Value) (n : Nat) (xs : List Value) (b : Nat) (w0 : World) (hw0 : w = w0.alloc (.cells #[.float .f64 b] 26)) (hs : a.eval s = v) (hx : a.eval x = .slice (some ⟨w0.heap.size, 0, none⟩) 1 1) (hbase : base ≤ w0.heap.size) (hown : w0.ownsRow base 26 1 v n xs) (hn : (n + 1) * 8 ≤ 140737488351232)
    (h : ∀ v' w', w'.ownsRow base 26 1 v' (n + 1) (xs ++ [.float .f64 b]) → w.grownBy w' v.ownBlock → wpList Tryz.prog ops Q rest (a.put o.dst v') w') : wpList Tryz.prog ops Q (o :: rest) a w := by
  refine wpList_plain hgd fun K hK => ?_
  subst hw0
  obtain ⟨i0, hi, hz0, hz1, hz2⟩ := info_parts Rl.info26
  obtain ⟨v', w', hrun, h1, h2, _⟩ := run_append_own (P := Tryz.prog) (w0.alloc (.cells #[.float .f64 b] 26)) base 24 o.type 26 i0 (.float .f64 0) 1 8 Tryz.underlying24 hi hz0 hz1 hz2 rfl (by decide) v n xs (hown.alloc _) ⟨w0.heap.size, 0, none⟩ 1 1 [.float .f64 b] rfl
    (fun j u hj => by
      cases j with
      | zero =>
        rw [Rl.add_plain, cell_of_row _ w0.heap.size _ #[.float .f64 b] 26 (0, 0) (heap_alloc_new w0 _)]
        simpa using hj
      | succ j => simp at hj) (fun u hu => by rw [List.mem_singleton] at hu; subst hu; rfl) (by unfold maxLen; omega) (by omega) (by simp; omega)
  unfold Oper.wp
  simp [execOp, ho, resolve, invoke, builtin, hs, hx, hrun, Result.andThen]
  exact hK _ _ (h v' w' h1 h2)
def Rl.flts (us : List Nat) : List Value := us.map fun n => .float .f64 n
theorem Rl.flts_take (us : List Nat) (k : Nat) (h : k < us.length) : Rl.flts (us.take (k + 1)) = Rl.flts (us.take k) ++ [.float .f64 (us.getD k 0)] := by
  unfold Rl.flts
  rw [List.take_add_one, List.map_append, List.getD_eq_getElem?_getD, List.getElem?_eq_getElem h]
  rfl
theorem Rl.Fl.of_own {w : World} {base : Nat} {us : List Nat} {A : Option Addr} {n cp : Nat} (hn : n = us.length) (h : w.ownsRow base 26 1 (.slice A n cp) n (Rl.flts us)) (hl : us.length * 8 ≤ 140737488351232) (hlt : ∀ x ∈ us, x < 18446744073709551616) : Rl.Fl w A us := by
  subst hn
  refine ⟨by omega, fun i hi => ?_, hlt⟩
  rcases h.2 with ⟨hv, hx⟩ | ⟨g, cap, cur, hv, _, hg, h1, _, h3, h4⟩
  · injection hv with _ h2 _
    omega
  · injection hv with h5 _ _
    have hgl : g < w.heap.size := (Array.getElem?_eq_some_iff.1 hg).1
    refine ⟨g, 0, h5, hgl, ?_⟩
    rw [cell_of_row _ _ _ _ _ _ hg, Nat.zero_add, ← Array.getElem?_toList]
    rw [Nat.mul_one] at h4
    have := congrArg (fun l => l[i]?) h4
    simp only [List.getElem?_take, if_pos hi] at this
    rw [this]
    unfold Rl.flts
    rw [List.getElem?_map, List.getElem?_eq_getElem hi, List.getD_eq_getElem?_getD, List.getElem?_eq_getElem hi]
    rfl
def Rl.OfRel (us : List Nat) (w : World) (gk : Nat) (sv iv : Value) (wr : World) : Prop :=
  ∃ k : Nat, k ≤ us.length ∧ gk = us.length - k ∧ iv = .int .i64 k ∧ wr.ownsRow w.heap.size 26 1 sv k (Rl.flts (us.take k)) ∧ Below w.heap.size w wr
set_option maxHeartbeats 8000000 in
set_option maxRecDepth 100000 in
theorem of_any (A : Option Addr) (cp : Nat) (us : List Nat) (w : World) (hu : Rl.Us w A us) : Calls Tryz.prog 12 #[.slice A us.length cp] w fun e w' => ∃ B cq, e = .returned (.slice B us.length cq) ∧ Rl.Fl w' B us ∧ Below w.heap.size w w' := by
  have HX := Lib.hid hu
  have hl := hu.len
  have kr := Rl.run27
  clear hu
  go_enter Tryz.func12, Tryz.ntmps12
  go_wp2_with fail
  go_loopg [3, 4] us.length (fun gk sv iv wx => Rl.OfRel us w gk sv iv wx)
  case atStart => exact ⟨0, by omega, by omega, rfl, World.ownsRow_nil _ _ _ _, Below.refl _ _⟩
  case round =>
    obtain ⟨k, hk, rfl, rfl, hown, hb⟩ := hrel
    obtain ⟨B, cq, rfl⟩ := Rl.own_slice hown
    have HO := Lib.hid hown
    have HB := Lib.hid hb
    by_cases hlt : k < us.length
    · obtain ⟨b, o, rfl, hblt, hcell⟩ := (HX.out.keep hb).cell k hlt
      have htk := Rl.flts_take us k hlt
      generalize us.getD k 0 = x at hcell htk
      have HTK := Lib.hid htk
      have hbw := hb.size
      clear hown hb htk
      go_wp2_with (at_builtin; refine Rl.wpList_append rfl (.tmp 11) (.tmp 17) rfl w.heap.size (.slice B k cq) k (Rl.flts (us.take k)) x _ rfl rfl rfl hbw HO.out (by omega) ?_; intro v1 w1 ho1 hg1; obtain ⟨B1, cp1, rfl⟩ := Rl.own_slice ho1; have HO1 := Lib.hid ho1; have HG1 := Lib.hid hg1; clear ho1 hg1)
      go_roundg (us.length - (k + 1))
      case measure => omega
      case rel => exact ⟨k + 1, by omega, rfl, by go_num, by rw [HTK.out]; exact HO1.out, (HB.out.alloc hbw _).grown HG1.out (by simp; omega) (fun j hj => (HO.out.lt j hj).1)⟩
    · have hke : k = us.length := by omega
      subst hke
      rw [List.take_length] at HO
      go_wp2_with fail
      go_ret
      exact ⟨_, _, rfl, Rl.Fl.of_own rfl HO.out HX.out.len HX.out.lt, HB.out⟩
end Go.Proofs.YtljmnafmnmmehaaGreatDoor
