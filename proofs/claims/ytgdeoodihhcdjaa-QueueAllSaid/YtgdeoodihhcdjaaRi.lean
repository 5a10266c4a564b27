/- Leave: the closure, IndexFunc, Clone. -/
import Derived.Test.YtgdeoodihhcdjaaRh
import Derived.Lib.LazyBuf
namespace Go.Proofs.Ytgdeoodihhcdjaa
open Go.RowKit
set_option linter.unusedVariables false
set_option linter.unusedSimpArgs false

theorem leave1_any (s4 s5 id : Int) (p : Addr) (w : World) (hp : w.cell? p = some (.int .i64 id)) (hlt : p.block < w.heap.size) :
    Calls Try.prog 44 #[.agg #[.int .i64 s4, .int .i64 s5], .pointer (some p)] w fun e w' => e = .returned (.bool (s4 == id)) ∧ Below w.heap.size w w' := by
  obtain ⟨pb, po, pp⟩ := p
  go_enter Try.func44, Try.ntmps44
  go_wp2
  go_ret
  exact ⟨rfl, (Below.refl _ _).alloc (Nat.le_refl _) _⟩

theorem indexFunc_any (V : Value) (ys : List (Int × Int)) (LB : Option Nat) (id : Int) (p : Addr) (w : World) (k : Nat) (hk : k ≤ ys.length) (hl : Qu.Line w V ys LB) (hy : ys.length ≤ 2000) (hp : w.cell? p = some (.int .i64 id)) (hlt : p.block < w.heap.size)
    (hbef : ∀ j, j < k → (ys.getD j (0, 0)).1 ≠ id) (hat : k < ys.length → (ys.getD k (0, 0)).1 = id) :
    Calls Try.prog 43 #[V, .func (.func 44) #[] #[.pointer (some p)]] w fun e w' => e = .returned (.int .i64 (if k < ys.length then (k : Int) else -1)) ∧ Below w.heap.size w w' := by
  obtain ⟨A, cp, rfl⟩ := hl.slice
  have HL := Lib.hid hl
  have HBEF := Lib.hid hbef
  have HAT := Lib.hid hat
  have HP := Lib.hid hp
  obtain ⟨r, hr⟩ : ∃ r : Int, r = (if k < ys.length then (k : Int) else -1) := ⟨_, rfl⟩
  rw [← hr]
  have HR := Lib.hid hr
  clear hl hbef hat hp hr
  go_enter Try.func43, Try.ntmps43
  go_wp2
  go_loopg [8] ys.length (fun gk s8 wx => ∃ t : Nat, t ≤ k ∧ gk = ys.length - t ∧ s8 = .int .i64 t ∧ Below w.heap.size w wx)
  case atStart => exact ⟨0, by omega, by omega, rfl, Below.refl _ _⟩
  case round =>
    obtain ⟨t, ht, rfl, rfl, hb⟩ := hrel
    have HB := Lib.hid hb
    clear hb
    by_cases htl : t < ys.length
    · obtain ⟨lb, off, cap, hv, hlt2, x0, x1⟩ := (HL.out.keep (w' := wr) (fun i hi => HB.out.block i (HL.out.lt i hi))).get htl
      injection hv with hv1 _ hv3
      subst hv1
      subst hv3
      have hp2 : wr.cell? p = some (.int .i64 id) := (World.cell?_of_block (HB.out.block _ hlt)).trans HP.out
      obtain ⟨s4, hs4⟩ : ∃ s4, (ys.getD t (0, 0)).1 = s4 := ⟨_, rfl⟩
      obtain ⟨s5, hs5⟩ : ∃ s5, (ys.getD t (0, 0)).2 = s5 := ⟨_, rfl⟩
      have HC := Lib.hid (leave1_any s4 s5 id p wr hp2 (Nat.lt_of_lt_of_le hlt HB.out.size))
      have HS4 := Lib.hid hs4
      rw [hs4] at x0
      rw [hs5] at x1
      clear hp2 hs4 hs5
      by_cases htk : t < k
      · have he : (s4 == id) = false := by
          rw [beq_eq_false_iff_ne, ← HS4.out]
          exact HBEF.out t htk
        rw [he] at HC
        clear he
        go_wp2_with (go_at_call 44; refine HC.out.mono ?_; rintro e w1 ⟨rfl, hb1⟩)
        go_roundg (ys.length - (t + 1))
        case measure => omega
        case rel => exact ⟨t + 1, by omega, rfl, by go_num, HB.out.trans (hb1.mono HB.out.size)⟩
      · obtain rfl : t = k := by omega
        have he : (s4 == id) = true := by
          rw [beq_iff_eq, ← HS4.out]
          exact HAT.out htl
        rw [he] at HC
        clear he
        go_wp2_with (go_at_call 44; refine HC.out.mono ?_; rintro e w1 ⟨rfl, hb1⟩)
        go_ret
        exact ⟨by rw [HR.out, if_pos htl]; rfl, HB.out.trans (hb1.mono HB.out.size)⟩
    · have htl2 : ¬ k < ys.length := by omega
      have HN := Lib.hid htl2
      clear htl2
      go_wp2
      go_ret
      exact ⟨by rw [HR.out, if_neg HN.out]; rfl, HB.out⟩

theorem Qu.wpList_append_own_line {P : Program} (w : World) {ops : Array Oper} {rest : List Oper} {o : Oper} {a : Act} {Q : Exit → Act → World → Prop} (hgd : o.guard = none) (s x : Operand) (t : TypeId)
    (ho : o.op = .call { callee := .builtin .append, args := #[s, x], argTypes := #[t, t] }) (ht : P.underlying t = some (.slice 38))
    (hinfo : (P.info? 38).map (fun i => (i.zero, i.size, i.bytes)) = some (some (.agg #[.int .i64 0, .int .i64 0]), 2, 16))
    (base : Nat) (hbase : base ≤ w.heap.size) (v : Value) (xs zs : List (Int × Int)) (V : Value) (LB : Option Nat) (hs : a.eval s = v) (hx : a.eval x = V) (hown : w.ownsRow base 38 2 v xs.length (Qu.enc xs)) (hline : Qu.Line w V zs LB) (hn : xs.length + zs.length ≤ 100000)
    (h : ∀ v' w', w'.ownsRow base 38 2 v' (xs.length + zs.length) (Qu.enc (xs ++ zs)) → w.grownBy w' v.ownBlock → wpList P ops Q rest (a.put o.dst v') w') : wpList P ops Q (o :: rest) a w := by
  refine wpList_plain hgd fun K hK => ?_
  obtain ⟨v', w', hrun, h1, h2⟩ := Qu.run_append_own_line (P := P) w t o.type ht hinfo base hbase v xs zs hown V LB hline hn
  unfold Oper.wp
  simp [execOp, ho, resolve, invoke, builtin, hs, hx, hrun, Result.andThen]
  exact hK _ _ (h v' w' h1 h2)

set_option maxRecDepth 100000 in
theorem clone_any (lb off cap : Nat) (ys : List (Int × Int)) (LB : Option Nat) (w : World) (hl : Qu.Line w (.slice (some ⟨lb, off, none⟩) ys.length cap) ys LB) (hy : ys.length ≤ 2000) :
    Calls Try.prog 46 #[.slice (some ⟨lb, off, none⟩) ys.length cap] w fun e w' => ∃ v, e = .returned v ∧ w'.ownsRow w.heap.size 38 2 v ys.length (Qu.enc ys) ∧ Below w.heap.size w w' := by
  have HL := Lib.hid hl
  clear hl
  have hb0 : Below w.heap.size w (w.alloc (.cells #[] 38 (0, 0))) := (Below.refl _ _).alloc (Nat.le_refl _) _
  have hown0 : (w.alloc (.cells #[] 38 (0, 0))).ownsRow w.heap.size 38 2 (.slice (some ⟨w.heap.size, 0, none⟩) 0 0) ([] : List (Int × Int)).length (Qu.enc []) :=
    ⟨rfl, .inr ⟨w.heap.size, 0, #[], rfl, Nat.le_refl _, heap_alloc_new w _, Nat.le_refl _, by decide, rfl, rfl⟩⟩
  have hcmp : ∀ w, (binOp .eql 31 (.slice (some ⟨lb, off, none⟩) ys.length cap) (.slice none 0 0)).run Try.prog w = .ok (.bool false) w := fun w => Lib.run_eql_slice_nil (h := Try.underlying31) ..; have hcmp : ∀ w, (binOp .eql 31 (.slice (some ⟨lb, off, none⟩) ys.length cap) (.slice none 0 0)).run Try.prog w = .ok (.bool false) w := hcmp
  have HB0 := Lib.hid hb0
  have HOWN0 := Lib.hid hown0
  clear hb0 hown0
  go_enter Try.func46, Try.ntmps46
  go_wp2_with (at_builtin; refine Qu.wpList_append_own_line _ rfl (.tmp 5) (.tmp 6) 31 rfl Try.underlying31 Try.info38 w.heap.size HB0.out.size _ [] ys _ LB rfl rfl HOWN0.out (HL.out.keep (fun i hi => HB0.out.block i (HL.out.lt i hi))) (by simp; omega) ?_; intro v2 w2 hown2 hg2)
  go_ret
  refine ⟨_, rfl, by simpa using hown2, HB0.out.grown hg2 HB0.out.size (fun k hk => HOWN0.out.lt k hk |>.1)⟩
end Go.Proofs.Ytgdeoodihhcdjaa
