/- The contract of finds. -/
import Derived.Test.YtgdeoodihhcdjaaNo
import Derived.Deep.DeepCutAuto
namespace Go.Proofs.Ytgdeoodihhcdjaa
open Go.RowKit
set_option linter.unusedVariables false
set_option linter.unusedSimpArgs false


/-- One round of finds. -/
def Ln.findG (ps : List Ln.Past) (f : Nat) (m : Ln.Mod) (k : Ln.Key) (i : Nat) (st : Ln.St) : Bool × Ln.St :=
  match Ln.putF ps m k i with
  | none => (false, st)
  | some (n, l) => if (Ln.findsF ps f n l { st with order := st.order ++ [i] }).1 = true then (true, (Ln.findsF ps f n l { st with order := st.order ++ [i] }).2)
      else (false, { (Ln.findsF ps f n l { st with order := st.order ++ [i] }).2 with order := (Ln.findsF ps f n l { st with order := st.order ++ [i] }).2.order.dropLast })
theorem Ln.finds_succ (ps : List Ln.Past) (f : Nat) (m : Ln.Mod) (k : Ln.Key) (st : Ln.St) : Ln.findsF ps (f + 1) m k st =
    if k.set &&& Ln.allF ps = Ln.allF ps then (true, st) else if k ∈ st.tried then (false, st) else Ln.loopF (Ln.findG ps f m k) (List.range' 0 ps.length) { st with tried := k :: st.tried } := by
  rw [← List.range_eq_range']
  rfl
theorem Ln.loop_step (g : Nat → Ln.St → Bool × Ln.St) (a c : Nat) (st : Ln.St) : Ln.loopF g (List.range' a (c + 1)) st = if (g a st).1 = true then (true, (g a st).2) else Ln.loopF g (List.range' (a + 1) c) (g a st).2 := by
  rw [List.range'_succ]
  rfl
def Ln.FindsRel (w0 w1 : World) (sb mb bb : Nat) (A : Option Addr) (cp : Nat) (ps : List Ln.Past) (f : Nat) (m : Ln.Mod) (k : Ln.Key) (st1 : Ln.St) (F : Bool × Ln.St) (gk : Nat) (iv : Value) (wr : World) : Prop :=
  ∃ (j : Nat) (st : Ln.St) (OV : Value), j ≤ ps.length ∧ gk = ps.length - j ∧ iv = .int .i64 j ∧ Ln.Srch w0 wr sb mb bb A cp ps st OV ∧ Ln.Fz w1 wr ∧ F = Ln.loopF (Ln.findG ps f m k) (List.range' j (ps.length - j)) st ∧
    st.order.length = st1.order.length ∧ st.tried.length + (ps.length - j) * Ln.Tn f ≤ 100000000000000
theorem Ln.arr8 {x : Array Value} (h : x.size = 8) : ∃ x0 x1 x2 x3 x4 x5 x6 x7, x = #[x0, x1, x2, x3, x4, x5, x6, x7] := by
  obtain ⟨l⟩ := x
  match l, h with
  | [x0, x1, x2, x3, x4, x5, x6, x7], _ => exact ⟨x0, x1, x2, x3, x4, x5, x6, x7, rfl⟩
theorem Ln.arr13 {x : Array Value} (h : x.size = 13) : ∃ x0 x1 x2 x3 x4 x5 x6 x7 x8 x9 x10 x11 x12, x = #[x0, x1, x2, x3, x4, x5, x6, x7, x8, x9, x10, x11, x12] := by
  obtain ⟨l⟩ := x
  match l, h with
  | [x0, x1, x2, x3, x4, x5, x6, x7, x8, x9, x10, x11, x12], _ => exact ⟨x0, x1, x2, x3, x4, x5, x6, x7, x8, x9, x10, x11, x12, rfl⟩
theorem Ln.Srch.grown {w0 w w1 : World} {sb mb bb : Nat} {A : Option Addr} {cp : Nat} {ps : List Ln.Past} {st : Ln.St} {OV : Value} (h : Ln.Srch w0 w sb mb bb A cp ps st OV) (hg : w.grownBy w1 OV.ownBlock) :
    ∀ (i : Nat) (cs : Array Value) (t : TypeId) (f : Nat × Nat), w.heap[i]? = some (.cells cs t f) → t ≠ 3 → w1.heap[i]? = some (.cells cs t f) := fun i cs t f hi ht => (hg.block i (Qu.blk_lt hi) (fun e => by
      rcases h.own.2 with ⟨h1, _⟩ | ⟨g, cap, cur, h1, _, h3, _⟩
      · rw [h1] at e; cases e
      · rw [h1] at e
        injection e with e
        have e : g = i := e.symm
        subst e
        rw [hi] at h3
        injection h3 with h3
        injection h3 with _ h3
        exact ht h3)).trans hi
theorem Ln.own_drop {w : World} {base n cap : Nat} {A : Option Addr} {xs : List Value} (h : w.ownsRow base 3 1 (.slice A (n + 1) cap) (n + 1) xs) : w.ownsRow base 3 1 (.slice A n cap) n xs.dropLast ∧ n + 1 ≤ cap := by
  obtain ⟨hl, h⟩ := h
  rcases h with ⟨_, h⟩ | ⟨g, cap2, cur, h1, h2, h3, h4, h5, h6, h7⟩
  · omega
  · injection h1 with h1 _ h1c
    subst h1
    subst h1c
    refine ⟨⟨by simp; omega, .inr ⟨g, cap, cur, rfl, h2, h3, by omega, h5, h6, ?_⟩⟩, h4⟩
    rw [← h7, List.dropLast_eq_take, List.length_take, List.take_take]
    congr 1
    have : cur.toList.length = cap * 1 := by simpa using h6
    omega
theorem Ln.findG_none {ps : List Ln.Past} {f : Nat} {m : Ln.Mod} {k : Ln.Key} {j : Nat} {st : Ln.St} (h : Ln.putF ps m k j = none) : Ln.findG ps f m k j st = (false, st) := by
  unfold Ln.findG
  rw [h]
theorem Ln.findG_some {ps : List Ln.Past} {f : Nat} {m n : Ln.Mod} {k l : Ln.Key} {j : Nat} {st : Ln.St} (h : Ln.putF ps m k j = some (n, l)) (R : Bool × Ln.St) (hR : Ln.findsF ps f n l { st with order := st.order ++ [j] } = R) :
    Ln.findG ps f m k j st = if R.1 = true then (true, R.2) else (false, { R.2 with order := R.2.order.dropLast }) := by
  unfold Ln.findG
  rw [h]
  simp only [hR]
theorem Ln.nats_snoc (xs : List Nat) (j : Nat) : Ln.nats (xs ++ [j]) = Ln.nats xs ++ [Value.int .i64 (j : Int)] := by simp [Ln.nats]
theorem Ln.nats_drop (xs : List Nat) : (Ln.nats xs).dropLast = Ln.nats xs.dropLast := by simp [Ln.nats]
theorem Ln.below2 (w : World) (a b : Obj) : Below w.heap.size w ((w.alloc a).alloc b) := (Ln.below_alloc _ w (Nat.le_refl _) _).alloc (by simp) _
theorem Ln.below3 (w : World) (a b c : Obj) : Below w.heap.size w (((w.alloc a).alloc b).alloc c) := (Ln.below2 w a b).alloc (by simp; omega) _
theorem Ln.made3a (w : World) (a b c : Obj) : (((w.alloc a).alloc b).alloc c).heap[w.heap.size]? = some a := Qu.blk_alloc (Qu.blk_alloc (heap_alloc_new w a) _) _
theorem Ln.made3b (w : World) (a b c : Obj) : (((w.alloc a).alloc b).alloc c).heap[w.heap.size + 1]? = some b := by
  have h := heap_alloc_new (w.alloc a) b
  rw [show (w.alloc a).heap.size = w.heap.size + 1 from by simp] at h
  exact Qu.blk_alloc h _
theorem Ln.rd_new3 (w : World) (a b : Obj) (u : Value) : Ln.Rd (((w.alloc a).alloc b).alloc (.cells #[u] 3)) (.slice (some ⟨w.heap.size + 1 + 1, 0, none⟩) 1 1) [u] := by
  have h := Ln.rd_new ((w.alloc a).alloc b) u 3
  rwa [show ((w.alloc a).alloc b).heap.size = w.heap.size + 1 + 1 from by simp] at h
theorem Ln.base3 {w0 w : World} {sb mb bb : Nat} {A : Option Addr} {cp : Nat} {ps : List Ln.Past} {st : Ln.St} {OV : Value} (h : Ln.Srch w0 w sb mb bb A cp ps st OV) (a b c : Obj) : w0.heap.size ≤ (((w.alloc a).alloc b).alloc c).heap.size := by
  have := h.low.size
  simp
  omega
def Ln.Found (w0 w : World) (sb mb bb : Nat) (A : Option Addr) (cp : Nat) (ps : List Ln.Past) (F : Bool × Ln.St) (e : Ending) (w' : World) : Prop :=
  ∃ OV', e = .returned (.bool F.1) ∧ Ln.Srch w0 w' sb mb bb A cp ps F.2 OV' ∧ Ln.Fz w w'
theorem Ln.Fz.drew {w w1 : World} (h : Ln.Fz w w1) : Ln.Fz w w1.drew := ⟨h.size, h.kp⟩
theorem Ln.Srch.drew {w0 w : World} {sb mb bb : Nat} {A : Option Addr} {cp : Nat} {ps : List Ln.Past} {st : Ln.St} {OV : Value} (h : Ln.Srch w0 w sb mb bb A cp ps st OV) : Ln.Srch w0 w.drew sb mb bb A cp ps st OV :=
  ⟨h.low.drew, h.sch, h.own, h.keys, h.hs, h.hm⟩
set_option maxHeartbeats 4000000 in
set_option maxRecDepth 100000 in
theorem finds_any (w0 : World) (sb mb bb : Nat) (A : Option Addr) (cp : Nat) (ps : List Ln.Past) (hp : Ln.Pasts w0 A cp ps) (hn : ps.length ≤ 12) : ∀ (f : Nat) (m : Ln.Mod) (k : Ln.Key) (st : Ln.St) (OV mv : Value) (c : Nat) (w : World),
    Ln.Srch w0 w sb mb bb A cp ps st OV → Ln.ModAt w mv m → Ln.MOk m c → c + f ≤ 20 → Ln.KOk k → ps.length < f + Ln.cnt ps k → st.order.length + f ≤ 20 → st.tried.length + Ln.Tn f ≤ 100000000000000 →
    Calls Try.prog 50 #[.pointer (some ⟨sb, 0, none⟩), mv, .agg (Ln.kc k)] w (Ln.Found w0 w sb mb bb A cp ps (Ln.findsF ps f m k st)) := by
  intro f
  induction f with
  | zero =>
    intro m k st OV mv c w hs hm hmo hc hok hcnt
    have := Ln.cnt_le ps k
    omega
  | succ f ih =>
    intro m k st OV mv c w hs hm hmo hc hok hcnt hord htr
    have HS := Lib.hid hs
    obtain ⟨rv, rfl, hrec⟩ := hm
    obtain ⟨Ar, cr, rfl⟩ := hrec.slice
    have HREC := Lib.hid hrec
    have HMO := Lib.hid hmo
    have HOK := Lib.hid hok
    have HIH := Lib.hid ih
    have HP := Lib.hid hp
    have HCNT := Lib.hid hcnt
    have HTR := Lib.hid htr
    have HORD := Lib.hid hord
    have HC := Lib.hid hc
    have hset : k.set < 18446744073709551616 := by have := hok.set; omega
    have hall : Ln.allF ps < 18446744073709551616 := Ln.maskF_lt12 _ _ hn
    have hand := u64_and_nat k.set (Ln.allF ps) hset hall
    obtain ⟨a0, a1, a2, a3, a4, a5, a6, a7, a8, a9, a10, a11, he, hl⟩ := Ln.kc_lit hok
    have HE := Lib.hid he
    rw [he]
    have hsb := hs.sch.1
    have hsblt := Qu.blk_lt hsb
    have hsbk := hs.sch.1
    clear hs hrec hmo ih hcnt htr hord hc he hl hset hall
    rw [Ln.finds_succ]
    by_cases g0 : k.set &&& Ln.allF ps = Ln.allF ps
    · rw [if_pos g0]
      rw [g0] at hand
      go_enter Try.func50, Try.ntmps50
      unfold Ln.cells
      go_wp2_with fail
      generalize hw5 : (w.alloc (Obj.cells #[Value.int IntKind.i64 m.base, Value.int IntKind.i64 m.first, Value.int IntKind.i64 m.durable, Value.int IntKind.i64 m.next, Value.int IntKind.i64 m.limit, Value.slice Ar m.recs.length cr, Value.bool m.failed, Value.bool m.closed] 71)).alloc (Obj.cells #[Value.int IntKind.u64 (k.set : Int), Value.int IntKind.i64 a0, Value.int IntKind.i64 a1, Value.int IntKind.i64 a2, Value.int IntKind.i64 a3, Value.int IntKind.i64 a4, Value.int IntKind.i64 a5, Value.int IntKind.i64 a6, Value.int IntKind.i64 a7, Value.int IntKind.i64 a8, Value.int IntKind.i64 a9, Value.int IntKind.i64 a10, Value.int IntKind.i64 a11] 104) = w5
      have hb5 : Below w.heap.size w w5 := by rw [← hw5]; exact (Ln.below_alloc _ w (Nat.le_refl _) _).alloc (by simp) _
      have hm5 : w5.heap[w.heap.size]? = some (Obj.cells #[Value.int IntKind.i64 m.base, Value.int IntKind.i64 m.first, Value.int IntKind.i64 m.durable, Value.int IntKind.i64 m.next, Value.int IntKind.i64 m.limit, Value.slice Ar m.recs.length cr, Value.bool m.failed, Value.bool m.closed] 71) := by rw [← hw5]; exact Qu.blk_alloc (heap_alloc_new w _) _
      have hk5 : w5.heap[w.heap.size + 1]? = some (Obj.cells #[Value.int IntKind.u64 (k.set : Int), Value.int IntKind.i64 a0, Value.int IntKind.i64 a1, Value.int IntKind.i64 a2, Value.int IntKind.i64 a3, Value.int IntKind.i64 a4, Value.int IntKind.i64 a5, Value.int IntKind.i64 a6, Value.int IntKind.i64 a7, Value.int IntKind.i64 a8, Value.int IntKind.i64 a9, Value.int IntKind.i64 a10, Value.int IntKind.i64 a11] 104) := by rw [← hw5]; have h := heap_alloc_new (w.alloc (Obj.cells #[Value.int IntKind.i64 m.base, Value.int IntKind.i64 m.first, Value.int IntKind.i64 m.durable, Value.int IntKind.i64 m.next, Value.int IntKind.i64 m.limit, Value.slice Ar m.recs.length cr, Value.bool m.failed, Value.bool m.closed] 71)) (Obj.cells #[Value.int IntKind.u64 (k.set : Int), Value.int IntKind.i64 a0, Value.int IntKind.i64 a1, Value.int IntKind.i64 a2, Value.int IntKind.i64 a3, Value.int IntKind.i64 a4, Value.int IntKind.i64 a5, Value.int IntKind.i64 a6, Value.int IntKind.i64 a7, Value.int IntKind.i64 a8, Value.int IntKind.i64 a9, Value.int IntKind.i64 a10, Value.int IntKind.i64 a11] 104); rwa [show (w.alloc (Obj.cells #[Value.int IntKind.i64 m.base, Value.int IntKind.i64 m.first, Value.int IntKind.i64 m.durable, Value.int IntKind.i64 m.next, Value.int IntKind.i64 m.limit, Value.slice Ar m.recs.length cr, Value.bool m.failed, Value.bool m.closed] 71)).heap.size = w.heap.size + 1 from by simp] at h
      have hs5 := HS.out.below hb5
      have hsbk5 := hs5.sch.1
      have s1 : w5.cell? ⟨sb, 1, none⟩ = some (.int .u64 (Ln.allF ps : Int)) := Qu.blk_cell hsbk5 1
      have hsblt5 := Qu.blk_lt hsbk5
      have hNlt := Qu.blk_lt hk5
      have k0 : w5.cell? ⟨w.heap.size + 1, 0, none⟩ = some (Value.int IntKind.u64 (k.set : Int)) := Qu.blk_cell hk5 0
      have k1 : w5.cell? ⟨w.heap.size + 1, 1, none⟩ = some (Value.int IntKind.i64 a0) := Qu.blk_cell hk5 1
      have k2 : w5.cell? ⟨w.heap.size + 1, 2, none⟩ = some (Value.int IntKind.i64 a1) := Qu.blk_cell hk5 2
      have k3 : w5.cell? ⟨w.heap.size + 1, 3, none⟩ = some (Value.int IntKind.i64 a2) := Qu.blk_cell hk5 3
      have k4 : w5.cell? ⟨w.heap.size + 1, 4, none⟩ = some (Value.int IntKind.i64 a3) := Qu.blk_cell hk5 4
      have k5 : w5.cell? ⟨w.heap.size + 1, 5, none⟩ = some (Value.int IntKind.i64 a4) := Qu.blk_cell hk5 5
      have k6 : w5.cell? ⟨w.heap.size + 1, 6, none⟩ = some (Value.int IntKind.i64 a5) := Qu.blk_cell hk5 6
      have k7 : w5.cell? ⟨w.heap.size + 1, 7, none⟩ = some (Value.int IntKind.i64 a6) := Qu.blk_cell hk5 7
      have k8 : w5.cell? ⟨w.heap.size + 1, 8, none⟩ = some (Value.int IntKind.i64 a7) := Qu.blk_cell hk5 8
      have k9 : w5.cell? ⟨w.heap.size + 1, 9, none⟩ = some (Value.int IntKind.i64 a8) := Qu.blk_cell hk5 9
      have k10 : w5.cell? ⟨w.heap.size + 1, 10, none⟩ = some (Value.int IntKind.i64 a9) := Qu.blk_cell hk5 10
      have k11 : w5.cell? ⟨w.heap.size + 1, 11, none⟩ = some (Value.int IntKind.i64 a10) := Qu.blk_cell hk5 11
      have k12 : w5.cell? ⟨w.heap.size + 1, 12, none⟩ = some (Value.int IntKind.i64 a11) := Qu.blk_cell hk5 12
      have HM5 := Lib.hid hm5
      have HK5 := Lib.hid hk5
      have HS5 := Lib.hid hs5
      have HB5 := Lib.hid hb5
      clear hw5 hb5 hm5 hk5 hs5 hsbk5 hsb hsbk
      (refine wp_region_still_tail 11 (by kernel_rfl) (by kernel_rfl) ?_; simp only [List.take_succ_cons, List.take_zero, List.drop_succ_cons, List.drop_zero]; (iterate 11 ((with_reducible refine Ln.still_want (by kernel_rfl) (fun K hK => ?_)); go_simp; refine hK _ ?_; clear hK K)); with_reducible refine wpStill_nil ?_)
      go_wp2_with fail
      go_ret
      exact ⟨OV, rfl, HS5.out.drew, (Ln.Fz.of_below HB5.out).drew⟩
    rw [if_neg g0]
    have hne : ¬ bits .and .u64 (k.set : Int) (Ln.allF ps : Int) = (Ln.allF ps : Int) := by rw [hand]; exact fun h => g0 (by exact_mod_cast h)
    have hneb : (bits .and .u64 (k.set : Int) (Ln.allF ps : Int) == (Ln.allF ps : Int)) = false := beq_eq_false_iff_ne.2 hne
    clear hand g0
    have hseen := fun (W : World) (h : Ln.Srch w0 W sb mb bb A cp ps st OV) => seen_any sb mb _ _ _ _ _ st.tried k W h.sch.1 h.keys HOK.out (by have := HTR.out; omega)
    rw [HE.out] at hseen
    by_cases g1 : k ∈ st.tried
    · rw [if_pos g1]
      simp only [decide_eq_true g1] at hseen
      have hsf : Ln.seenF st.tried k = st.tried := by unfold Ln.seenF; rw [if_pos g1]
      rw [hsf] at hseen
      have HSEEN := Lib.hid hseen
      clear hseen hsf g1
      go_enter Try.func50, Try.ntmps50
      unfold Ln.cells
      go_wp2_with fail
      generalize hw5 : (w.alloc (Obj.cells #[Value.int IntKind.i64 m.base, Value.int IntKind.i64 m.first, Value.int IntKind.i64 m.durable, Value.int IntKind.i64 m.next, Value.int IntKind.i64 m.limit, Value.slice Ar m.recs.length cr, Value.bool m.failed, Value.bool m.closed] 71)).alloc (Obj.cells #[Value.int IntKind.u64 (k.set : Int), Value.int IntKind.i64 a0, Value.int IntKind.i64 a1, Value.int IntKind.i64 a2, Value.int IntKind.i64 a3, Value.int IntKind.i64 a4, Value.int IntKind.i64 a5, Value.int IntKind.i64 a6, Value.int IntKind.i64 a7, Value.int IntKind.i64 a8, Value.int IntKind.i64 a9, Value.int IntKind.i64 a10, Value.int IntKind.i64 a11] 104) = w5
      have hb5 : Below w.heap.size w w5 := by rw [← hw5]; exact (Ln.below_alloc _ w (Nat.le_refl _) _).alloc (by simp) _
      have hm5 : w5.heap[w.heap.size]? = some (Obj.cells #[Value.int IntKind.i64 m.base, Value.int IntKind.i64 m.first, Value.int IntKind.i64 m.durable, Value.int IntKind.i64 m.next, Value.int IntKind.i64 m.limit, Value.slice Ar m.recs.length cr, Value.bool m.failed, Value.bool m.closed] 71) := by rw [← hw5]; exact Qu.blk_alloc (heap_alloc_new w _) _
      have hk5 : w5.heap[w.heap.size + 1]? = some (Obj.cells #[Value.int IntKind.u64 (k.set : Int), Value.int IntKind.i64 a0, Value.int IntKind.i64 a1, Value.int IntKind.i64 a2, Value.int IntKind.i64 a3, Value.int IntKind.i64 a4, Value.int IntKind.i64 a5, Value.int IntKind.i64 a6, Value.int IntKind.i64 a7, Value.int IntKind.i64 a8, Value.int IntKind.i64 a9, Value.int IntKind.i64 a10, Value.int IntKind.i64 a11] 104) := by rw [← hw5]; have h := heap_alloc_new (w.alloc (Obj.cells #[Value.int IntKind.i64 m.base, Value.int IntKind.i64 m.first, Value.int IntKind.i64 m.durable, Value.int IntKind.i64 m.next, Value.int IntKind.i64 m.limit, Value.slice Ar m.recs.length cr, Value.bool m.failed, Value.bool m.closed] 71)) (Obj.cells #[Value.int IntKind.u64 (k.set : Int), Value.int IntKind.i64 a0, Value.int IntKind.i64 a1, Value.int IntKind.i64 a2, Value.int IntKind.i64 a3, Value.int IntKind.i64 a4, Value.int IntKind.i64 a5, Value.int IntKind.i64 a6, Value.int IntKind.i64 a7, Value.int IntKind.i64 a8, Value.int IntKind.i64 a9, Value.int IntKind.i64 a10, Value.int IntKind.i64 a11] 104); rwa [show (w.alloc (Obj.cells #[Value.int IntKind.i64 m.base, Value.int IntKind.i64 m.first, Value.int IntKind.i64 m.durable, Value.int IntKind.i64 m.next, Value.int IntKind.i64 m.limit, Value.slice Ar m.recs.length cr, Value.bool m.failed, Value.bool m.closed] 71)).heap.size = w.heap.size + 1 from by simp] at h
      have hs5 := HS.out.below hb5
      have hsbk5 := hs5.sch.1
      have s1 : w5.cell? ⟨sb, 1, none⟩ = some (.int .u64 (Ln.allF ps : Int)) := Qu.blk_cell hsbk5 1
      have hsblt5 := Qu.blk_lt hsbk5
      have hNlt := Qu.blk_lt hk5
      have k0 : w5.cell? ⟨w.heap.size + 1, 0, none⟩ = some (Value.int IntKind.u64 (k.set : Int)) := Qu.blk_cell hk5 0
      have k1 : w5.cell? ⟨w.heap.size + 1, 1, none⟩ = some (Value.int IntKind.i64 a0) := Qu.blk_cell hk5 1
      have k2 : w5.cell? ⟨w.heap.size + 1, 2, none⟩ = some (Value.int IntKind.i64 a1) := Qu.blk_cell hk5 2
      have k3 : w5.cell? ⟨w.heap.size + 1, 3, none⟩ = some (Value.int IntKind.i64 a2) := Qu.blk_cell hk5 3
      have k4 : w5.cell? ⟨w.heap.size + 1, 4, none⟩ = some (Value.int IntKind.i64 a3) := Qu.blk_cell hk5 4
      have k5 : w5.cell? ⟨w.heap.size + 1, 5, none⟩ = some (Value.int IntKind.i64 a4) := Qu.blk_cell hk5 5
      have k6 : w5.cell? ⟨w.heap.size + 1, 6, none⟩ = some (Value.int IntKind.i64 a5) := Qu.blk_cell hk5 6
      have k7 : w5.cell? ⟨w.heap.size + 1, 7, none⟩ = some (Value.int IntKind.i64 a6) := Qu.blk_cell hk5 7
      have k8 : w5.cell? ⟨w.heap.size + 1, 8, none⟩ = some (Value.int IntKind.i64 a7) := Qu.blk_cell hk5 8
      have k9 : w5.cell? ⟨w.heap.size + 1, 9, none⟩ = some (Value.int IntKind.i64 a8) := Qu.blk_cell hk5 9
      have k10 : w5.cell? ⟨w.heap.size + 1, 10, none⟩ = some (Value.int IntKind.i64 a9) := Qu.blk_cell hk5 10
      have k11 : w5.cell? ⟨w.heap.size + 1, 11, none⟩ = some (Value.int IntKind.i64 a10) := Qu.blk_cell hk5 11
      have k12 : w5.cell? ⟨w.heap.size + 1, 12, none⟩ = some (Value.int IntKind.i64 a11) := Qu.blk_cell hk5 12
      have HM5 := Lib.hid hm5
      have HK5 := Lib.hid hk5
      have HS5 := Lib.hid hs5
      have HB5 := Lib.hid hb5
      clear hw5 hb5 hm5 hk5 hs5 hsbk5 hsb hsbk
      (refine wp_region_still_tail 11 (by kernel_rfl) (by kernel_rfl) ?_; simp only [List.take_succ_cons, List.take_zero, List.drop_succ_cons, List.drop_zero]; (iterate 11 ((with_reducible refine Ln.still_want (by kernel_rfl) (fun K hK => ?_)); go_simp; refine hK _ ?_; clear hK K)); with_reducible refine wpStill_nil ?_)
      go_wp2_with (go_at_call 61; refine (HSEEN.out _ HS5.out.drew).mono ?_; rintro e w6 ⟨rfl, hk6, hf6⟩; obtain ⟨hs6, hz6⟩ := HS5.out.drew.seen hf6 _ hk6; have HS6 := Lib.hid hs6; have HZ6 := Lib.hid hz6; clear hk6 hf6 hs6 hz6)
      go_ret
      exact ⟨OV, rfl, HS6.out, (Ln.Fz.of_below HB5.out).drew.trans HZ6.out⟩
    rw [if_neg g1]
    simp only [decide_eq_false g1] at hseen
    have hsf : Ln.seenF st.tried k = k :: st.tried := by unfold Ln.seenF; rw [if_neg g1]
    rw [hsf] at hseen
    have HSEEN := Lib.hid hseen
    clear hseen hsf g1
    go_enter Try.func50, Try.ntmps50
    unfold Ln.cells
    go_wp2_with fail
    generalize hw5 : (w.alloc (Obj.cells #[Value.int IntKind.i64 m.base, Value.int IntKind.i64 m.first, Value.int IntKind.i64 m.durable, Value.int IntKind.i64 m.next, Value.int IntKind.i64 m.limit, Value.slice Ar m.recs.length cr, Value.bool m.failed, Value.bool m.closed] 71)).alloc (Obj.cells #[Value.int IntKind.u64 (k.set : Int), Value.int IntKind.i64 a0, Value.int IntKind.i64 a1, Value.int IntKind.i64 a2, Value.int IntKind.i64 a3, Value.int IntKind.i64 a4, Value.int IntKind.i64 a5, Value.int IntKind.i64 a6, Value.int IntKind.i64 a7, Value.int IntKind.i64 a8, Value.int IntKind.i64 a9, Value.int IntKind.i64 a10, Value.int IntKind.i64 a11] 104) = w5
    have hb5 : Below w.heap.size w w5 := by rw [← hw5]; exact (Ln.below_alloc _ w (Nat.le_refl _) _).alloc (by simp) _
    have hm5 : w5.heap[w.heap.size]? = some (Obj.cells #[Value.int IntKind.i64 m.base, Value.int IntKind.i64 m.first, Value.int IntKind.i64 m.durable, Value.int IntKind.i64 m.next, Value.int IntKind.i64 m.limit, Value.slice Ar m.recs.length cr, Value.bool m.failed, Value.bool m.closed] 71) := by rw [← hw5]; exact Qu.blk_alloc (heap_alloc_new w _) _
    have hk5 : w5.heap[w.heap.size + 1]? = some (Obj.cells #[Value.int IntKind.u64 (k.set : Int), Value.int IntKind.i64 a0, Value.int IntKind.i64 a1, Value.int IntKind.i64 a2, Value.int IntKind.i64 a3, Value.int IntKind.i64 a4, Value.int IntKind.i64 a5, Value.int IntKind.i64 a6, Value.int IntKind.i64 a7, Value.int IntKind.i64 a8, Value.int IntKind.i64 a9, Value.int IntKind.i64 a10, Value.int IntKind.i64 a11] 104) := by rw [← hw5]; have h := heap_alloc_new (w.alloc (Obj.cells #[Value.int IntKind.i64 m.base, Value.int IntKind.i64 m.first, Value.int IntKind.i64 m.durable, Value.int IntKind.i64 m.next, Value.int IntKind.i64 m.limit, Value.slice Ar m.recs.length cr, Value.bool m.failed, Value.bool m.closed] 71)) (Obj.cells #[Value.int IntKind.u64 (k.set : Int), Value.int IntKind.i64 a0, Value.int IntKind.i64 a1, Value.int IntKind.i64 a2, Value.int IntKind.i64 a3, Value.int IntKind.i64 a4, Value.int IntKind.i64 a5, Value.int IntKind.i64 a6, Value.int IntKind.i64 a7, Value.int IntKind.i64 a8, Value.int IntKind.i64 a9, Value.int IntKind.i64 a10, Value.int IntKind.i64 a11] 104); rwa [show (w.alloc (Obj.cells #[Value.int IntKind.i64 m.base, Value.int IntKind.i64 m.first, Value.int IntKind.i64 m.durable, Value.int IntKind.i64 m.next, Value.int IntKind.i64 m.limit, Value.slice Ar m.recs.length cr, Value.bool m.failed, Value.bool m.closed] 71)).heap.size = w.heap.size + 1 from by simp] at h
    have hs5 := HS.out.below hb5
    have hsbk5 := hs5.sch.1
    have s1 : w5.cell? ⟨sb, 1, none⟩ = some (.int .u64 (Ln.allF ps : Int)) := Qu.blk_cell hsbk5 1
    have hsblt5 := Qu.blk_lt hsbk5
    have hNlt := Qu.blk_lt hk5
    have k0 : w5.cell? ⟨w.heap.size + 1, 0, none⟩ = some (Value.int IntKind.u64 (k.set : Int)) := Qu.blk_cell hk5 0
    have k1 : w5.cell? ⟨w.heap.size + 1, 1, none⟩ = some (Value.int IntKind.i64 a0) := Qu.blk_cell hk5 1
    have k2 : w5.cell? ⟨w.heap.size + 1, 2, none⟩ = some (Value.int IntKind.i64 a1) := Qu.blk_cell hk5 2
    have k3 : w5.cell? ⟨w.heap.size + 1, 3, none⟩ = some (Value.int IntKind.i64 a2) := Qu.blk_cell hk5 3
    have k4 : w5.cell? ⟨w.heap.size + 1, 4, none⟩ = some (Value.int IntKind.i64 a3) := Qu.blk_cell hk5 4
    have k5 : w5.cell? ⟨w.heap.size + 1, 5, none⟩ = some (Value.int IntKind.i64 a4) := Qu.blk_cell hk5 5
    have k6 : w5.cell? ⟨w.heap.size + 1, 6, none⟩ = some (Value.int IntKind.i64 a5) := Qu.blk_cell hk5 6
    have k7 : w5.cell? ⟨w.heap.size + 1, 7, none⟩ = some (Value.int IntKind.i64 a6) := Qu.blk_cell hk5 7
    have k8 : w5.cell? ⟨w.heap.size + 1, 8, none⟩ = some (Value.int IntKind.i64 a7) := Qu.blk_cell hk5 8
    have k9 : w5.cell? ⟨w.heap.size + 1, 9, none⟩ = some (Value.int IntKind.i64 a8) := Qu.blk_cell hk5 9
    have k10 : w5.cell? ⟨w.heap.size + 1, 10, none⟩ = some (Value.int IntKind.i64 a9) := Qu.blk_cell hk5 10
    have k11 : w5.cell? ⟨w.heap.size + 1, 11, none⟩ = some (Value.int IntKind.i64 a10) := Qu.blk_cell hk5 11
    have k12 : w5.cell? ⟨w.heap.size + 1, 12, none⟩ = some (Value.int IntKind.i64 a11) := Qu.blk_cell hk5 12
    have HM5 := Lib.hid hm5
    have HK5 := Lib.hid hk5
    have HS5 := Lib.hid hs5
    have HB5 := Lib.hid hb5
    clear hw5 hb5 hm5 hk5 hs5 hsbk5 hsb hsbk
    (refine wp_region_still_tail 11 (by kernel_rfl) (by kernel_rfl) ?_; simp only [List.take_succ_cons, List.take_zero, List.drop_succ_cons, List.drop_zero]; (iterate 11 ((with_reducible refine Ln.still_want (by kernel_rfl) (fun K hK => ?_)); go_simp; refine hK _ ?_; clear hK K)); with_reducible refine wpStill_nil ?_)
    go_wp2_with (go_at_call 61; refine (HSEEN.out _ HS5.out.drew).mono ?_; rintro e w6 ⟨rfl, hk6, hf6⟩; obtain ⟨hs6, hz6⟩ := HS5.out.drew.seen hf6 _ hk6; have hsb6 := Qu.blk_cell hs6.sch.1 0; simp only [List.getElem?_toArray, List.getElem?_cons_zero] at hsb6; have hsblt6 := Qu.blk_lt hs6.sch.1; have HS6 := Lib.hid hs6; have HZ6 := Lib.hid ((Ln.Fz.of_below HB5.out).drew.trans hz6); have HZ56 := Lib.hid hz6; clear hk6 hf6 hs6 hz6)
    clear k0 k1 k2 k3 k4 k5 k6 k7 k8 k9 k10 k11 k12 s1 hsblt5 hNlt
    go_loopg [31] ps.length (fun gk iv wr => Ln.FindsRel w0 w6 sb mb bb A cp ps f m k { tried := k :: st.tried, order := st.order, most := st.most } (Ln.loopF (Ln.findG ps f m k) (List.range' 0 ps.length) { tried := k :: st.tried, order := st.order, most := st.most }) gk iv wr)
    case atStart =>
      refine ⟨0, _, OV, by omega, by omega, rfl, HS6.out, Ln.Fz.refl _, rfl, rfl, ?_⟩
      have h := HTR.out
      simp only [Ln.Tn] at h
      have h2 : (ps.length - 0) * Ln.Tn f ≤ 12 * Ln.Tn f := Nat.mul_le_mul_right _ (by omega)
      simp only [List.length_cons]
      omega
    case round =>
      obtain ⟨j, st2, OV2, hj, rfl, rfl, hs2, hz2, hF, hord2, htr2⟩ := hrel
      have HS2 := Lib.hid hs2
      have HZ2 := Lib.hid hz2
      have HORD2 := Lib.hid hord2
      have HTR2 := Lib.hid htr2
      by_cases hlt : j < ps.length
      · have ej : ps.length - j = (ps.length - (j + 1)) + 1 := by omega
        rw [ej, Ln.loop_step] at hF
        have hsb2 := hs2.sch.1
        have hsblt2 := Qu.blk_lt hsb2
        have hm2 := hz2.kp _ _ _ _ (HZ56.out.kp _ _ _ _ HM5.out (by decide) (by decide)) (by decide) (by decide)
        have hk2 := hz2.kp _ _ _ _ (HZ56.out.kp _ _ _ _ HK5.out (by decide) (by decide)) (by decide) (by decide)
        have hmlt := Qu.blk_lt hm2
        have hklt := Qu.blk_lt hk2
        have hrec2 := hz2.recs (HZ6.out.recs HREC.out)
        have hput := put_any (.agg #[Value.int IntKind.i64 m.base, Value.int IntKind.i64 m.first, Value.int IntKind.i64 m.durable, Value.int IntKind.i64 m.next, Value.int IntKind.i64 m.limit, Value.slice Ar m.recs.length cr, Value.bool m.failed, Value.bool m.closed]) m k j sb mb bb A cp ps OV2 st2.most wr c hs2.sch ⟨_, rfl, hrec2⟩ HMO.out (by have := HC.out; omega) HOK.out (HP.out.keep hs2.low) hlt hn
        rw [HE.out] at hput
        have m0 : wr.cell? ⟨w.heap.size, 0, none⟩ = some (Value.int IntKind.i64 m.base) := Qu.blk_cell hm2 0
        have m1 : wr.cell? ⟨w.heap.size, 1, none⟩ = some (Value.int IntKind.i64 m.first) := Qu.blk_cell hm2 1
        have m2 : wr.cell? ⟨w.heap.size, 2, none⟩ = some (Value.int IntKind.i64 m.durable) := Qu.blk_cell hm2 2
        have m3 : wr.cell? ⟨w.heap.size, 3, none⟩ = some (Value.int IntKind.i64 m.next) := Qu.blk_cell hm2 3
        have m4 : wr.cell? ⟨w.heap.size, 4, none⟩ = some (Value.int IntKind.i64 m.limit) := Qu.blk_cell hm2 4
        have m5 : wr.cell? ⟨w.heap.size, 5, none⟩ = some (Value.slice Ar m.recs.length cr) := Qu.blk_cell hm2 5
        have m6 : wr.cell? ⟨w.heap.size, 6, none⟩ = some (Value.bool m.failed) := Qu.blk_cell hm2 6
        have m7 : wr.cell? ⟨w.heap.size, 7, none⟩ = some (Value.bool m.closed) := Qu.blk_cell hm2 7
        have k0 : wr.cell? ⟨w.heap.size + 1, 0, none⟩ = some (Value.int IntKind.u64 (k.set : Int)) := Qu.blk_cell hk2 0
        have k1 : wr.cell? ⟨w.heap.size + 1, 1, none⟩ = some (Value.int IntKind.i64 a0) := Qu.blk_cell hk2 1
        have k2 : wr.cell? ⟨w.heap.size + 1, 2, none⟩ = some (Value.int IntKind.i64 a1) := Qu.blk_cell hk2 2
        have k3 : wr.cell? ⟨w.heap.size + 1, 3, none⟩ = some (Value.int IntKind.i64 a2) := Qu.blk_cell hk2 3
        have k4 : wr.cell? ⟨w.heap.size + 1, 4, none⟩ = some (Value.int IntKind.i64 a3) := Qu.blk_cell hk2 4
        have k5 : wr.cell? ⟨w.heap.size + 1, 5, none⟩ = some (Value.int IntKind.i64 a4) := Qu.blk_cell hk2 5
        have k6 : wr.cell? ⟨w.heap.size + 1, 6, none⟩ = some (Value.int IntKind.i64 a5) := Qu.blk_cell hk2 6
        have k7 : wr.cell? ⟨w.heap.size + 1, 7, none⟩ = some (Value.int IntKind.i64 a6) := Qu.blk_cell hk2 7
        have k8 : wr.cell? ⟨w.heap.size + 1, 8, none⟩ = some (Value.int IntKind.i64 a7) := Qu.blk_cell hk2 8
        have k9 : wr.cell? ⟨w.heap.size + 1, 9, none⟩ = some (Value.int IntKind.i64 a8) := Qu.blk_cell hk2 9
        have k10 : wr.cell? ⟨w.heap.size + 1, 10, none⟩ = some (Value.int IntKind.i64 a9) := Qu.blk_cell hk2 10
        have k11 : wr.cell? ⟨w.heap.size + 1, 11, none⟩ = some (Value.int IntKind.i64 a10) := Qu.blk_cell hk2 11
        have k12 : wr.cell? ⟨w.heap.size + 1, 12, none⟩ = some (Value.int IntKind.i64 a11) := Qu.blk_cell hk2 12
        have htr3 : st2.tried.length + (Ln.Tn f + (ps.length - (j + 1)) * Ln.Tn f) ≤ 100000000000000 := by
          have h := HTR2.out
          have e2 : (ps.length - (j + 1) + 1) * Ln.Tn f = (ps.length - (j + 1)) * Ln.Tn f + Ln.Tn f := Nat.succ_mul _ _
          rw [ej] at h
          omega
        clear hs2 hz2 hord2 htr2 hm2 hk2 hrec2 ej
        cases hpf : Ln.putF ps m k j with
        | none =>
          rw [hpf] at hput
          rw [Ln.findG_none hpf] at hF
          simp only [if_neg (show ¬ (false = true) from by decide)] at hF
          have HF := Lib.hid hF
          have HPUT := Lib.hid hput
          clear hput hF hpf hsb2
          go_wp2_with (go_at_call 62; refine HPUT.out.mono ?_; rintro e w7 ⟨hb7, n, A8, l8, c8, l, hokl, rfl⟩; obtain ⟨b0, b1, b2, b3, b4, b5, b6, b7, b8, b9, b10, b11, hel, _⟩ := Ln.kc_lit hokl; have HEL := Lib.hid hel; rw [hel]; have HB7 := Lib.hid hb7; clear hb7 hokl hel)
          go_roundg (ps.length - (j + 1))
          case measure => omega
          case rel =>
            have hbb := HB7.out.trans ((Ln.below2 w7 (Obj.cells #[Value.int IntKind.i64 n.base, Value.int IntKind.i64 n.first, Value.int IntKind.i64 n.durable, Value.int IntKind.i64 n.next, Value.int IntKind.i64 n.limit, Value.slice A8 l8 c8, Value.bool n.failed, Value.bool n.closed] 71) (Obj.cells #[Value.int IntKind.u64 (l.set : Int), Value.int IntKind.i64 b0, Value.int IntKind.i64 b1, Value.int IntKind.i64 b2, Value.int IntKind.i64 b3, Value.int IntKind.i64 b4, Value.int IntKind.i64 b5, Value.int IntKind.i64 b6, Value.int IntKind.i64 b7, Value.int IntKind.i64 b8, Value.int IntKind.i64 b9, Value.int IntKind.i64 b10, Value.int IntKind.i64 b11] 104)).mono HB7.out.size)
            exact ⟨j + 1, st2, OV2, by omega, rfl, by go_num, HS2.out.below hbb, HZ2.out.trans (Ln.Fz.of_below hbb), HF.out, HORD2.out, by omega⟩
        | some nl =>
          obtain ⟨n, l⟩ := nl
          obtain ⟨hmo2, hokl⟩ := Ln.put_ok hpf HMO.out HOK.out (by omega)
          have hcnt2 := Ln.cnt_put hlt hpf
          obtain ⟨b0, b1, b2, b3, b4, b5, b6, b7, b8, b9, b10, b11, hel, _⟩ := Ln.kc_lit hokl
          rw [hpf] at hput
          have hput2 := hput.mono (R' := fun e w' => Below wr.heap.size wr w' ∧ ∃ (A8 : Option Addr) (l8 c8 : Nat), e = .returned (.tuple #[.agg #[Value.int IntKind.i64 n.base, Value.int IntKind.i64 n.first, Value.int IntKind.i64 n.durable, Value.int IntKind.i64 n.next, Value.int IntKind.i64 n.limit, Value.slice A8 l8 c8, Value.bool n.failed, Value.bool n.closed], .agg #[Value.int IntKind.u64 (l.set : Int), Value.int IntKind.i64 b0, Value.int IntKind.i64 b1, Value.int IntKind.i64 b2, Value.int IntKind.i64 b3, Value.int IntKind.i64 b4, Value.int IntKind.i64 b5, Value.int IntKind.i64 b6, Value.int IntKind.i64 b7, Value.int IntKind.i64 b8, Value.int IntKind.i64 b9, Value.int IntKind.i64 b10, Value.int IntKind.i64 b11], .bool true]) ∧ Ln.Recs 0 w' (.slice A8 l8 c8) n.recs) (by rintro e w' ⟨h1, A8, l8, c8, he, h2⟩; exact ⟨h1, A8, l8, c8, by rw [he, hel], h2⟩)
          obtain ⟨R, hR⟩ : ∃ R, Ln.findsF ps f n l { st2 with order := st2.order ++ [j] } = R := ⟨_, rfl⟩
          have hG := Ln.findG_some hpf R hR
          have hrecu := fun (A8 : Option Addr) (l8 c8 : Nat) (W : World) (OV3 : Value) (h : Ln.Srch w0 W sb mb bb A cp ps { st2 with order := st2.order ++ [j] } OV3) (hr : Ln.Recs 0 W (.slice A8 l8 c8) n.recs) => HIH.out n l { st2 with order := st2.order ++ [j] } OV3 (.agg #[Value.int IntKind.i64 n.base, Value.int IntKind.i64 n.first, Value.int IntKind.i64 n.durable, Value.int IntKind.i64 n.next, Value.int IntKind.i64 n.limit, Value.slice A8 l8 c8, Value.bool n.failed, Value.bool n.closed]) (c + 1) W h ⟨_, rfl, hr⟩ hmo2 (by have := HC.out; omega) hokl (by have := HCNT.out; omega) (by have h1 := HORD2.out; have h2 := HORD.out; simp only [List.length_append, List.length_cons, List.length_nil]; simp only at h1; omega) (by show st2.tried.length + Ln.Tn f ≤ _; omega)
          simp only [hR, hel] at hrecu
          have hord3 : st2.order.length + 1 ≤ 20 := by have h1 := HORD2.out; have h2 := HORD.out; simp only at h1; omega
          have HOL := Lib.hid hord3
          have HEL := Lib.hid hel
          have htried := Ln.finds_tried ps hn f n l { st2 with order := st2.order ++ [j] }
          rw [hR] at htried
          have HPUT := Lib.hid hput2
          clear hput hput2 hmo2 hokl hcnt2 hpf hel hsb2 hord3
          cases hfb : R.1 with
          | true =>
            have hrecu2 := fun A8 l8 c8 W OV3 h hr => (hrecu A8 l8 c8 W OV3 h hr).mono (R' := fun e w' => ∃ OV', e = .returned (.bool true) ∧ Ln.Srch w0 w' sb mb bb A cp ps R.2 OV' ∧ Ln.Fz W w') (by rintro e w' ⟨OV', he, h⟩; exact ⟨OV', by rw [he, hfb], h⟩)
            rw [if_pos hfb] at hG
            rw [hG] at hF
            simp only [if_pos rfl] at hF
            have HF := Lib.hid hF
            have HRECU := Lib.hid hrecu2
            clear hrecu hrecu2 hF hG hR hfb htried
            go_wp2_with (first
              | (go_at_call 62; refine HPUT.out.mono ?_; rintro e w7 ⟨hb7, A8, l8, c8, rfl, hr7⟩; have hs7 := HS2.out.below hb7; have q4 : w7.cell? ⟨sb, 4, none⟩ = some OV2 := Qu.blk_cell hs7.sch.1 4; have hsblt7 := Qu.blk_lt hs7.sch.1; have HS7 := Lib.hid hs7; have HR7 := Lib.hid hr7; have HB7 := Lib.hid hb7; clear hb7 hr7 hs7)
              | (at_builtin; refine Ln.wpList_append _ rfl (.tmp 49) (.tmp 51) 22 3 rfl Try.underlying22 _ 8 Try.info3 rfl (by decide) w0.heap.size OV2 st2.order.length (Ln.nats st2.order) [Value.int .i64 (j : Int)] (.slice (some ⟨w7.heap.size + 1 + 1, 0, none⟩) 1 1) rfl rfl (Ln.base3 HS7.out _ _ _) (HS7.out.below (Ln.below3 w7 _ _ _)).own (Ln.rd_new3 w7 _ _ _) (by intro u hu; rw [List.mem_singleton.1 hu]; rfl) (by have := HOL.out; simp only [List.length_cons, List.length_nil]; omega) ?_; intro v9 w9 ho9 hg9; obtain ⟨A9, cp9, rfl⟩ := Ln.own_slice ho9; have hs8 := HS7.out.below (Ln.below3 w7 (Obj.cells #[Value.int IntKind.i64 n.base, Value.int IntKind.i64 n.first, Value.int IntKind.i64 n.durable, Value.int IntKind.i64 n.next, Value.int IntKind.i64 n.limit, Value.slice A8 l8 c8, Value.bool n.failed, Value.bool n.closed] 71) (Obj.cells #[Value.int IntKind.u64 (l.set : Int), Value.int IntKind.i64 b0, Value.int IntKind.i64 b1, Value.int IntKind.i64 b2, Value.int IntKind.i64 b3, Value.int IntKind.i64 b4, Value.int IntKind.i64 b5, Value.int IntKind.i64 b6, Value.int IntKind.i64 b7, Value.int IntKind.i64 b8, Value.int IntKind.i64 b9, Value.int IntKind.i64 b10, Value.int IntKind.i64 b11] 104) (Obj.cells #[Value.int .i64 (j : Int)] 3)); have ho9 : w9.ownsRow w0.heap.size 3 1 _ (st2.order ++ [j]).length (Ln.nats (st2.order ++ [j])) := (by rw [Ln.nats_snoc]; simpa using ho9); obtain ⟨hs10, hz10⟩ := hs8.order hg9 (st2.order ++ [j]) ho9; have hn9 := hs8.grown hg9 _ _ _ _ (Ln.made3a w7 _ _ _) (by decide); have hl9 := hs8.grown hg9 _ _ _ _ (Ln.made3b w7 _ _ _) (by decide); have hsb9 := hs8.grown hg9 _ _ _ _ hs8.sch.1 (by decide); have n0 : w9.cell? ⟨w7.heap.size, 0, none⟩ = some (Value.int IntKind.i64 n.base) := Qu.blk_cell hn9 0; have n1 : w9.cell? ⟨w7.heap.size, 1, none⟩ = some (Value.int IntKind.i64 n.first) := Qu.blk_cell hn9 1; have n2 : w9.cell? ⟨w7.heap.size, 2, none⟩ = some (Value.int IntKind.i64 n.durable) := Qu.blk_cell hn9 2; have n3 : w9.cell? ⟨w7.heap.size, 3, none⟩ = some (Value.int IntKind.i64 n.next) := Qu.blk_cell hn9 3; have n4 : w9.cell? ⟨w7.heap.size, 4, none⟩ = some (Value.int IntKind.i64 n.limit) := Qu.blk_cell hn9 4; have n5 : w9.cell? ⟨w7.heap.size, 5, none⟩ = some (Value.slice A8 l8 c8) := Qu.blk_cell hn9 5; have n6 : w9.cell? ⟨w7.heap.size, 6, none⟩ = some (Value.bool n.failed) := Qu.blk_cell hn9 6; have n7 : w9.cell? ⟨w7.heap.size, 7, none⟩ = some (Value.bool n.closed) := Qu.blk_cell hn9 7; have l0' : w9.cell? ⟨w7.heap.size + 1, 0, none⟩ = some (Value.int IntKind.u64 (l.set : Int)) := Qu.blk_cell hl9 0; have l1' : w9.cell? ⟨w7.heap.size + 1, 1, none⟩ = some (Value.int IntKind.i64 b0) := Qu.blk_cell hl9 1; have l2' : w9.cell? ⟨w7.heap.size + 1, 2, none⟩ = some (Value.int IntKind.i64 b1) := Qu.blk_cell hl9 2; have l3' : w9.cell? ⟨w7.heap.size + 1, 3, none⟩ = some (Value.int IntKind.i64 b2) := Qu.blk_cell hl9 3; have l4' : w9.cell? ⟨w7.heap.size + 1, 4, none⟩ = some (Value.int IntKind.i64 b3) := Qu.blk_cell hl9 4; have l5' : w9.cell? ⟨w7.heap.size + 1, 5, none⟩ = some (Value.int IntKind.i64 b4) := Qu.blk_cell hl9 5; have l6' : w9.cell? ⟨w7.heap.size + 1, 6, none⟩ = some (Value.int IntKind.i64 b5) := Qu.blk_cell hl9 6; have l7' : w9.cell? ⟨w7.heap.size + 1, 7, none⟩ = some (Value.int IntKind.i64 b6) := Qu.blk_cell hl9 7; have l8' : w9.cell? ⟨w7.heap.size + 1, 8, none⟩ = some (Value.int IntKind.i64 b7) := Qu.blk_cell hl9 8; have l9' : w9.cell? ⟨w7.heap.size + 1, 9, none⟩ = some (Value.int IntKind.i64 b8) := Qu.blk_cell hl9 9; have l10' : w9.cell? ⟨w7.heap.size + 1, 10, none⟩ = some (Value.int IntKind.i64 b9) := Qu.blk_cell hl9 10; have l11' : w9.cell? ⟨w7.heap.size + 1, 11, none⟩ = some (Value.int IntKind.i64 b10) := Qu.blk_cell hl9 11; have l12' : w9.cell? ⟨w7.heap.size + 1, 12, none⟩ = some (Value.int IntKind.i64 b11) := Qu.blk_cell hl9 12; have q9 := Qu.blk_cell hsb9 4; have qf9 := Qu.blk_frozen hsb9 4; have hsblt9 := Qu.blk_lt hsb9; have hnlt9 := Qu.blk_lt hn9; have hllt9 := Qu.blk_lt hl9; have hz70 := (Ln.Fz.of_below (Ln.below3 w7 (Obj.cells #[Value.int IntKind.i64 n.base, Value.int IntKind.i64 n.first, Value.int IntKind.i64 n.durable, Value.int IntKind.i64 n.next, Value.int IntKind.i64 n.limit, Value.slice A8 l8 c8, Value.bool n.failed, Value.bool n.closed] 71) (Obj.cells #[Value.int IntKind.u64 (l.set : Int), Value.int IntKind.i64 b0, Value.int IntKind.i64 b1, Value.int IntKind.i64 b2, Value.int IntKind.i64 b3, Value.int IntKind.i64 b4, Value.int IntKind.i64 b5, Value.int IntKind.i64 b6, Value.int IntKind.i64 b7, Value.int IntKind.i64 b8, Value.int IntKind.i64 b9, Value.int IntKind.i64 b10, Value.int IntKind.i64 b11] 104) (Obj.cells #[Value.int .i64 (j : Int)] 3))).trans hz10; have HS10 := Lib.hid hs10; have HZ70 := Lib.hid hz70; clear ho9 hg9 hs8 hs10 hz10 hz70 hn9 hl9 hsb9 q4)
              | (go_at_call 50; refine (HRECU.out A8 l8 c8 _ _ HS10.out (HZ70.out.recs HR7.out)).mono ?_; rintro e w11 ⟨OV3, rfl, hs11, hz11⟩; have HS11 := Lib.hid hs11; have HZ11 := Lib.hid (((Ln.Fz.of_below HB7.out).trans HZ70.out).trans hz11); clear hs11 hz11 n0 n1 n2 n3 n4 n5 n6 n7 l0' l1' l2' l3' l4' l5' l6' l7' l8' l9' l10' l11' l12' q9 qf9))
            go_ret
            refine ⟨OV3, by rw [HF.out]; rfl, ?_, (HZ6.out.trans HZ2.out).trans HZ11.out⟩
            rw [HF.out]
            exact HS11.out
          | false =>
            have hord9 : R.2.order = st2.order ++ [j] := by
              have h := Ln.finds_order ps f n l { st2 with order := st2.order ++ [j] }
              rw [hR] at h
              exact h hfb
            have hrecu2 := fun A8 l8 c8 W OV3 h hr => (hrecu A8 l8 c8 W OV3 h hr).mono (R' := fun e w' => ∃ OV', e = .returned (.bool false) ∧ Ln.Srch w0 w' sb mb bb A cp ps R.2 OV' ∧ Ln.Fz W w') (by rintro e w' ⟨OV', he, h⟩; exact ⟨OV', by rw [he, hfb], h⟩)
            rw [if_neg (by rw [hfb]; decide)] at hG
            rw [hG] at hF
            simp only [if_neg (show ¬ (false = true) from by decide)] at hF
            have HF := Lib.hid hF
            have HRECU := Lib.hid hrecu2
            have HORD9 := Lib.hid hord9
            clear hrecu hrecu2 hF hG hR hfb hord9
            go_wp2_with (first
              | (go_at_call 62; refine HPUT.out.mono ?_; rintro e w7 ⟨hb7, A8, l8, c8, rfl, hr7⟩; have hs7 := HS2.out.below hb7; have q4 : w7.cell? ⟨sb, 4, none⟩ = some OV2 := Qu.blk_cell hs7.sch.1 4; have hsblt7 := Qu.blk_lt hs7.sch.1; have HS7 := Lib.hid hs7; have HR7 := Lib.hid hr7; have HB7 := Lib.hid hb7; clear hb7 hr7 hs7)
              | (at_builtin; refine Ln.wpList_append _ rfl (.tmp 49) (.tmp 51) 22 3 rfl Try.underlying22 _ 8 Try.info3 rfl (by decide) w0.heap.size OV2 st2.order.length (Ln.nats st2.order) [Value.int .i64 (j : Int)] (.slice (some ⟨w7.heap.size + 1 + 1, 0, none⟩) 1 1) rfl rfl (Ln.base3 HS7.out _ _ _) (HS7.out.below (Ln.below3 w7 _ _ _)).own (Ln.rd_new3 w7 _ _ _) (by intro u hu; rw [List.mem_singleton.1 hu]; rfl) (by have := HOL.out; simp only [List.length_cons, List.length_nil]; omega) ?_; intro v9 w9 ho9 hg9; obtain ⟨A9, cp9, rfl⟩ := Ln.own_slice ho9; have hs8 := HS7.out.below (Ln.below3 w7 (Obj.cells #[Value.int IntKind.i64 n.base, Value.int IntKind.i64 n.first, Value.int IntKind.i64 n.durable, Value.int IntKind.i64 n.next, Value.int IntKind.i64 n.limit, Value.slice A8 l8 c8, Value.bool n.failed, Value.bool n.closed] 71) (Obj.cells #[Value.int IntKind.u64 (l.set : Int), Value.int IntKind.i64 b0, Value.int IntKind.i64 b1, Value.int IntKind.i64 b2, Value.int IntKind.i64 b3, Value.int IntKind.i64 b4, Value.int IntKind.i64 b5, Value.int IntKind.i64 b6, Value.int IntKind.i64 b7, Value.int IntKind.i64 b8, Value.int IntKind.i64 b9, Value.int IntKind.i64 b10, Value.int IntKind.i64 b11] 104) (Obj.cells #[Value.int .i64 (j : Int)] 3)); have ho9 : w9.ownsRow w0.heap.size 3 1 _ (st2.order ++ [j]).length (Ln.nats (st2.order ++ [j])) := (by rw [Ln.nats_snoc]; simpa using ho9); obtain ⟨hs10, hz10⟩ := hs8.order hg9 (st2.order ++ [j]) ho9; have hn9 := hs8.grown hg9 _ _ _ _ (Ln.made3a w7 _ _ _) (by decide); have hl9 := hs8.grown hg9 _ _ _ _ (Ln.made3b w7 _ _ _) (by decide); have hsb9 := hs8.grown hg9 _ _ _ _ hs8.sch.1 (by decide); have n0 : w9.cell? ⟨w7.heap.size, 0, none⟩ = some (Value.int IntKind.i64 n.base) := Qu.blk_cell hn9 0; have n1 : w9.cell? ⟨w7.heap.size, 1, none⟩ = some (Value.int IntKind.i64 n.first) := Qu.blk_cell hn9 1; have n2 : w9.cell? ⟨w7.heap.size, 2, none⟩ = some (Value.int IntKind.i64 n.durable) := Qu.blk_cell hn9 2; have n3 : w9.cell? ⟨w7.heap.size, 3, none⟩ = some (Value.int IntKind.i64 n.next) := Qu.blk_cell hn9 3; have n4 : w9.cell? ⟨w7.heap.size, 4, none⟩ = some (Value.int IntKind.i64 n.limit) := Qu.blk_cell hn9 4; have n5 : w9.cell? ⟨w7.heap.size, 5, none⟩ = some (Value.slice A8 l8 c8) := Qu.blk_cell hn9 5; have n6 : w9.cell? ⟨w7.heap.size, 6, none⟩ = some (Value.bool n.failed) := Qu.blk_cell hn9 6; have n7 : w9.cell? ⟨w7.heap.size, 7, none⟩ = some (Value.bool n.closed) := Qu.blk_cell hn9 7; have l0' : w9.cell? ⟨w7.heap.size + 1, 0, none⟩ = some (Value.int IntKind.u64 (l.set : Int)) := Qu.blk_cell hl9 0; have l1' : w9.cell? ⟨w7.heap.size + 1, 1, none⟩ = some (Value.int IntKind.i64 b0) := Qu.blk_cell hl9 1; have l2' : w9.cell? ⟨w7.heap.size + 1, 2, none⟩ = some (Value.int IntKind.i64 b1) := Qu.blk_cell hl9 2; have l3' : w9.cell? ⟨w7.heap.size + 1, 3, none⟩ = some (Value.int IntKind.i64 b2) := Qu.blk_cell hl9 3; have l4' : w9.cell? ⟨w7.heap.size + 1, 4, none⟩ = some (Value.int IntKind.i64 b3) := Qu.blk_cell hl9 4; have l5' : w9.cell? ⟨w7.heap.size + 1, 5, none⟩ = some (Value.int IntKind.i64 b4) := Qu.blk_cell hl9 5; have l6' : w9.cell? ⟨w7.heap.size + 1, 6, none⟩ = some (Value.int IntKind.i64 b5) := Qu.blk_cell hl9 6; have l7' : w9.cell? ⟨w7.heap.size + 1, 7, none⟩ = some (Value.int IntKind.i64 b6) := Qu.blk_cell hl9 7; have l8' : w9.cell? ⟨w7.heap.size + 1, 8, none⟩ = some (Value.int IntKind.i64 b7) := Qu.blk_cell hl9 8; have l9' : w9.cell? ⟨w7.heap.size + 1, 9, none⟩ = some (Value.int IntKind.i64 b8) := Qu.blk_cell hl9 9; have l10' : w9.cell? ⟨w7.heap.size + 1, 10, none⟩ = some (Value.int IntKind.i64 b9) := Qu.blk_cell hl9 10; have l11' : w9.cell? ⟨w7.heap.size + 1, 11, none⟩ = some (Value.int IntKind.i64 b10) := Qu.blk_cell hl9 11; have l12' : w9.cell? ⟨w7.heap.size + 1, 12, none⟩ = some (Value.int IntKind.i64 b11) := Qu.blk_cell hl9 12; have q9 := Qu.blk_cell hsb9 4; have qf9 := Qu.blk_frozen hsb9 4; have hsblt9 := Qu.blk_lt hsb9; have hnlt9 := Qu.blk_lt hn9; have hllt9 := Qu.blk_lt hl9; have hz70 := (Ln.Fz.of_below (Ln.below3 w7 (Obj.cells #[Value.int IntKind.i64 n.base, Value.int IntKind.i64 n.first, Value.int IntKind.i64 n.durable, Value.int IntKind.i64 n.next, Value.int IntKind.i64 n.limit, Value.slice A8 l8 c8, Value.bool n.failed, Value.bool n.closed] 71) (Obj.cells #[Value.int IntKind.u64 (l.set : Int), Value.int IntKind.i64 b0, Value.int IntKind.i64 b1, Value.int IntKind.i64 b2, Value.int IntKind.i64 b3, Value.int IntKind.i64 b4, Value.int IntKind.i64 b5, Value.int IntKind.i64 b6, Value.int IntKind.i64 b7, Value.int IntKind.i64 b8, Value.int IntKind.i64 b9, Value.int IntKind.i64 b10, Value.int IntKind.i64 b11] 104) (Obj.cells #[Value.int .i64 (j : Int)] 3))).trans hz10; have HS10 := Lib.hid hs10; have HZ70 := Lib.hid hz70; clear ho9 hg9 hs8 hs10 hz10 hz70 hn9 hl9 hsb9 q4)
              | (go_at_call 50; refine (HRECU.out A8 l8 c8 _ _ HS10.out (HZ70.out.recs HR7.out)).mono ?_; rintro e w11 ⟨OV3, rfl, hs11, hz11⟩; have HS11 := Lib.hid hs11; have HZ11 := Lib.hid (((Ln.Fz.of_below HB7.out).trans HZ70.out).trans hz11); clear hs11 hz11 n0 n1 n2 n3 n4 n5 n6 n7 l0' l1' l2' l3' l4' l5' l6' l7' l8' l9' l10' l11' l12' q9 qf9))
            have hlen : R.2.order.length = st2.order.length + 1 := by rw [HORD9.out]; simp
            obtain ⟨A3, cp3, hOV3⟩ := Ln.own_slice HS11.out.own
            rw [hlen] at hOV3
            subst hOV3
            have hod := HS11.out.own
            rw [hlen] at hod
            obtain ⟨hod1, hcap⟩ := Ln.own_drop hod
            have r4 : w11.cell? ⟨sb, 4, none⟩ = some (.slice A3 (st2.order.length + 1) cp3) := Qu.blk_cell HS11.out.sch.1 4
            have rf4 := Qu.blk_frozen HS11.out.sch.1 4
            have hsblt11 := Qu.blk_lt HS11.out.sch.1
            have HOD := Lib.hid hod1
            have HLEN := Lib.hid hlen
            have htr4 : R.2.tried.length + (ps.length - (j + 1)) * Ln.Tn f ≤ 100000000000000 := by have h : R.2.tried.length ≤ st2.tried.length + Ln.Tn f := htried; omega
            have HTR4 := Lib.hid htr4
            have hol : st2.order.length ≤ 20 := by have := HOL.out; omega
            have hwr : IntKind.i64.wrap (st2.order.length : Int) = st2.order.length := by rw [IntKind.wrap_i64]; omega
            have hcap2 : (st2.order.length : Int) ≤ cp3 := by omega
            have hcap3 : st2.order.length ≤ cp3 := by omega
            clear hod hod1 hlen htr4 htried
            (refine wp_region_still_tail 14 (by kernel_rfl) (by kernel_rfl) ?_; simp only [List.take_succ_cons, List.take_zero, List.drop_succ_cons, List.drop_zero]; (iterate 14 ((with_reducible refine Ln.still_want (by kernel_rfl) (fun K hK => ?_)); go_simp; refine hK _ ?_; clear hK K)); with_reducible refine wpStill_nil ?_)
            go_wp2_with fail
            go_roundg (ps.length - (j + 1))
            case measure => omega
            case rel =>
              have hgr : World.grownBy w11 w11 (Value.slice A3 (st2.order.length + 1) cp3).ownBlock := ⟨rfl, rfl, rfl, Nat.le_refl _, fun _ _ _ => rfl⟩
              obtain ⟨hs12, hz12⟩ := HS11.out.order hgr R.2.order.dropLast (OV1 := .slice A3 st2.order.length cp3) (by rw [show R.2.order.dropLast.length = st2.order.length from by rw [List.length_dropLast, HLEN.out]; rfl, ← Ln.nats_drop]; exact HOD.out)
              exact ⟨j + 1, _, _, by omega, rfl, by go_num, hs12.drew, (HZ2.out.trans (HZ11.out.trans hz12)).drew, HF.out, (by show R.2.order.dropLast.length = _; rw [List.length_dropLast, HLEN.out]; exact HORD2.out), HTR4.out⟩
      · have hje : j = ps.length := by omega
        have HF := Lib.hid hF
        clear hF hs2 hz2 hord2 htr2
        go_wp2_with fail
        go_ret
        have h0 : ps.length - j = 0 := by omega
        have hF := HF.out
        rw [h0] at hF
        refine ⟨OV2, by rw [hF]; rfl, ?_, HZ6.out.trans HZ2.out⟩
        rw [hF]
        exact HS2.out

end Go.Proofs.Ytgdeoodihhcdjaa
