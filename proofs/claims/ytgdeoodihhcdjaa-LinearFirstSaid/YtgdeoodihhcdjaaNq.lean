/- The contract of goes. -/
import Derived.Test.YtgdeoodihhcdjaaNp
import Derived.Deep.DeepCutAuto
namespace Go.Proofs.Ytgdeoodihhcdjaa
open Go.RowKit
set_option linter.unusedVariables false
set_option linter.unusedSimpArgs false


def Ln.goG (ps : List Ln.Past) (f : Nat) (m : Ln.Mod) (k : Ln.Key) (d : Int) (i : Nat) (st : Ln.St) : Ln.St :=
  match Ln.putF ps m k i with
  | none => st
  | some (m2, l) => Ln.goesF ps f m2 l (d + 1) st
theorem Ln.goG_none {ps : List Ln.Past} {f : Nat} {m : Ln.Mod} {k : Ln.Key} {d : Int} {j : Nat} {st : Ln.St} (h : Ln.putF ps m k j = none) : Ln.goG ps f m k d j st = st := by
  unfold Ln.goG
  rw [h]
theorem Ln.goG_some {ps : List Ln.Past} {f : Nat} {m n : Ln.Mod} {k l : Ln.Key} {d : Int} {j : Nat} {st : Ln.St} (h : Ln.putF ps m k j = some (n, l)) : Ln.goG ps f m k d j st = Ln.goesF ps f n l (d + 1) st := by
  unfold Ln.goG
  rw [h]
theorem Ln.goes_succ (ps : List Ln.Past) (f : Nat) (m : Ln.Mod) (k : Ln.Key) (d : Int) (st : Ln.St) : Ln.goesF ps (f + 1) m k d st =
    if k ∈ st.tried then st else Ln.walkF (Ln.goG ps f m k d) (List.range' 0 ps.length) { st with tried := k :: st.tried, most := max st.most d } := by
  rw [← List.range_eq_range']
  rfl
theorem Ln.walk_step (g : Nat → Ln.St → Ln.St) (a c : Nat) (st : Ln.St) : Ln.walkF g (List.range' a (c + 1)) st = Ln.walkF g (List.range' (a + 1) c) (g a st) := by
  rw [List.range'_succ]
  rfl
def Ln.GoesRel (w0 w1 : World) (sb mb bb : Nat) (A : Option Addr) (cp : Nat) (ps : List Ln.Past) (f : Nat) (m : Ln.Mod) (k : Ln.Key) (d : Int) (F : Ln.St) (gk : Nat) (iv : Value) (wr : World) : Prop :=
  ∃ (j : Nat) (st : Ln.St) (OV : Value), j ≤ ps.length ∧ gk = ps.length - j ∧ iv = .int .i64 j ∧ Ln.Srch w0 wr sb mb bb A cp ps st OV ∧ Ln.Fz w1 wr ∧ F = Ln.walkF (Ln.goG ps f m k d) (List.range' j (ps.length - j)) st ∧
    st.tried.length + (ps.length - j) * Ln.Tn f ≤ 100000000000000
def Ln.Went (w0 w : World) (sb mb bb : Nat) (A : Option Addr) (cp : Nat) (ps : List Ln.Past) (F : Ln.St) (e : Ending) (w' : World) : Prop :=
  ∃ OV', e = .returned (.tuple #[]) ∧ Ln.Srch w0 w' sb mb bb A cp ps F OV' ∧ Ln.Fz w w'
set_option maxHeartbeats 8000000 in
set_option maxRecDepth 100000 in
theorem goes_any (w0 : World) (sb mb bb : Nat) (A : Option Addr) (cp : Nat) (ps : List Ln.Past) (hp : Ln.Pasts w0 A cp ps) (hn : ps.length ≤ 12) : ∀ (f : Nat) (m : Ln.Mod) (k : Ln.Key) (d : Int) (st : Ln.St) (OV mv : Value) (c : Nat) (w : World),
    Ln.Srch w0 w sb mb bb A cp ps st OV → Ln.ModAt w mv m → Ln.MOk m c → c + f ≤ 20 → Ln.KOk k → ps.length < f + Ln.cnt ps k → 0 ≤ d → d ≤ c → st.tried.length + Ln.Tn f ≤ 100000000000000 →
    Calls Try.prog 54 #[.pointer (some ⟨sb, 0, none⟩), mv, .agg (Ln.kc k), .int .i64 d] w (Ln.Went w0 w sb mb bb A cp ps (Ln.goesF ps f m k d st)) := by
  intro f
  induction f with
  | zero =>
    intro m k d st OV mv c w hs hm hmo hc hok hcnt
    have := Ln.cnt_le ps k
    omega
  | succ f ih =>
    intro m k d st OV mv c w hs hm hmo hc hok hcnt hd0 hdc htr
    have hd20 : d ≤ 20 := by omega
    have HS := Lib.hid hs
    obtain ⟨rv, rfl, hrec⟩ := hm
    obtain ⟨Ar, cr, rfl⟩ := hrec.slice
    have HREC := Lib.hid hrec
    have HMO := Lib.hid hmo
    have HOK := Lib.hid hok
    have HIH := Lib.hid ih
    have HP := Lib.hid hp
    have HCNT := Lib.hid hcnt
    have HTR := Lib.hid htr
    have HC := Lib.hid hc
    obtain ⟨a0, a1, a2, a3, a4, a5, a6, a7, a8, a9, a10, a11, he, hl⟩ := Ln.kc_lit hok
    have HE := Lib.hid he
    rw [he]
    have hsb := hs.sch.1
    have hsblt := Qu.blk_lt hsb
    have hsbk := hs.sch.1
    clear hs hrec hmo ih hcnt htr hc he hl
    rw [Ln.goes_succ]
    have hseen := fun (W : World) (h : Ln.Srch w0 W sb mb bb A cp ps st OV) => seen_any sb mb _ _ _ _ _ st.tried k W h.sch.1 h.keys HOK.out (by have := HTR.out; omega)
    rw [HE.out] at hseen
    by_cases g1 : k ∈ st.tried
    · rw [if_pos g1]
      simp only [decide_eq_true g1] at hseen
      have hsf : Ln.seenF st.tried k = st.tried := by unfold Ln.seenF; rw [if_pos g1]
      rw [hsf] at hseen
      have HSEEN := Lib.hid hseen
      clear hseen hsf g1
      go_enter Try.func54, Try.ntmps54
      unfold Ln.cells
      go_wp2_with fail
      generalize hw5 : (w.alloc (Obj.cells #[Value.int IntKind.i64 m.base, Value.int IntKind.i64 m.first, Value.int IntKind.i64 m.durable, Value.int IntKind.i64 m.next, Value.int IntKind.i64 m.limit, Value.slice Ar m.recs.length cr, Value.bool m.failed, Value.bool m.closed] 71)).alloc (Obj.cells #[Value.int IntKind.u64 (k.set : Int), Value.int IntKind.i64 a0, Value.int IntKind.i64 a1, Value.int IntKind.i64 a2, Value.int IntKind.i64 a3, Value.int IntKind.i64 a4, Value.int IntKind.i64 a5, Value.int IntKind.i64 a6, Value.int IntKind.i64 a7, Value.int IntKind.i64 a8, Value.int IntKind.i64 a9, Value.int IntKind.i64 a10, Value.int IntKind.i64 a11] 104) = w5
      have hb5 : Below w.heap.size w w5 := by rw [← hw5]; exact (Ln.below_alloc _ w (Nat.le_refl _) _).alloc (by simp) _
      have hm5 : w5.heap[w.heap.size]? = some (Obj.cells #[Value.int IntKind.i64 m.base, Value.int IntKind.i64 m.first, Value.int IntKind.i64 m.durable, Value.int IntKind.i64 m.next, Value.int IntKind.i64 m.limit, Value.slice Ar m.recs.length cr, Value.bool m.failed, Value.bool m.closed] 71) := by rw [← hw5]; exact Qu.blk_alloc (heap_alloc_new w _) _
      have hk5 : w5.heap[w.heap.size + 1]? = some (Obj.cells #[Value.int IntKind.u64 (k.set : Int), Value.int IntKind.i64 a0, Value.int IntKind.i64 a1, Value.int IntKind.i64 a2, Value.int IntKind.i64 a3, Value.int IntKind.i64 a4, Value.int IntKind.i64 a5, Value.int IntKind.i64 a6, Value.int IntKind.i64 a7, Value.int IntKind.i64 a8, Value.int IntKind.i64 a9, Value.int IntKind.i64 a10, Value.int IntKind.i64 a11] 104) := by rw [← hw5]; have h := heap_alloc_new (w.alloc (Obj.cells #[Value.int IntKind.i64 m.base, Value.int IntKind.i64 m.first, Value.int IntKind.i64 m.durable, Value.int IntKind.i64 m.next, Value.int IntKind.i64 m.limit, Value.slice Ar m.recs.length cr, Value.bool m.failed, Value.bool m.closed] 71)) (Obj.cells #[Value.int IntKind.u64 (k.set : Int), Value.int IntKind.i64 a0, Value.int IntKind.i64 a1, Value.int IntKind.i64 a2, Value.int IntKind.i64 a3, Value.int IntKind.i64 a4, Value.int IntKind.i64 a5, Value.int IntKind.i64 a6, Value.int IntKind.i64 a7, Value.int IntKind.i64 a8, Value.int IntKind.i64 a9, Value.int IntKind.i64 a10, Value.int IntKind.i64 a11] 104); rwa [show (w.alloc (Obj.cells #[Value.int IntKind.i64 m.base, Value.int IntKind.i64 m.first, Value.int IntKind.i64 m.durable, Value.int IntKind.i64 m.next, Value.int IntKind.i64 m.limit, Value.slice Ar m.recs.length cr, Value.bool m.failed, Value.bool m.closed] 71)).heap.size = w.heap.size + 1 from by simp] at h
      have hs5 := HS.out.below hb5
      have hsbk5 := hs5.sch.1
      have s1 : w5.cell? ⟨sb, 1, none⟩ = some (.int .u64 (Ln.allF ps : Int)) := Qu.blk_cell hsbk5 1
      have hsblt5 := Qu.blk_lt hsbk5
      have hNlt := Qu.blk_lt hk5
      have k0 : w5.cell? ⟨w.heap.size + 1, 0, none⟩ = some (Value.int IntKind.u64 (k.set : Int)) := Qu.blk_cell hk5 0
      have k1 : w5.cell? ⟨w.heap.size + 1, 1, none⟩ = some (Value.int IntKind.i64 a0) := Qu.blk_cell hk5 1
      have k2 : w5.cell? ⟨w.heap.size + 1, 2, none⟩ = some (Value.int IntKind.i64 a1) := Qu.blk_cell hk5 2
      have k3 : w5.cell? ⟨w.heap.size + 1, 3, none⟩ = some (Value.int IntKind.i64 a2) := Qu.blk_cell hk5 3
      have k4 : w5.cell? ⟨w.heap.size + 1, 4, none⟩ = some (Value.int IntKind.i64 a3) := Qu.blk_cell hk5 4
      have k5 : w5.cell? ⟨w.heap.size + 1, 5, none⟩ = some (Value.int IntKind.i64 a4) := Qu.blk_cell hk5 5
      have k6 : w5.cell? ⟨w.heap.size + 1, 6, none⟩ = some (Value.int IntKind.i64 a5) := Qu.blk_cell hk5 6
      have k7 : w5.cell? ⟨w.heap.size + 1, 7, none⟩ = some (Value.int IntKind.i64 a6) := Qu.blk_cell hk5 7
      have k8 : w5.cell? ⟨w.heap.size + 1, 8, none⟩ = some (Value.int IntKind.i64 a7) := Qu.blk_cell hk5 8
      have k9 : w5.cell? ⟨w.heap.size + 1, 9, none⟩ = some (Value.int IntKind.i64 a8) := Qu.blk_cell hk5 9
      have k10 : w5.cell? ⟨w.heap.size + 1, 10, none⟩ = some (Value.int IntKind.i64 a9) := Qu.blk_cell hk5 10
      have k11 : w5.cell? ⟨w.heap.size + 1, 11, none⟩ = some (Value.int IntKind.i64 a10) := Qu.blk_cell hk5 11
      have k12 : w5.cell? ⟨w.heap.size + 1, 12, none⟩ = some (Value.int IntKind.i64 a11) := Qu.blk_cell hk5 12
      have HM5 := Lib.hid hm5
      have HK5 := Lib.hid hk5
      have HS5 := Lib.hid hs5
      have HB5 := Lib.hid hb5
      clear hw5 hb5 hm5 hk5 hs5 hsbk5 hsb hsbk
      go_wp2_with (go_at_call 61; refine (HSEEN.out _ HS5.out).mono ?_; rintro e w6 ⟨rfl, hk6, hf6⟩; obtain ⟨hs6, hz6⟩ := HS5.out.seen hf6 _ hk6; have HS6 := Lib.hid hs6; have HZ6 := Lib.hid hz6; clear hk6 hf6 hs6 hz6)
      go_end0
      exact ⟨OV, rfl, HS6.out, (Ln.Fz.of_below HB5.out).trans HZ6.out⟩
    rw [if_neg g1]
    simp only [decide_eq_false g1] at hseen
    have hsf : Ln.seenF st.tried k = k :: st.tried := by unfold Ln.seenF; rw [if_neg g1]
    rw [hsf] at hseen
    have HSEEN := Lib.hid hseen
    clear hseen hsf g1
    by_cases hmx : st.most < d
    · have hmx2 : max st.most d = d := by omega
      simp only [hmx2]
      have hmx3 : decide (st.most < d) = true := decide_eq_true hmx
      go_enter Try.func54, Try.ntmps54
      unfold Ln.cells
      go_wp2_with fail
      generalize hw5 : (w.alloc (Obj.cells #[Value.int IntKind.i64 m.base, Value.int IntKind.i64 m.first, Value.int IntKind.i64 m.durable, Value.int IntKind.i64 m.next, Value.int IntKind.i64 m.limit, Value.slice Ar m.recs.length cr, Value.bool m.failed, Value.bool m.closed] 71)).alloc (Obj.cells #[Value.int IntKind.u64 (k.set : Int), Value.int IntKind.i64 a0, Value.int IntKind.i64 a1, Value.int IntKind.i64 a2, Value.int IntKind.i64 a3, Value.int IntKind.i64 a4, Value.int IntKind.i64 a5, Value.int IntKind.i64 a6, Value.int IntKind.i64 a7, Value.int IntKind.i64 a8, Value.int IntKind.i64 a9, Value.int IntKind.i64 a10, Value.int IntKind.i64 a11] 104) = w5
      have hb5 : Below w.heap.size w w5 := by rw [← hw5]; exact (Ln.below_alloc _ w (Nat.le_refl _) _).alloc (by simp) _
      have hm5 : w5.heap[w.heap.size]? = some (Obj.cells #[Value.int IntKind.i64 m.base, Value.int IntKind.i64 m.first, Value.int IntKind.i64 m.durable, Value.int IntKind.i64 m.next, Value.int IntKind.i64 m.limit, Value.slice Ar m.recs.length cr, Value.bool m.failed, Value.bool m.closed] 71) := by rw [← hw5]; exact Qu.blk_alloc (heap_alloc_new w _) _
      have hk5 : w5.heap[w.heap.size + 1]? = some (Obj.cells #[Value.int IntKind.u64 (k.set : Int), Value.int IntKind.i64 a0, Value.int IntKind.i64 a1, Value.int IntKind.i64 a2, Value.int IntKind.i64 a3, Value.int IntKind.i64 a4, Value.int IntKind.i64 a5, Value.int IntKind.i64 a6, Value.int IntKind.i64 a7, Value.int IntKind.i64 a8, Value.int IntKind.i64 a9, Value.int IntKind.i64 a10, Value.int IntKind.i64 a11] 104) := by rw [← hw5]; have h := heap_alloc_new (w.alloc (Obj.cells #[Value.int IntKind.i64 m.base, Value.int IntKind.i64 m.first, Value.int IntKind.i64 m.durable, Value.int IntKind.i64 m.next, Value.int IntKind.i64 m.limit, Value.slice Ar m.recs.length cr, Value.bool m.failed, Value.bool m.closed] 71)) (Obj.cells #[Value.int IntKind.u64 (k.set : Int), Value.int IntKind.i64 a0, Value.int IntKind.i64 a1, Value.int IntKind.i64 a2, Value.int IntKind.i64 a3, Value.int IntKind.i64 a4, Value.int IntKind.i64 a5, Value.int IntKind.i64 a6, Value.int IntKind.i64 a7, Value.int IntKind.i64 a8, Value.int IntKind.i64 a9, Value.int IntKind.i64 a10, Value.int IntKind.i64 a11] 104); rwa [show (w.alloc (Obj.cells #[Value.int IntKind.i64 m.base, Value.int IntKind.i64 m.first, Value.int IntKind.i64 m.durable, Value.int IntKind.i64 m.next, Value.int IntKind.i64 m.limit, Value.slice Ar m.recs.length cr, Value.bool m.failed, Value.bool m.closed] 71)).heap.size = w.heap.size + 1 from by simp] at h
      have hs5 := HS.out.below hb5
      have hsbk5 := hs5.sch.1
      have s1 : w5.cell? ⟨sb, 1, none⟩ = some (.int .u64 (Ln.allF ps : Int)) := Qu.blk_cell hsbk5 1
      have hsblt5 := Qu.blk_lt hsbk5
      have hNlt := Qu.blk_lt hk5
      have k0 : w5.cell? ⟨w.heap.size + 1, 0, none⟩ = some (Value.int IntKind.u64 (k.set : Int)) := Qu.blk_cell hk5 0
      have k1 : w5.cell? ⟨w.heap.size + 1, 1, none⟩ = some (Value.int IntKind.i64 a0) := Qu.blk_cell hk5 1
      have k2 : w5.cell? ⟨w.heap.size + 1, 2, none⟩ = some (Value.int IntKind.i64 a1) := Qu.blk_cell hk5 2
      have k3 : w5.cell? ⟨w.heap.size + 1, 3, none⟩ = some (Value.int IntKind.i64 a2) := Qu.blk_cell hk5 3
      have k4 : w5.cell? ⟨w.heap.size + 1, 4, none⟩ = some (Value.int IntKind.i64 a3) := Qu.blk_cell hk5 4
      have k5 : w5.cell? ⟨w.heap.size + 1, 5, none⟩ = some (Value.int IntKind.i64 a4) := Qu.blk_cell hk5 5
      have k6 : w5.cell? ⟨w.heap.size + 1, 6, none⟩ = some (Value.int IntKind.i64 a5) := Qu.blk_cell hk5 6
      have k7 : w5.cell? ⟨w.heap.size + 1, 7, none⟩ = some (Value.int IntKind.i64 a6) := Qu.blk_cell hk5 7
      have k8 : w5.cell? ⟨w.heap.size + 1, 8, none⟩ = some (Value.int IntKind.i64 a7) := Qu.blk_cell hk5 8
      have k9 : w5.cell? ⟨w.heap.size + 1, 9, none⟩ = some (Value.int IntKind.i64 a8) := Qu.blk_cell hk5 9
      have k10 : w5.cell? ⟨w.heap.size + 1, 10, none⟩ = some (Value.int IntKind.i64 a9) := Qu.blk_cell hk5 10
      have k11 : w5.cell? ⟨w.heap.size + 1, 11, none⟩ = some (Value.int IntKind.i64 a10) := Qu.blk_cell hk5 11
      have k12 : w5.cell? ⟨w.heap.size + 1, 12, none⟩ = some (Value.int IntKind.i64 a11) := Qu.blk_cell hk5 12
      have HM5 := Lib.hid hm5
      have HK5 := Lib.hid hk5
      have HS5 := Lib.hid hs5
      have HB5 := Lib.hid hb5
      clear hw5 hb5 hm5 hk5 hs5 hsbk5 hsb hsbk
      go_wp2_with (go_at_call 61; refine (HSEEN.out _ HS5.out).mono ?_; rintro e w6 ⟨rfl, hk6, hf6⟩; obtain ⟨hs6, hz6⟩ := HS5.out.seen hf6 _ hk6; have q5 : w6.cell? ⟨sb, 5, none⟩ = some (.int .i64 st.most) := Qu.blk_cell hs6.sch.1 5; have qf5 := Qu.blk_frozen hs6.sch.1 5; have q0 : w6.cell? ⟨sb, 0, none⟩ = some (.slice A ps.length cp) := Qu.blk_cell hs6.sch.1 0; have hsblt6 := Qu.blk_lt hs6.sch.1; have HS6 := Lib.hid hs6; have HZ56 := Lib.hid hz6; clear hk6 hf6 hs6 hz6)
      obtain ⟨hs7, hz7⟩ := HS6.out.far d
      generalize w6.setCell ⟨sb, 5, none⟩ (.int .i64 d) = w7 at hs7 hz7 ⊢
      have HS7 := Lib.hid hs7
      have HZ57 := Lib.hid (HZ56.out.trans hz7)
      have HZ7 := Lib.hid ((Ln.Fz.of_below HB5.out).trans (HZ56.out.trans hz7))
      clear hs7 hz7 q5 qf5 q0 hmx2 k0 k1 k2 k3 k4 k5 k6 k7 k8 k9 k10 k11 k12 s1 hsblt5 hNlt
      go_loopg [29] ps.length (fun gk iv wr => Ln.GoesRel w0 w7 sb mb bb A cp ps f m k d (Ln.walkF (Ln.goG ps f m k d) (List.range' 0 ps.length) { tried := k :: st.tried, order := st.order, most := d }) gk iv wr)
      case atStart =>
        refine ⟨0, _, OV, by omega, by omega, rfl, HS7.out, Ln.Fz.refl _, rfl, ?_⟩
        have h := HTR.out
        simp only [Ln.Tn] at h
        have h2 : (ps.length - 0) * Ln.Tn f ≤ 12 * Ln.Tn f := Nat.mul_le_mul_right _ (by omega)
        simp only [List.length_cons]
        omega
      case round =>
        obtain ⟨j, st2, OV2, hj, rfl, rfl, hs2, hz2, hF, htr2⟩ := hrel
        have HS2 := Lib.hid hs2
        have HZ2 := Lib.hid hz2
        have HTR2 := Lib.hid htr2
        by_cases hlt : j < ps.length
        · have ej : ps.length - j = (ps.length - (j + 1)) + 1 := by omega
          rw [ej, Ln.walk_step] at hF
          have hsb2 := hs2.sch.1
          have hsblt2 := Qu.blk_lt hsb2
          have hm2 := hz2.kp _ _ _ _ (HZ57.out.kp _ _ _ _ HM5.out (by decide) (by decide)) (by decide) (by decide)
          have hk2 := hz2.kp _ _ _ _ (HZ57.out.kp _ _ _ _ HK5.out (by decide) (by decide)) (by decide) (by decide)
          have hmlt := Qu.blk_lt hm2
          have hklt := Qu.blk_lt hk2
          have hrec2 := hz2.recs (HZ7.out.recs HREC.out)
          have hput := put_any (.agg #[Value.int IntKind.i64 m.base, Value.int IntKind.i64 m.first, Value.int IntKind.i64 m.durable, Value.int IntKind.i64 m.next, Value.int IntKind.i64 m.limit, Value.slice Ar m.recs.length cr, Value.bool m.failed, Value.bool m.closed]) m k j sb mb bb A cp ps OV2 st2.most wr c hs2.sch ⟨_, rfl, hrec2⟩ HMO.out (by have := HC.out; omega) HOK.out (HP.out.keep hs2.low) hlt hn
          rw [HE.out] at hput
          have m0 : wr.cell? ⟨w.heap.size, 0, none⟩ = some (Value.int IntKind.i64 m.base) := Qu.blk_cell hm2 0
          have m1 : wr.cell? ⟨w.heap.size, 1, none⟩ = some (Value.int IntKind.i64 m.first) := Qu.blk_cell hm2 1
          have m2 : wr.cell? ⟨w.heap.size, 2, none⟩ = some (Value.int IntKind.i64 m.durable) := Qu.blk_cell hm2 2
          have m3 : wr.cell? ⟨w.heap.size, 3, none⟩ = some (Value.int IntKind.i64 m.next) := Qu.blk_cell hm2 3
          have m4 : wr.cell? ⟨w.heap.size, 4, none⟩ = some (Value.int IntKind.i64 m.limit) := Qu.blk_cell hm2 4
          have m5 : wr.cell? ⟨w.heap.size, 5, none⟩ = some (Value.slice Ar m.recs.length cr) := Qu.blk_cell hm2 5
          have m6 : wr.cell? ⟨w.heap.size, 6, none⟩ = some (Value.bool m.failed) := Qu.blk_cell hm2 6
          have m7 : wr.cell? ⟨w.heap.size, 7, none⟩ = some (Value.bool m.closed) := Qu.blk_cell hm2 7
          have k0 : wr.cell? ⟨w.heap.size + 1, 0, none⟩ = some (Value.int IntKind.u64 (k.set : Int)) := Qu.blk_cell hk2 0
          have k1 : wr.cell? ⟨w.heap.size + 1, 1, none⟩ = some (Value.int IntKind.i64 a0) := Qu.blk_cell hk2 1
          have k2 : wr.cell? ⟨w.heap.size + 1, 2, none⟩ = some (Value.int IntKind.i64 a1) := Qu.blk_cell hk2 2
          have k3 : wr.cell? ⟨w.heap.size + 1, 3, none⟩ = some (Value.int IntKind.i64 a2) := Qu.blk_cell hk2 3
          have k4 : wr.cell? ⟨w.heap.size + 1, 4, none⟩ = some (Value.int IntKind.i64 a3) := Qu.blk_cell hk2 4
          have k5 : wr.cell? ⟨w.heap.size + 1, 5, none⟩ = some (Value.int IntKind.i64 a4) := Qu.blk_cell hk2 5
          have k6 : wr.cell? ⟨w.heap.size + 1, 6, none⟩ = some (Value.int IntKind.i64 a5) := Qu.blk_cell hk2 6
          have k7 : wr.cell? ⟨w.heap.size + 1, 7, none⟩ = some (Value.int IntKind.i64 a6) := Qu.blk_cell hk2 7
          have k8 : wr.cell? ⟨w.heap.size + 1, 8, none⟩ = some (Value.int IntKind.i64 a7) := Qu.blk_cell hk2 8
          have k9 : wr.cell? ⟨w.heap.size + 1, 9, none⟩ = some (Value.int IntKind.i64 a8) := Qu.blk_cell hk2 9
          have k10 : wr.cell? ⟨w.heap.size + 1, 10, none⟩ = some (Value.int IntKind.i64 a9) := Qu.blk_cell hk2 10
          have k11 : wr.cell? ⟨w.heap.size + 1, 11, none⟩ = some (Value.int IntKind.i64 a10) := Qu.blk_cell hk2 11
          have k12 : wr.cell? ⟨w.heap.size + 1, 12, none⟩ = some (Value.int IntKind.i64 a11) := Qu.blk_cell hk2 12
          have htr3 : st2.tried.length + (Ln.Tn f + (ps.length - (j + 1)) * Ln.Tn f) ≤ 100000000000000 := by
            have h := HTR2.out
            have e2 : (ps.length - (j + 1) + 1) * Ln.Tn f = (ps.length - (j + 1)) * Ln.Tn f + Ln.Tn f := Nat.succ_mul _ _
            rw [ej] at h
            omega
          clear hs2 hz2 htr2 hm2 hk2 hrec2 ej
          cases hpf : Ln.putF ps m k j with
          | none =>
            rw [hpf] at hput
            rw [Ln.goG_none hpf] at hF
            have HF := Lib.hid hF
            have HPUT := Lib.hid hput
            clear hput hF hpf hsb2
            go_wp2_with (go_at_call 62; refine HPUT.out.mono ?_; rintro e w8 ⟨hb8, n, A8, l8, c8, l, hokl, rfl⟩; obtain ⟨b0, b1, b2, b3, b4, b5, b6, b7, b8, b9, b10, b11, hel, _⟩ := Ln.kc_lit hokl; have HEL := Lib.hid hel; rw [hel]; have HB8 := Lib.hid hb8; clear hb8 hokl hel)
            go_roundg (ps.length - (j + 1))
            case measure => omega
            case rel =>
              have hbb := HB8.out.trans ((Ln.below2 w8 (Obj.cells #[Value.int IntKind.i64 n.base, Value.int IntKind.i64 n.first, Value.int IntKind.i64 n.durable, Value.int IntKind.i64 n.next, Value.int IntKind.i64 n.limit, Value.slice A8 l8 c8, Value.bool n.failed, Value.bool n.closed] 71) (Obj.cells #[Value.int IntKind.u64 (l.set : Int), Value.int IntKind.i64 b0, Value.int IntKind.i64 b1, Value.int IntKind.i64 b2, Value.int IntKind.i64 b3, Value.int IntKind.i64 b4, Value.int IntKind.i64 b5, Value.int IntKind.i64 b6, Value.int IntKind.i64 b7, Value.int IntKind.i64 b8, Value.int IntKind.i64 b9, Value.int IntKind.i64 b10, Value.int IntKind.i64 b11] 104)).mono HB8.out.size)
              exact ⟨j + 1, st2, OV2, by omega, rfl, by go_num, HS2.out.below hbb, HZ2.out.trans (Ln.Fz.of_below hbb), HF.out, by omega⟩
          | some nl =>
            obtain ⟨n, l⟩ := nl
            obtain ⟨hmo2, hokl⟩ := Ln.put_ok hpf HMO.out HOK.out (by omega)
            have hcnt2 := Ln.cnt_put hlt hpf
            obtain ⟨b0, b1, b2, b3, b4, b5, b6, b7, b8, b9, b10, b11, hel, _⟩ := Ln.kc_lit hokl
            rw [hpf] at hput
            have hput2 := hput.mono (R' := fun e w' => Below wr.heap.size wr w' ∧ ∃ (A8 : Option Addr) (l8 c8 : Nat), e = .returned (.tuple #[.agg #[Value.int IntKind.i64 n.base, Value.int IntKind.i64 n.first, Value.int IntKind.i64 n.durable, Value.int IntKind.i64 n.next, Value.int IntKind.i64 n.limit, Value.slice A8 l8 c8, Value.bool n.failed, Value.bool n.closed], .agg #[Value.int IntKind.u64 (l.set : Int), Value.int IntKind.i64 b0, Value.int IntKind.i64 b1, Value.int IntKind.i64 b2, Value.int IntKind.i64 b3, Value.int IntKind.i64 b4, Value.int IntKind.i64 b5, Value.int IntKind.i64 b6, Value.int IntKind.i64 b7, Value.int IntKind.i64 b8, Value.int IntKind.i64 b9, Value.int IntKind.i64 b10, Value.int IntKind.i64 b11], .bool true]) ∧ Ln.Recs 0 w' (.slice A8 l8 c8) n.recs) (by rintro e w' ⟨h1, A8, l8, c8, he, h2⟩; exact ⟨h1, A8, l8, c8, by rw [he, hel], h2⟩)
            have hG := Ln.goG_some (f := f) (d := d) (st := st2) hpf
            rw [hG] at hF
            have hrecu := fun (A8 : Option Addr) (l8 c8 : Nat) (W : World) (h : Ln.Srch w0 W sb mb bb A cp ps st2 OV2) (hr : Ln.Recs 0 W (.slice A8 l8 c8) n.recs) => HIH.out n l (d + 1) st2 OV2 (.agg #[Value.int IntKind.i64 n.base, Value.int IntKind.i64 n.first, Value.int IntKind.i64 n.durable, Value.int IntKind.i64 n.next, Value.int IntKind.i64 n.limit, Value.slice A8 l8 c8, Value.bool n.failed, Value.bool n.closed]) (c + 1) W h ⟨_, rfl, hr⟩ hmo2 (by have := HC.out; omega) hokl (by have := HCNT.out; omega) (by omega) (by have := HC.out; omega) (by omega)
            simp only [hel] at hrecu
            have HEL := Lib.hid hel
            have htried := Ln.goes_tried ps hn f n l (d + 1) st2
            obtain ⟨R, hR⟩ : ∃ R, Ln.goesF ps f n l (d + 1) st2 = R := ⟨_, rfl⟩
            rw [hR] at hF htried
            simp only [hR] at hrecu
            have htr4 : R.tried.length + (ps.length - (j + 1)) * Ln.Tn f ≤ 100000000000000 := by omega
            have HTR4 := Lib.hid htr4
            have HF := Lib.hid hF
            have HRECU := Lib.hid hrecu
            have HPUT := Lib.hid hput2
            clear hput hput2 hmo2 hokl hcnt2 hpf hel hsb2 hrecu hF hG hR htried htr4
            go_wp2_with (first
              | (go_at_call 62; refine HPUT.out.mono ?_; rintro e w8 ⟨hb8, A8, l8, c8, rfl, hr8⟩; have HR8 := Lib.hid hr8; have HB8 := Lib.hid hb8; clear hb8 hr8)
              | (go_at_call 54; refine (HRECU.out A8 l8 c8 _ ((HS2.out.below HB8.out).below (Ln.below2 w8 _ _)) ((Ln.Fz.of_below (Ln.below2 w8 _ _)).recs HR8.out)).mono ?_; rintro e w11 ⟨OV3, rfl, hs11, hz11⟩; have HS11 := Lib.hid hs11; have HZ11 := Lib.hid (((Ln.Fz.of_below HB8.out).trans (Ln.Fz.of_below (Ln.below2 w8 _ _))).trans hz11); clear hs11 hz11))
            go_roundg (ps.length - (j + 1))
            case measure => omega
            case rel => exact ⟨j + 1, R, OV3, by omega, rfl, by go_num, HS11.out, HZ2.out.trans HZ11.out, HF.out, HTR4.out⟩
        · have hje : j = ps.length := by omega
          have HF := Lib.hid hF
          clear hF hs2 hz2 htr2
          go_wp2_with fail
          go_end0
          have h0 : ps.length - j = 0 := by omega
          have hF := HF.out
          rw [h0] at hF
          refine ⟨OV2, rfl, ?_, HZ7.out.trans HZ2.out⟩
          rw [hF]
          exact HS2.out
    · have hmx2 : max st.most d = st.most := by omega
      simp only [hmx2]
      have hmx3 : decide (st.most < d) = false := decide_eq_false hmx
      have hmx4 : d ≤ st.most := by omega
      go_enter Try.func54, Try.ntmps54
      unfold Ln.cells
      go_wp2_with fail
      generalize hw5 : (w.alloc (Obj.cells #[Value.int IntKind.i64 m.base, Value.int IntKind.i64 m.first, Value.int IntKind.i64 m.durable, Value.int IntKind.i64 m.next, Value.int IntKind.i64 m.limit, Value.slice Ar m.recs.length cr, Value.bool m.failed, Value.bool m.closed] 71)).alloc (Obj.cells #[Value.int IntKind.u64 (k.set : Int), Value.int IntKind.i64 a0, Value.int IntKind.i64 a1, Value.int IntKind.i64 a2, Value.int IntKind.i64 a3, Value.int IntKind.i64 a4, Value.int IntKind.i64 a5, Value.int IntKind.i64 a6, Value.int IntKind.i64 a7, Value.int IntKind.i64 a8, Value.int IntKind.i64 a9, Value.int IntKind.i64 a10, Value.int IntKind.i64 a11] 104) = w5
      have hb5 : Below w.heap.size w w5 := by rw [← hw5]; exact (Ln.below_alloc _ w (Nat.le_refl _) _).alloc (by simp) _
      have hm5 : w5.heap[w.heap.size]? = some (Obj.cells #[Value.int IntKind.i64 m.base, Value.int IntKind.i64 m.first, Value.int IntKind.i64 m.durable, Value.int IntKind.i64 m.next, Value.int IntKind.i64 m.limit, Value.slice Ar m.recs.length cr, Value.bool m.failed, Value.bool m.closed] 71) := by rw [← hw5]; exact Qu.blk_alloc (heap_alloc_new w _) _
      have hk5 : w5.heap[w.heap.size + 1]? = some (Obj.cells #[Value.int IntKind.u64 (k.set : Int), Value.int IntKind.i64 a0, Value.int IntKind.i64 a1, Value.int IntKind.i64 a2, Value.int IntKind.i64 a3, Value.int IntKind.i64 a4, Value.int IntKind.i64 a5, Value.int IntKind.i64 a6, Value.int IntKind.i64 a7, Value.int IntKind.i64 a8, Value.int IntKind.i64 a9, Value.int IntKind.i64 a10, Value.int IntKind.i64 a11] 104) := by rw [← hw5]; have h := heap_alloc_new (w.alloc (Obj.cells #[Value.int IntKind.i64 m.base, Value.int IntKind.i64 m.first, Value.int IntKind.i64 m.durable, Value.int IntKind.i64 m.next, Value.int IntKind.i64 m.limit, Value.slice Ar m.recs.length cr, Value.bool m.failed, Value.bool m.closed] 71)) (Obj.cells #[Value.int IntKind.u64 (k.set : Int), Value.int IntKind.i64 a0, Value.int IntKind.i64 a1, Value.int IntKind.i64 a2, Value.int IntKind.i64 a3, Value.int IntKind.i64 a4, Value.int IntKind.i64 a5, Value.int IntKind.i64 a6, Value.int IntKind.i64 a7, Value.int IntKind.i64 a8, Value.int IntKind.i64 a9, Value.int IntKind.i64 a10, Value.int IntKind.i64 a11] 104); rwa [show (w.alloc (Obj.cells #[Value.int IntKind.i64 m.base, Value.int IntKind.i64 m.first, Value.int IntKind.i64 m.durable, Value.int IntKind.i64 m.next, Value.int IntKind.i64 m.limit, Value.slice Ar m.recs.length cr, Value.bool m.failed, Value.bool m.closed] 71)).heap.size = w.heap.size + 1 from by simp] at h
      have hs5 := HS.out.below hb5
      have hsbk5 := hs5.sch.1
      have s1 : w5.cell? ⟨sb, 1, none⟩ = some (.int .u64 (Ln.allF ps : Int)) := Qu.blk_cell hsbk5 1
      have hsblt5 := Qu.blk_lt hsbk5
      have hNlt := Qu.blk_lt hk5
      have k0 : w5.cell? ⟨w.heap.size + 1, 0, none⟩ = some (Value.int IntKind.u64 (k.set : Int)) := Qu.blk_cell hk5 0
      have k1 : w5.cell? ⟨w.heap.size + 1, 1, none⟩ = some (Value.int IntKind.i64 a0) := Qu.blk_cell hk5 1
      have k2 : w5.cell? ⟨w.heap.size + 1, 2, none⟩ = some (Value.int IntKind.i64 a1) := Qu.blk_cell hk5 2
      have k3 : w5.cell? ⟨w.heap.size + 1, 3, none⟩ = some (Value.int IntKind.i64 a2) := Qu.blk_cell hk5 3
      have k4 : w5.cell? ⟨w.heap.size + 1, 4, none⟩ = some (Value.int IntKind.i64 a3) := Qu.blk_cell hk5 4
      have k5 : w5.cell? ⟨w.heap.size + 1, 5, none⟩ = some (Value.int IntKind.i64 a4) := Qu.blk_cell hk5 5
      have k6 : w5.cell? ⟨w.heap.size + 1, 6, none⟩ = some (Value.int IntKind.i64 a5) := Qu.blk_cell hk5 6
      have k7 : w5.cell? ⟨w.heap.size + 1, 7, none⟩ = some (Value.int IntKind.i64 a6) := Qu.blk_cell hk5 7
      have k8 : w5.cell? ⟨w.heap.size + 1, 8, none⟩ = some (Value.int IntKind.i64 a7) := Qu.blk_cell hk5 8
      have k9 : w5.cell? ⟨w.heap.size + 1, 9, none⟩ = some (Value.int IntKind.i64 a8) := Qu.blk_cell hk5 9
      have k10 : w5.cell? ⟨w.heap.size + 1, 10, none⟩ = some (Value.int IntKind.i64 a9) := Qu.blk_cell hk5 10
      have k11 : w5.cell? ⟨w.heap.size + 1, 11, none⟩ = some (Value.int IntKind.i64 a10) := Qu.blk_cell hk5 11
      have k12 : w5.cell? ⟨w.heap.size + 1, 12, none⟩ = some (Value.int IntKind.i64 a11) := Qu.blk_cell hk5 12
      have HM5 := Lib.hid hm5
      have HK5 := Lib.hid hk5
      have HS5 := Lib.hid hs5
      have HB5 := Lib.hid hb5
      clear hw5 hb5 hm5 hk5 hs5 hsbk5 hsb hsbk
      go_wp2_with (go_at_call 61; refine (HSEEN.out _ HS5.out).mono ?_; rintro e w6 ⟨rfl, hk6, hf6⟩; obtain ⟨hs6, hz6⟩ := HS5.out.seen hf6 _ hk6; have q5 : w6.cell? ⟨sb, 5, none⟩ = some (.int .i64 st.most) := Qu.blk_cell hs6.sch.1 5; have qf5 := Qu.blk_frozen hs6.sch.1 5; have q0 : w6.cell? ⟨sb, 0, none⟩ = some (.slice A ps.length cp) := Qu.blk_cell hs6.sch.1 0; have hsblt6 := Qu.blk_lt hs6.sch.1; have HS6 := Lib.hid hs6; have HZ56 := Lib.hid hz6; clear hk6 hf6 hs6 hz6)
      obtain ⟨hs7, hz7⟩ := HS6.out.far st.most
      generalize w6.setCell ⟨sb, 5, none⟩ (.int .i64 st.most) = w7 at hs7 hz7 ⊢
      have HS7 := Lib.hid hs7
      have HZ57 := Lib.hid (HZ56.out.trans hz7)
      have HZ7 := Lib.hid ((Ln.Fz.of_below HB5.out).trans (HZ56.out.trans hz7))
      clear hs7 hz7 q5 qf5 q0 hmx2 k0 k1 k2 k3 k4 k5 k6 k7 k8 k9 k10 k11 k12 s1 hsblt5 hNlt
      go_loopg [29] ps.length (fun gk iv wr => Ln.GoesRel w0 w7 sb mb bb A cp ps f m k d (Ln.walkF (Ln.goG ps f m k d) (List.range' 0 ps.length) { tried := k :: st.tried, order := st.order, most := st.most }) gk iv wr)
      case atStart =>
        refine ⟨0, _, OV, by omega, by omega, rfl, HS7.out, Ln.Fz.refl _, rfl, ?_⟩
        have h := HTR.out
        simp only [Ln.Tn] at h
        have h2 : (ps.length - 0) * Ln.Tn f ≤ 12 * Ln.Tn f := Nat.mul_le_mul_right _ (by omega)
        simp only [List.length_cons]
        omega
      case round =>
        obtain ⟨j, st2, OV2, hj, rfl, rfl, hs2, hz2, hF, htr2⟩ := hrel
        have HS2 := Lib.hid hs2
        have HZ2 := Lib.hid hz2
        have HTR2 := Lib.hid htr2
        by_cases hlt : j < ps.length
        · have ej : ps.length - j = (ps.length - (j + 1)) + 1 := by omega
          rw [ej, Ln.walk_step] at hF
          have hsb2 := hs2.sch.1
          have hsblt2 := Qu.blk_lt hsb2
          have hm2 := hz2.kp _ _ _ _ (HZ57.out.kp _ _ _ _ HM5.out (by decide) (by decide)) (by decide) (by decide)
          have hk2 := hz2.kp _ _ _ _ (HZ57.out.kp _ _ _ _ HK5.out (by decide) (by decide)) (by decide) (by decide)
          have hmlt := Qu.blk_lt hm2
          have hklt := Qu.blk_lt hk2
          have hrec2 := hz2.recs (HZ7.out.recs HREC.out)
          have hput := put_any (.agg #[Value.int IntKind.i64 m.base, Value.int IntKind.i64 m.first, Value.int IntKind.i64 m.durable, Value.int IntKind.i64 m.next, Value.int IntKind.i64 m.limit, Value.slice Ar m.recs.length cr, Value.bool m.failed, Value.bool m.closed]) m k j sb mb bb A cp ps OV2 st2.most wr c hs2.sch ⟨_, rfl, hrec2⟩ HMO.out (by have := HC.out; omega) HOK.out (HP.out.keep hs2.low) hlt hn
          rw [HE.out] at hput
          have m0 : wr.cell? ⟨w.heap.size, 0, none⟩ = some (Value.int IntKind.i64 m.base) := Qu.blk_cell hm2 0
          have m1 : wr.cell? ⟨w.heap.size, 1, none⟩ = some (Value.int IntKind.i64 m.first) := Qu.blk_cell hm2 1
          have m2 : wr.cell? ⟨w.heap.size, 2, none⟩ = some (Value.int IntKind.i64 m.durable) := Qu.blk_cell hm2 2
          have m3 : wr.cell? ⟨w.heap.size, 3, none⟩ = some (Value.int IntKind.i64 m.next) := Qu.blk_cell hm2 3
          have m4 : wr.cell? ⟨w.heap.size, 4, none⟩ = some (Value.int IntKind.i64 m.limit) := Qu.blk_cell hm2 4
          have m5 : wr.cell? ⟨w.heap.size, 5, none⟩ = some (Value.slice Ar m.recs.length cr) := Qu.blk_cell hm2 5
          have m6 : wr.cell? ⟨w.heap.size, 6, none⟩ = some (Value.bool m.failed) := Qu.blk_cell hm2 6
          have m7 : wr.cell? ⟨w.heap.size, 7, none⟩ = some (Value.bool m.closed) := Qu.blk_cell hm2 7
          have k0 : wr.cell? ⟨w.heap.size + 1, 0, none⟩ = some (Value.int IntKind.u64 (k.set : Int)) := Qu.blk_cell hk2 0
          have k1 : wr.cell? ⟨w.heap.size + 1, 1, none⟩ = some (Value.int IntKind.i64 a0) := Qu.blk_cell hk2 1
          have k2 : wr.cell? ⟨w.heap.size + 1, 2, none⟩ = some (Value.int IntKind.i64 a1) := Qu.blk_cell hk2 2
          have k3 : wr.cell? ⟨w.heap.size + 1, 3, none⟩ = some (Value.int IntKind.i64 a2) := Qu.blk_cell hk2 3
          have k4 : wr.cell? ⟨w.heap.size + 1, 4, none⟩ = some (Value.int IntKind.i64 a3) := Qu.blk_cell hk2 4
          have k5 : wr.cell? ⟨w.heap.size + 1, 5, none⟩ = some (Value.int IntKind.i64 a4) := Qu.blk_cell hk2 5
          have k6 : wr.cell? ⟨w.heap.size + 1, 6, none⟩ = some (Value.int IntKind.i64 a5) := Qu.blk_cell hk2 6
          have k7 : wr.cell? ⟨w.heap.size + 1, 7, none⟩ = some (Value.int IntKind.i64 a6) := Qu.blk_cell hk2 7
          have k8 : wr.cell? ⟨w.heap.size + 1, 8, none⟩ = some (Value.int IntKind.i64 a7) := Qu.blk_cell hk2 8
          have k9 : wr.cell? ⟨w.heap.size + 1, 9, none⟩ = some (Value.int IntKind.i64 a8) := Qu.blk_cell hk2 9
          have k10 : wr.cell? ⟨w.heap.size + 1, 10, none⟩ = some (Value.int IntKind.i64 a9) := Qu.blk_cell hk2 10
          have k11 : wr.cell? ⟨w.heap.size + 1, 11, none⟩ = some (Value.int IntKind.i64 a10) := Qu.blk_cell hk2 11
          have k12 : wr.cell? ⟨w.heap.size + 1, 12, none⟩ = some (Value.int IntKind.i64 a11) := Qu.blk_cell hk2 12
          have htr3 : st2.tried.length + (Ln.Tn f + (ps.length - (j + 1)) * Ln.Tn f) ≤ 100000000000000 := by
            have h := HTR2.out
            have e2 : (ps.length - (j + 1) + 1) * Ln.Tn f = (ps.length - (j + 1)) * Ln.Tn f + Ln.Tn f := Nat.succ_mul _ _
            rw [ej] at h
            omega
          clear hs2 hz2 htr2 hm2 hk2 hrec2 ej
          cases hpf : Ln.putF ps m k j with
          | none =>
            rw [hpf] at hput
            rw [Ln.goG_none hpf] at hF
            have HF := Lib.hid hF
            have HPUT := Lib.hid hput
            clear hput hF hpf hsb2
            go_wp2_with (go_at_call 62; refine HPUT.out.mono ?_; rintro e w8 ⟨hb8, n, A8, l8, c8, l, hokl, rfl⟩; obtain ⟨b0, b1, b2, b3, b4, b5, b6, b7, b8, b9, b10, b11, hel, _⟩ := Ln.kc_lit hokl; have HEL := Lib.hid hel; rw [hel]; have HB8 := Lib.hid hb8; clear hb8 hokl hel)
            go_roundg (ps.length - (j + 1))
            case measure => omega
            case rel =>
              have hbb := HB8.out.trans ((Ln.below2 w8 (Obj.cells #[Value.int IntKind.i64 n.base, Value.int IntKind.i64 n.first, Value.int IntKind.i64 n.durable, Value.int IntKind.i64 n.next, Value.int IntKind.i64 n.limit, Value.slice A8 l8 c8, Value.bool n.failed, Value.bool n.closed] 71) (Obj.cells #[Value.int IntKind.u64 (l.set : Int), Value.int IntKind.i64 b0, Value.int IntKind.i64 b1, Value.int IntKind.i64 b2, Value.int IntKind.i64 b3, Value.int IntKind.i64 b4, Value.int IntKind.i64 b5, Value.int IntKind.i64 b6, Value.int IntKind.i64 b7, Value.int IntKind.i64 b8, Value.int IntKind.i64 b9, Value.int IntKind.i64 b10, Value.int IntKind.i64 b11] 104)).mono HB8.out.size)
              exact ⟨j + 1, st2, OV2, by omega, rfl, by go_num, HS2.out.below hbb, HZ2.out.trans (Ln.Fz.of_below hbb), HF.out, by omega⟩
          | some nl =>
            obtain ⟨n, l⟩ := nl
            obtain ⟨hmo2, hokl⟩ := Ln.put_ok hpf HMO.out HOK.out (by omega)
            have hcnt2 := Ln.cnt_put hlt hpf
            obtain ⟨b0, b1, b2, b3, b4, b5, b6, b7, b8, b9, b10, b11, hel, _⟩ := Ln.kc_lit hokl
            rw [hpf] at hput
            have hput2 := hput.mono (R' := fun e w' => Below wr.heap.size wr w' ∧ ∃ (A8 : Option Addr) (l8 c8 : Nat), e = .returned (.tuple #[.agg #[Value.int IntKind.i64 n.base, Value.int IntKind.i64 n.first, Value.int IntKind.i64 n.durable, Value.int IntKind.i64 n.next, Value.int IntKind.i64 n.limit, Value.slice A8 l8 c8, Value.bool n.failed, Value.bool n.closed], .agg #[Value.int IntKind.u64 (l.set : Int), Value.int IntKind.i64 b0, Value.int IntKind.i64 b1, Value.int IntKind.i64 b2, Value.int IntKind.i64 b3, Value.int IntKind.i64 b4, Value.int IntKind.i64 b5, Value.int IntKind.i64 b6, Value.int IntKind.i64 b7, Value.int IntKind.i64 b8, Value.int IntKind.i64 b9, Value.int IntKind.i64 b10, Value.int IntKind.i64 b11], .bool true]) ∧ Ln.Recs 0 w' (.slice A8 l8 c8) n.recs) (by rintro e w' ⟨h1, A8, l8, c8, he, h2⟩; exact ⟨h1, A8, l8, c8, by rw [he, hel], h2⟩)
            have hG := Ln.goG_some (f := f) (d := d) (st := st2) hpf
            rw [hG] at hF
            have hrecu := fun (A8 : Option Addr) (l8 c8 : Nat) (W : World) (h : Ln.Srch w0 W sb mb bb A cp ps st2 OV2) (hr : Ln.Recs 0 W (.slice A8 l8 c8) n.recs) => HIH.out n l (d + 1) st2 OV2 (.agg #[Value.int IntKind.i64 n.base, Value.int IntKind.i64 n.first, Value.int IntKind.i64 n.durable, Value.int IntKind.i64 n.next, Value.int IntKind.i64 n.limit, Value.slice A8 l8 c8, Value.bool n.failed, Value.bool n.closed]) (c + 1) W h ⟨_, rfl, hr⟩ hmo2 (by have := HC.out; omega) hokl (by have := HCNT.out; omega) (by omega) (by have := HC.out; omega) (by omega)
            simp only [hel] at hrecu
            have HEL := Lib.hid hel
            have htried := Ln.goes_tried ps hn f n l (d + 1) st2
            obtain ⟨R, hR⟩ : ∃ R, Ln.goesF ps f n l (d + 1) st2 = R := ⟨_, rfl⟩
            rw [hR] at hF htried
            simp only [hR] at hrecu
            have htr4 : R.tried.length + (ps.length - (j + 1)) * Ln.Tn f ≤ 100000000000000 := by omega
            have HTR4 := Lib.hid htr4
            have HF := Lib.hid hF
            have HRECU := Lib.hid hrecu
            have HPUT := Lib.hid hput2
            clear hput hput2 hmo2 hokl hcnt2 hpf hel hsb2 hrecu hF hG hR htried htr4
            go_wp2_with (first
              | (go_at_call 62; refine HPUT.out.mono ?_; rintro e w8 ⟨hb8, A8, l8, c8, rfl, hr8⟩; have HR8 := Lib.hid hr8; have HB8 := Lib.hid hb8; clear hb8 hr8)
              | (go_at_call 54; refine (HRECU.out A8 l8 c8 _ ((HS2.out.below HB8.out).below (Ln.below2 w8 _ _)) ((Ln.Fz.of_below (Ln.below2 w8 _ _)).recs HR8.out)).mono ?_; rintro e w11 ⟨OV3, rfl, hs11, hz11⟩; have HS11 := Lib.hid hs11; have HZ11 := Lib.hid (((Ln.Fz.of_below HB8.out).trans (Ln.Fz.of_below (Ln.below2 w8 _ _))).trans hz11); clear hs11 hz11))
            go_roundg (ps.length - (j + 1))
            case measure => omega
            case rel => exact ⟨j + 1, R, OV3, by omega, rfl, by go_num, HS11.out, HZ2.out.trans HZ11.out, HF.out, HTR4.out⟩
        · have hje : j = ps.length := by omega
          have HF := Lib.hid hF
          clear hF hs2 hz2 htr2
          go_wp2_with fail
          go_end0
          have h0 : ps.length - j = 0 := by omega
          have hF := HF.out
          rw [h0] at hF
          refine ⟨OV2, rfl, ?_, HZ7.out.trans HZ2.out⟩
          rw [hF]
          exact HS2.out

end Go.Proofs.Ytgdeoodihhcdjaa
