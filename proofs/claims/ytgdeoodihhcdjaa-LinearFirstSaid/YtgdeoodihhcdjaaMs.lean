/- The contract of change. -/
import Derived.Test.YtgdeoodihhcdjaaMr
namespace Go.Proofs.Ytgdeoodihhcdjaa
open Go.RowKit
set_option linter.unusedVariables false
set_option linter.unusedSimpArgs false

theorem Ln.made3 {w w5 : World} {a b c : Array Value} {t u v : TypeId} (hw : ((w.alloc (.cells a t)).alloc (.cells b u)).alloc (.cells c v) = w5) :
    Below w.heap.size w w5 ∧ w5.heap.size = w.heap.size + 3 ∧ w5.heap[w.heap.size + 1]? = some (.cells b u (0, 0)) ∧ w5.heap[w.heap.size + 2]? = some (.cells c v (0, 0)) := by
  subst hw
  have e1 : (w.alloc (.cells a t)).heap.size = w.heap.size + 1 := by simp
  have e2 : ((w.alloc (.cells a t)).alloc (.cells b u)).heap.size = w.heap.size + 2 := by simp
  have b2 := heap_alloc_new (w.alloc (.cells a t)) (.cells b u)
  have b3 := heap_alloc_new ((w.alloc (.cells a t)).alloc (.cells b u)) (.cells c v)
  rw [e1] at b2
  rw [e2] at b3
  exact ⟨((Ln.below_alloc _ w (Nat.le_refl _) _).alloc (by simp) _).alloc (by simp; omega) _, by simp, Qu.blk_alloc b2 _, b3⟩

theorem Ln.Recs.keep2 {B : Nat} {w w' : World} {v : Value} {rs : List (List UInt8)} (h : Ln.Recs B w v rs) (hb : ∀ (i : Nat) (cs : Array Value) (t : TypeId) (f : Nat × Nat), w.heap[i]? = some (.cells cs t f) → t = 60 ∨ t = 5 → w'.heap[i]? = w.heap[i]?) : Ln.Recs B w' v rs := by
  obtain ⟨xs, h1, h2⟩ := h
  exact ⟨xs, Ln.own_keep h1 (fun i cs f h => hb i cs _ f h (.inl rfl)), fun i hi => Ln.own_keep (h2 i hi) (fun i cs f h => hb i cs _ f h (.inr rfl))⟩
/-- What a change of a model comes to. -/
def Ln.Got (w : World) (o : Option Ln.Mod) (e : Ending) (w' : World) : Prop :=
  Below w.heap.size w w' ∧ match o with
    | none => e = .returned (.tuple #[.agg (Ln.cells Ln.zeroM (.slice none 0 0)), .bool false])
    | some t => ∃ v, e = .returned (.tuple #[v, .bool true]) ∧ Ln.ModAt w' v t

set_option maxHeartbeats 2000000 in
set_option maxRecDepth 100000 in
theorem change_ap (mv : Value) (m : Ln.Mod) (w : World) (rb cb : Nat) (hm : Ln.ModAt w mv m) (hw : Ln.WF m) (hd : ∀ r ∈ m.recs, r.length ≤ 4096) (o : Option Ln.Mod)
    (HCAL : Hid (∀ (w6 : World) (sb : Nat), Ln.StAt (w.heap.size + 3) w6 sb m → w.heap.size + 3 ≤ w6.heap.size → Below w.heap.size w w6 → Calls Try.prog 57 #[.pointer (some ⟨sb, 0, none⟩), .pointer (some ⟨rb, 0, none⟩), .pointer (some ⟨cb, 0, none⟩)] w6 (Ln.Did (w.heap.size + 3) sb w6 o))) :
    Calls Try.prog 56 #[mv, .func (.func 57) #[] #[.pointer (some ⟨rb, 0, none⟩), .pointer (some ⟨cb, 0, none⟩)]] w (Ln.Got w o) := by
  have hmf : ∀ (fn : Fn) (first cap : Array Value) (w : World), (Instr.makeFunc fn first cap).run Try.prog w = .ok (.func fn first cap) w := fun _ _ _ _ => rfl
  obtain ⟨rv, rfl, hrec⟩ := hm
  obtain ⟨A, cp, rfl⟩ := hrec.slice
  have HREC := Lib.hid hrec
  have HD := Lib.hid hd
  have HW := Lib.hid hw
  clear hrec hd hw
  go_enter_defers Try.func56, Try.ntmps56
  unfold Ln.cells
  go_wp2_with fail
  generalize hw5 : (((w.alloc (Obj.cells #[Value.int IntKind.i64 m.base, Value.int IntKind.i64 m.first, Value.int IntKind.i64 m.durable, Value.int IntKind.i64 m.next, Value.int IntKind.i64 m.limit, Value.slice A m.recs.length cp, Value.bool m.failed, Value.bool m.closed] 71)).alloc (Obj.cells #[Value.int IntKind.i64 0, Value.int IntKind.i64 0, Value.int IntKind.i64 0, Value.int IntKind.i64 0, Value.int IntKind.i64 0, Value.slice none 0 0, Value.bool false, Value.bool false] 71)).alloc (Obj.cells #[Value.bool false] 4)) = w5
  obtain ⟨hb5, hz5, ho5, hk5⟩ := Ln.made3 hw5
  have hm5 : Ln.ModAt w5 (.agg (Ln.cells m (.slice A m.recs.length cp))) m := ⟨_, rfl, HREC.out.below hb5⟩
  refine (own_any _ m w5 hm5 HW.out.ln HD.out).mono ?_
  rintro e w6 ⟨sb, rfl, hs6, hb6⟩
  rw [hz5] at hs6 hb6
  have ho6 := (hb6.block (w.heap.size + 1) (by omega)).trans ho5
  have hk6 := (hb6.block (w.heap.size + 2) (by omega)).trans hk5
  have hb06 : Below w.heap.size w w6 := hb5.trans (hb6.mono (by omega))
  have hz6 := hb6.size
  rw [hz5] at hz6
  have HS6 := Lib.hid hs6
  have HO6 := Lib.hid ho6
  have HK6 := Lib.hid hk6
  have HB06 := Lib.hid hb06
  clear hw5 hb5 ho5 hk5 hm5 hs6 hb6 ho6 hk6 hb06
  go_wp2_with fail
  refine (HCAL.out w6 sb HS6.out hz6 HB06.out).mono ?_
  intro e w7 hd7
  cases o with
  | none =>
    obtain ⟨rfl, hb7⟩ := hd7.none
    have ho7 := (hb7.low.block (w.heap.size + 1) (by omega)).trans HO6.out
    have hk7 := (hb7.low.block (w.heap.size + 2) (by omega)).trans HK6.out
    have hb07 : Below w.heap.size w w7 := HB06.out.trans (hb7.low.mono (by omega))
    clear hd7 hb7
    have HB07 := Lib.hid hb07
    have HO7 := Lib.hid ho7
    have HK7 := Lib.hid hk7
    clear hb07 ho7 hk7
    go_wp2_with fail
    refine leaves_cons (f := 65) (args := #[.pointer (some ⟨w.heap.size + 1, 0, none⟩), .pointer (some ⟨w.heap.size + 1 + 1, 0, none⟩)]) (by simp) (by simp [go_sem]) ?_
    refine (catch_panicking (w.heap.size + 1) (w.heap.size + 1 + 1) Ln.zeroM _ false [] w7 HO7.out HK7.out).mono ?_
    rintro e u' w8 ⟨rfl, rfl, ho8, hk8, hb8⟩
    obtain ⟨o0, o1, o2, o3, o4, o5, o6, o7⟩ := Ln.cells8o ho8
    have k8 := Qu.blk_cell hk8 0
    simp only [List.getElem?_toArray, List.getElem?_cons_zero] at k8
    have hb08 : Below w.heap.size w w8 := HB07.out.trans (hb8 _ (by omega) (by omega) (by have := HB07.out.size; omega))
    clear ho8 hk8 hb8
    simp [Leaves, settle, results, Try.results56, go_sem, asAddr, o0, o1, o2, o3, o4, o5, o6, o7, k8]
    exact ⟨hb08, rfl⟩
  | some t =>
    obtain ⟨rfl, hb7, hs7⟩ := hd7.some
    have ho7 := (hb7.low.block (w.heap.size + 1) (by omega)).trans HO6.out
    have hk7 := (hb7.low.block (w.heap.size + 2) (by omega)).trans HK6.out
    have hb07 : Below w.heap.size w w7 := HB06.out.trans (hb7.low.mono (by omega))
    obtain ⟨hsb, v7, hs71, hs72⟩ := hs7
    obtain ⟨A7, cp7, rfl⟩ := hs72.slice
    have HS71 := Lib.hid hs71
    have HS72 := Lib.hid hs72
    have HO7 := Lib.hid ho7
    have HK7 := Lib.hid hk7
    have HB07 := Lib.hid hb07
    have hls := Qu.blk_lt hs71
    have hk8 : (w7.setRow (w.heap.size + 1) (Ln.cells t (.slice A7 t.recs.length cp7))).heap[w.heap.size + 1 + 1]? = some (.cells #[.bool false] 4 (0, 0)) := (setRow_other _ _ _ _ (by omega)).trans hk7
    have k0 := Qu.blk_cell hk8 0
    simp only [List.getElem?_toArray, List.getElem?_cons_zero] at k0
    have fk := Qu.blk_frozen hk8 0
    have HK8 := Lib.hid hk8
    clear hd7 hb7 ho7 hk7 hb07 hs71 hs72 hk8
    go_wp2_with (first
      | (refine wpList_load_row rfl 71 (.tmp 15) rfl sb rfl 118 (Ln.cells t (.slice A7 t.recs.length cp7)) (0, 0) _ HS71.out Try.underlying71 rfl Try.size71 ?_)
      | (refine wpList_store_row rfl 71 (.tmp 4) (.tmp 16) rfl (w.heap.size + 1) (Ln.cells t (.slice A7 t.recs.length cp7)) rfl rfl 71 (Ln.cells Ln.zeroM (.slice none 0 0)) HO7.out Try.size71 rfl (Ln.cells_one _ _ _ _) ?_))
    refine leaves_cons (f := 65) (args := #[.pointer (some ⟨w.heap.size + 1, 0, none⟩), .pointer (some ⟨w.heap.size + 1 + 1, 0, none⟩)]) (by simp) (by simp [go_sem]) ?_
    refine (catch_idle _ _ _).mono ?_
    rintro e u' w8 ⟨rfl, rfl, rfl⟩
    have ho8 : ((w7.setRow (w.heap.size + 1) (Ln.cells t (.slice A7 t.recs.length cp7))).setCell ⟨w.heap.size + 1 + 1, 0, none⟩ (.bool true)).heap[w.heap.size + 1]? = some (.cells (Ln.cells t (.slice A7 t.recs.length cp7)) 71 (0, 0)) :=
      Qu.blk_far (setRow_heap _ _ _ _ 71 (0, 0) HO7.out) (by simp) _
    have k8 := Qu.blk_cell (Qu.blk_set HK8.out 0 (.bool true)) 0
    simp only [List.setIfInBounds_toArray, List.set_cons_zero, List.getElem?_toArray, List.getElem?_cons_zero] at k8
    have hb8 : Below w.heap.size w ((w7.setRow (w.heap.size + 1) (Ln.cells t (.slice A7 t.recs.length cp7))).setCell ⟨w.heap.size + 1 + 1, 0, none⟩ (.bool true)) :=
      (Ln.below_setRow HB07.out (by omega) _).setCell (by simp; omega) _
    have hr8 : Ln.Recs 0 ((w7.setRow (w.heap.size + 1) (Ln.cells t (.slice A7 t.recs.length cp7))).setCell ⟨w.heap.size + 1 + 1, 0, none⟩ (.bool true)) (.slice A7 t.recs.length cp7) t.recs :=
      (HS72.out.base (Nat.zero_le _)).keep2 (fun i cs ty f hi h5 => by
        refine (Below.heap_setCell _ _ _ _ ?_).trans (setRow_other _ _ _ _ ?_)
        · rintro rfl
          have := HK7.out
          simp only at hi
          rw [hi] at this
          injection this with this
          injection this with _ this
          rcases h5 with h5 | h5 <;> rw [h5] at this <;> cases this
        · rintro rfl
          have := HO7.out
          rw [hi] at this
          injection this with this
          injection this with _ this
          rcases h5 with h5 | h5 <;> rw [h5] at this <;> cases this)
    generalize ((w7.setRow (w.heap.size + 1) (Ln.cells t (.slice A7 t.recs.length cp7))).setCell ⟨w.heap.size + 1 + 1, 0, none⟩ (.bool true)) = w8 at ho8 k8 hb8 hr8 ⊢
    obtain ⟨o0, o1, o2, o3, o4, o5, o6, o7⟩ := Ln.cells8o ho8
    clear ho8
    simp [Leaves, settle, results, Try.results56, go_sem, asAddr, o0, o1, o2, o3, o4, o5, o6, o7, k8]
    exact ⟨hb8, _, rfl, _, rfl, hr8⟩

set_option maxHeartbeats 2000000 in
set_option maxRecDepth 100000 in
theorem change_hf (mv : Value) (m : Ln.Mod) (w : World) (cb : Nat) (hm : Ln.ModAt w mv m) (hw : Ln.WF m) (hd : ∀ r ∈ m.recs, r.length ≤ 4096) (o : Option Ln.Mod)
    (HCAL : Hid (∀ (w6 : World) (sb : Nat), Ln.StAt (w.heap.size + 3) w6 sb m → w.heap.size + 3 ≤ w6.heap.size → Below w.heap.size w w6 → Calls Try.prog 71 #[.pointer (some ⟨sb, 0, none⟩), .pointer (some ⟨cb, 0, none⟩)] w6 (Ln.Did (w.heap.size + 3) sb w6 o))) :
    Calls Try.prog 56 #[mv, .func (.func 71) #[] #[.pointer (some ⟨cb, 0, none⟩)]] w (Ln.Got w o) := by
  have hmf : ∀ (fn : Fn) (first cap : Array Value) (w : World), (Instr.makeFunc fn first cap).run Try.prog w = .ok (.func fn first cap) w := fun _ _ _ _ => rfl
  obtain ⟨rv, rfl, hrec⟩ := hm
  obtain ⟨A, cp, rfl⟩ := hrec.slice
  have HREC := Lib.hid hrec
  have HD := Lib.hid hd
  have HW := Lib.hid hw
  clear hrec hd hw
  go_enter_defers Try.func56, Try.ntmps56
  unfold Ln.cells
  go_wp2_with fail
  generalize hw5 : (((w.alloc (Obj.cells #[Value.int IntKind.i64 m.base, Value.int IntKind.i64 m.first, Value.int IntKind.i64 m.durable, Value.int IntKind.i64 m.next, Value.int IntKind.i64 m.limit, Value.slice A m.recs.length cp, Value.bool m.failed, Value.bool m.closed] 71)).alloc (Obj.cells #[Value.int IntKind.i64 0, Value.int IntKind.i64 0, Value.int IntKind.i64 0, Value.int IntKind.i64 0, Value.int IntKind.i64 0, Value.slice none 0 0, Value.bool false, Value.bool false] 71)).alloc (Obj.cells #[Value.bool false] 4)) = w5
  obtain ⟨hb5, hz5, ho5, hk5⟩ := Ln.made3 hw5
  have hm5 : Ln.ModAt w5 (.agg (Ln.cells m (.slice A m.recs.length cp))) m := ⟨_, rfl, HREC.out.below hb5⟩
  refine (own_any _ m w5 hm5 HW.out.ln HD.out).mono ?_
  rintro e w6 ⟨sb, rfl, hs6, hb6⟩
  rw [hz5] at hs6 hb6
  have ho6 := (hb6.block (w.heap.size + 1) (by omega)).trans ho5
  have hk6 := (hb6.block (w.heap.size + 2) (by omega)).trans hk5
  have hb06 : Below w.heap.size w w6 := hb5.trans (hb6.mono (by omega))
  have hz6 := hb6.size
  rw [hz5] at hz6
  have HS6 := Lib.hid hs6
  have HO6 := Lib.hid ho6
  have HK6 := Lib.hid hk6
  have HB06 := Lib.hid hb06
  clear hw5 hb5 ho5 hk5 hm5 hs6 hb6 ho6 hk6 hb06
  go_wp2_with fail
  refine (HCAL.out w6 sb HS6.out hz6 HB06.out).mono ?_
  intro e w7 hd7
  cases o with
  | none =>
    obtain ⟨rfl, hb7⟩ := hd7.none
    have ho7 := (hb7.low.block (w.heap.size + 1) (by omega)).trans HO6.out
    have hk7 := (hb7.low.block (w.heap.size + 2) (by omega)).trans HK6.out
    have hb07 : Below w.heap.size w w7 := HB06.out.trans (hb7.low.mono (by omega))
    clear hd7 hb7
    have HB07 := Lib.hid hb07
    have HO7 := Lib.hid ho7
    have HK7 := Lib.hid hk7
    clear hb07 ho7 hk7
    go_wp2_with fail
    refine leaves_cons (f := 65) (args := #[.pointer (some ⟨w.heap.size + 1, 0, none⟩), .pointer (some ⟨w.heap.size + 1 + 1, 0, none⟩)]) (by simp) (by simp [go_sem]) ?_
    refine (catch_panicking (w.heap.size + 1) (w.heap.size + 1 + 1) Ln.zeroM _ false [] w7 HO7.out HK7.out).mono ?_
    rintro e u' w8 ⟨rfl, rfl, ho8, hk8, hb8⟩
    obtain ⟨o0, o1, o2, o3, o4, o5, o6, o7⟩ := Ln.cells8o ho8
    have k8 := Qu.blk_cell hk8 0
    simp only [List.getElem?_toArray, List.getElem?_cons_zero] at k8
    have hb08 : Below w.heap.size w w8 := HB07.out.trans (hb8 _ (by omega) (by omega) (by have := HB07.out.size; omega))
    clear ho8 hk8 hb8
    simp [Leaves, settle, results, Try.results56, go_sem, asAddr, o0, o1, o2, o3, o4, o5, o6, o7, k8]
    exact ⟨hb08, rfl⟩
  | some t =>
    obtain ⟨rfl, hb7, hs7⟩ := hd7.some
    have ho7 := (hb7.low.block (w.heap.size + 1) (by omega)).trans HO6.out
    have hk7 := (hb7.low.block (w.heap.size + 2) (by omega)).trans HK6.out
    have hb07 : Below w.heap.size w w7 := HB06.out.trans (hb7.low.mono (by omega))
    obtain ⟨hsb, v7, hs71, hs72⟩ := hs7
    obtain ⟨A7, cp7, rfl⟩ := hs72.slice
    have HS71 := Lib.hid hs71
    have HS72 := Lib.hid hs72
    have HO7 := Lib.hid ho7
    have HK7 := Lib.hid hk7
    have HB07 := Lib.hid hb07
    have hls := Qu.blk_lt hs71
    have hk8 : (w7.setRow (w.heap.size + 1) (Ln.cells t (.slice A7 t.recs.length cp7))).heap[w.heap.size + 1 + 1]? = some (.cells #[.bool false] 4 (0, 0)) := (setRow_other _ _ _ _ (by omega)).trans hk7
    have k0 := Qu.blk_cell hk8 0
    simp only [List.getElem?_toArray, List.getElem?_cons_zero] at k0
    have fk := Qu.blk_frozen hk8 0
    have HK8 := Lib.hid hk8
    clear hd7 hb7 ho7 hk7 hb07 hs71 hs72 hk8
    go_wp2_with (first
      | (refine wpList_load_row rfl 71 (.tmp 15) rfl sb rfl 118 (Ln.cells t (.slice A7 t.recs.length cp7)) (0, 0) _ HS71.out Try.underlying71 rfl Try.size71 ?_)
      | (refine wpList_store_row rfl 71 (.tmp 4) (.tmp 16) rfl (w.heap.size + 1) (Ln.cells t (.slice A7 t.recs.length cp7)) rfl rfl 71 (Ln.cells Ln.zeroM (.slice none 0 0)) HO7.out Try.size71 rfl (Ln.cells_one _ _ _ _) ?_))
    refine leaves_cons (f := 65) (args := #[.pointer (some ⟨w.heap.size + 1, 0, none⟩), .pointer (some ⟨w.heap.size + 1 + 1, 0, none⟩)]) (by simp) (by simp [go_sem]) ?_
    refine (catch_idle _ _ _).mono ?_
    rintro e u' w8 ⟨rfl, rfl, rfl⟩
    have ho8 : ((w7.setRow (w.heap.size + 1) (Ln.cells t (.slice A7 t.recs.length cp7))).setCell ⟨w.heap.size + 1 + 1, 0, none⟩ (.bool true)).heap[w.heap.size + 1]? = some (.cells (Ln.cells t (.slice A7 t.recs.length cp7)) 71 (0, 0)) :=
      Qu.blk_far (setRow_heap _ _ _ _ 71 (0, 0) HO7.out) (by simp) _
    have k8 := Qu.blk_cell (Qu.blk_set HK8.out 0 (.bool true)) 0
    simp only [List.setIfInBounds_toArray, List.set_cons_zero, List.getElem?_toArray, List.getElem?_cons_zero] at k8
    have hb8 : Below w.heap.size w ((w7.setRow (w.heap.size + 1) (Ln.cells t (.slice A7 t.recs.length cp7))).setCell ⟨w.heap.size + 1 + 1, 0, none⟩ (.bool true)) :=
      (Ln.below_setRow HB07.out (by omega) _).setCell (by simp; omega) _
    have hr8 : Ln.Recs 0 ((w7.setRow (w.heap.size + 1) (Ln.cells t (.slice A7 t.recs.length cp7))).setCell ⟨w.heap.size + 1 + 1, 0, none⟩ (.bool true)) (.slice A7 t.recs.length cp7) t.recs :=
      (HS72.out.base (Nat.zero_le _)).keep2 (fun i cs ty f hi h5 => by
        refine (Below.heap_setCell _ _ _ _ ?_).trans (setRow_other _ _ _ _ ?_)
        · rintro rfl
          have := HK7.out
          simp only at hi
          rw [hi] at this
          injection this with this
          injection this with _ this
          rcases h5 with h5 | h5 <;> rw [h5] at this <;> cases this
        · rintro rfl
          have := HO7.out
          rw [hi] at this
          injection this with this
          injection this with _ this
          rcases h5 with h5 | h5 <;> rw [h5] at this <;> cases this)
    generalize ((w7.setRow (w.heap.size + 1) (Ln.cells t (.slice A7 t.recs.length cp7))).setCell ⟨w.heap.size + 1 + 1, 0, none⟩ (.bool true)) = w8 at ho8 k8 hb8 hr8 ⊢
    obtain ⟨o0, o1, o2, o3, o4, o5, o6, o7⟩ := Ln.cells8o ho8
    clear ho8
    simp [Leaves, settle, results, Try.results56, go_sem, asAddr, o0, o1, o2, o3, o4, o5, o6, o7, k8]
    exact ⟨hb8, _, rfl, _, rfl, hr8⟩

end Go.Proofs.Ytgdeoodihhcdjaa
