/- The contracts of model.New, Apply. -/
import Derived.Test.YtgdeoodihhcdjaaMs
namespace Go.Proofs.Ytgdeoodihhcdjaa
open Go.RowKit
set_option linter.unusedVariables false
set_option linter.unusedSimpArgs false


theorem new_any (base : Int) (w : World) : Calls Try.prog 30 #[.int .i64 base] w fun e w' => Below w.heap.size w w' ∧ match Ln.newF base with
    | none => e = .returned (.tuple #[.agg (Ln.cells Ln.zeroM (.slice none 0 0)), .int .i64 1])
    | some m => e = .returned (.tuple #[.agg (Ln.cells m (.slice none 0 0)), .int .i64 0]) := by
  unfold Ln.newF
  by_cases h : base < 1
  · rw [if_pos h]
    go_enter Try.func30, Try.ntmps30
    go_wp2
    refine bodyPost_ret (v := .tuple #[.agg (Ln.cells Ln.zeroM (.slice none 0 0)), .int .i64 1]) (by simp [results, Try.results30, go_sem]; rfl) rfl ⟨Ln.below_alloc _ w (Nat.le_refl _) _, rfl⟩
  · rw [if_neg h]
    have h' : 1 ≤ base := by omega
    clear h
    go_enter Try.func30, Try.ntmps30
    go_wp2
    refine bodyPost_ret (v := .tuple #[.agg (Ln.cells ⟨base, base, base, base, 9223372036854775807, [], false, false⟩ (.slice none 0 0)), .int .i64 0]) (by simp [results, Try.results30, go_sem]; rfl) rfl ⟨Ln.below_alloc _ w (Nat.le_refl _) _, rfl⟩

theorem Ln.made4 {w w5 : World} {a b c d : Array Value} {t u v x : TypeId} (hw : (((w.alloc (.cells a t)).alloc (.cells b u)).alloc (.cells c v)).alloc (.cells d x) = w5) :
    Below w.heap.size w w5 ∧ w5.heap.size = w.heap.size + 4 ∧ w5.heap[w.heap.size]? = some (.cells a t (0, 0)) ∧ w5.heap[w.heap.size + 1]? = some (.cells b u (0, 0)) ∧ w5.heap[w.heap.size + 2]? = some (.cells c v (0, 0)) ∧ w5.heap[w.heap.size + 3]? = some (.cells d x (0, 0)) := by
  subst hw
  have e1 : (w.alloc (.cells a t)).heap.size = w.heap.size + 1 := by simp
  have e2 : ((w.alloc (.cells a t)).alloc (.cells b u)).heap.size = w.heap.size + 2 := by simp
  have e3 : (((w.alloc (.cells a t)).alloc (.cells b u)).alloc (.cells c v)).heap.size = w.heap.size + 3 := by simp
  have b1 := heap_alloc_new w (.cells a t)
  have b2 := heap_alloc_new (w.alloc (.cells a t)) (.cells b u)
  have b3 := heap_alloc_new ((w.alloc (.cells a t)).alloc (.cells b u)) (.cells c v)
  have b4 := heap_alloc_new (((w.alloc (.cells a t)).alloc (.cells b u)).alloc (.cells c v)) (.cells d x)
  rw [e1] at b2
  rw [e2] at b3
  rw [e3] at b4
  exact ⟨(((Ln.below_alloc _ w (Nat.le_refl _) _).alloc (by simp) _).alloc (by simp; omega) _).alloc (by simp; omega) _, by simp, Qu.blk_alloc (Qu.blk_alloc (Qu.blk_alloc b1 _) _) _, Qu.blk_alloc (Qu.blk_alloc b2 _) _, Qu.blk_alloc b3 _, b4⟩

theorem Ln.Recs.row {B : Nat} {w : World} {v : Value} {rs : List (List UInt8)} (h : Ln.Recs B w v rs) {g : Nat} {cs : Array Value} {t : TypeId} (hg : w.heap[g]? = some (.cells cs t (0, 0))) (h60 : t ≠ 60) (h5 : t ≠ 5) (cs' : Array Value) : Ln.Recs B (w.setRow g cs') v rs :=
  h.keep2 fun i cs2 ty f hi ht => setRow_other _ _ _ _ (fun e => by
    subst e
    rw [hg] at hi
    injection hi with hi
    injection hi with _ hi
    subst hi
    rcases ht with ht | ht
    · exact h60 ht
    · exact h5 ht)
theorem Ln.applyF_eq (m : Ln.Mod) (c : Ln.Call) (r : Ln.Res) : Ln.applyF m c r = if Ln.usedF c = true then Ln.insideF m c r else none := rfl
theorem Ln.halfF_eq (m : Ln.Mod) (c : Ln.Call) : Ln.halfF m c = if Ln.usedF c = true then Ln.insideH m c else none := rfl

set_option maxHeartbeats 2000000 in
set_option maxRecDepth 100000 in
theorem apply_any (mv : Value) (m : Ln.Mod) (c : Ln.Call) (r : Ln.Res) (cd rd : Value) (w : World) (hm : Ln.ModAt w mv m) (hw : Ln.WF m) (hd : ∀ r ∈ m.recs, r.length ≤ 4096) (hc : Ln.Rd w cd (Ln.u8s c.data)) (hr : Ln.Rd w rd (Ln.u8s r.data)) :
    Calls Try.prog 31 #[mv, .agg #[.int .i64 c.kind, .int .i64 c.lsn, cd], .agg #[.int .i64 r.err, .int .i64 r.lsn, rd]] w (Ln.Got w (Ln.applyF m c r)) := by
  obtain ⟨rv, rfl, hrec⟩ := hm
  obtain ⟨A, cp, rfl⟩ := hrec.slice
  have HREC := Lib.hid hrec
  have HD := Lib.hid hd
  have HW := Lib.hid hw
  have HC := Lib.hid hc
  have HR := Lib.hid hr
  clear hrec hd hw hc hr
  rw [Ln.applyF_eq]
  cases hu : Ln.usedF c with
  | false =>
    rw [if_neg (by simp)]
    have HU := Lib.hid hu
    clear hu
    go_enter Try.func31, Try.ntmps31
    unfold Ln.cells
    go_wp2_with fail
    generalize hw5 : ((((w.alloc (Obj.cells #[Value.int IntKind.i64 m.base, Value.int IntKind.i64 m.first, Value.int IntKind.i64 m.durable, Value.int IntKind.i64 m.next, Value.int IntKind.i64 m.limit, Value.slice A m.recs.length cp, Value.bool m.failed, Value.bool m.closed] 71)).alloc (Obj.cells #[Value.int IntKind.i64 c.kind, Value.int IntKind.i64 c.lsn, cd] 62)).alloc (Obj.cells #[Value.int IntKind.i64 r.err, Value.int IntKind.i64 r.lsn, rd] 64)).alloc (Obj.cells #[Value.int IntKind.i64 0, Value.int IntKind.i64 0, Value.int IntKind.i64 0, Value.int IntKind.i64 0, Value.int IntKind.i64 0, Value.slice none 0 0, Value.bool false, Value.bool false] 71)) = w5
    obtain ⟨hb5, hz5, hm5, hc5, hr5, ho5⟩ := Ln.made4 hw5
    have HB5 := Lib.hid hb5
    clear hw5
    have hcd5 := HC.out.keep hb5
    have hus := used_any c cd w5 hcd5
    rw [HU.out] at hus
    refine hus.mono ?_
    rintro e w6 ⟨rfl, hb6⟩
    have hb06 := hb5.trans (hb6.mono (by omega))
    have hm6 := Qu.blk_below hm5 hb6
    have hc6 := Qu.blk_below hc5 hb6
    have hr6 := Qu.blk_below hr5 hb6
    have ho6 := Qu.blk_below ho5 hb6
    have hz6 := hb6.size
    rw [hz5] at hz6
    have HB06 := Lib.hid hb06
    have HM6 := Lib.hid hm6
    have HC6 := Lib.hid hc6
    have HR6 := Lib.hid hr6
    have HO6 := Lib.hid ho6
    clear hb5 hm5 hc5 hr5 ho5 hb6 hb06 hm6 hc6 hr6 ho6 hcd5
    go_wp2_with (refine wpList_store_row rfl 71 (.tmp 6) (.tmp 11) rfl (w.heap.size + 3) (Ln.cells Ln.zeroM (.slice none 0 0)) rfl rfl 71 (Ln.cells Ln.zeroM (.slice none 0 0)) HO6.out Try.size71 rfl (Ln.cells_one _ _ _ _) ?_)
    have hrow := setRow_heap w6 (w.heap.size + 3) _ (Ln.cells Ln.zeroM (.slice none 0 0)) 71 (0, 0) HO6.out
    have hbr : Below w.heap.size w (w6.setRow (w.heap.size + 3) (Ln.cells Ln.zeroM (.slice none 0 0))) := Ln.below_setRow HB06.out (by omega) _
    generalize w6.setRow (w.heap.size + 3) (Ln.cells Ln.zeroM (.slice none 0 0)) = w8 at hrow hbr ⊢
    obtain ⟨o0, o1, o2, o3, o4, o5, o6, o7⟩ := Ln.cells8o hrow
    refine bodyPost_ret (v := .tuple #[.agg (Ln.cells Ln.zeroM (.slice none 0 0)), .bool false]) (by simp [results, Try.results31, go_sem, asAddr, o0, o1, o2, o3, o4, o5, o6, o7]; rfl) rfl ⟨hbr, rfl⟩
  | true =>
    rw [if_pos rfl]
    have HU := Lib.hid hu
    clear hu
    go_enter Try.func31, Try.ntmps31
    unfold Ln.cells
    go_wp2_with fail
    generalize hw5 : ((((w.alloc (Obj.cells #[Value.int IntKind.i64 m.base, Value.int IntKind.i64 m.first, Value.int IntKind.i64 m.durable, Value.int IntKind.i64 m.next, Value.int IntKind.i64 m.limit, Value.slice A m.recs.length cp, Value.bool m.failed, Value.bool m.closed] 71)).alloc (Obj.cells #[Value.int IntKind.i64 c.kind, Value.int IntKind.i64 c.lsn, cd] 62)).alloc (Obj.cells #[Value.int IntKind.i64 r.err, Value.int IntKind.i64 r.lsn, rd] 64)).alloc (Obj.cells #[Value.int IntKind.i64 0, Value.int IntKind.i64 0, Value.int IntKind.i64 0, Value.int IntKind.i64 0, Value.int IntKind.i64 0, Value.slice none 0 0, Value.bool false, Value.bool false] 71)) = w5
    obtain ⟨hb5, hz5, hm5, hc5, hr5, ho5⟩ := Ln.made4 hw5
    have HB5 := Lib.hid hb5
    clear hw5
    have hcd5 := HC.out.keep hb5
    have hus := used_any c cd w5 hcd5
    rw [HU.out] at hus
    refine hus.mono ?_
    rintro e w6 ⟨rfl, hb6⟩
    have hb06 := hb5.trans (hb6.mono (by omega))
    have hm6 := Qu.blk_below hm5 hb6
    have hc6 := Qu.blk_below hc5 hb6
    have hr6 := Qu.blk_below hr5 hb6
    have ho6 := Qu.blk_below ho5 hb6
    have hz6 := hb6.size
    rw [hz5] at hz6
    have HB06 := Lib.hid hb06
    have HM6 := Lib.hid hm6
    have HC6 := Lib.hid hc6
    have HR6 := Lib.hid hr6
    have HO6 := Lib.hid ho6
    clear hb5 hm5 hc5 hr5 ho5 hb6 hb06 hm6 hc6 hr6 ho6 hcd5
    have hch := change_ap (.agg (Ln.cells m (.slice A m.recs.length cp))) m w6 (w.heap.size + 1 + 1) (w.heap.size + 1) ⟨_, rfl, HREC.out.below HB06.out⟩ HW.out HD.out (Ln.insideF m c r) (fun w7 sb hs hz hb => ap_any (w6.heap.size + 3) sb (w.heap.size + 1) (w.heap.size + 1 + 1) c r cd rd m w7 hs hz (HC.out.keep (HB06.out.trans (hb.mono HB06.out.size))) (HR.out.keep (HB06.out.trans (hb.mono HB06.out.size))) (Qu.blk_below HC6.out hb) (Qu.blk_below HR6.out hb) HW.out)
    cases ho : Ln.insideF m c r with
    | none =>
      rw [ho] at hch
      have HCH := Lib.hid hch
      have HOO := Lib.hid ho
      clear hch ho
      go_wp2_with (refine wpList_load_row rfl 71 (.tmp 3) rfl w.heap.size rfl 71 #[Value.int IntKind.i64 m.base, Value.int IntKind.i64 m.first, Value.int IntKind.i64 m.durable, Value.int IntKind.i64 m.next, Value.int IntKind.i64 m.limit, Value.slice A m.recs.length cp, Value.bool m.failed, Value.bool m.closed] (0, 0) _ HM6.out Try.underlying71 rfl Try.size71 ?_)
      refine HCH.out.mono ?_
      rintro e w8 ⟨hb8, rfl⟩
      have ho8 := Qu.blk_below HO6.out hb8
      have hb08 : Below w.heap.size w w8 := HB06.out.trans (hb8.mono HB06.out.size)
      have HO8 := Lib.hid ho8
      have HB08 := Lib.hid hb08
      clear hb8 ho8 hb08
      go_wp2_with (refine wpList_store_row rfl 71 (.tmp 6) (.tmp 15) rfl (w.heap.size + 3) (Ln.cells Ln.zeroM (.slice none 0 0)) rfl rfl 71 (Ln.cells Ln.zeroM (.slice none 0 0)) HO8.out Try.size71 rfl (Ln.cells_one _ _ _ _) ?_)
      have hrow := setRow_heap w8 (w.heap.size + 3) _ (Ln.cells Ln.zeroM (.slice none 0 0)) 71 (0, 0) HO8.out
      have hbr : Below w.heap.size w (w8.setRow (w.heap.size + 3) (Ln.cells Ln.zeroM (.slice none 0 0))) := Ln.below_setRow HB08.out (by omega) _
      generalize w8.setRow (w.heap.size + 3) (Ln.cells Ln.zeroM (.slice none 0 0)) = w9 at hrow hbr ⊢
      obtain ⟨o0, o1, o2, o3, o4, o5, o6, o7⟩ := Ln.cells8o hrow
      refine bodyPost_ret (v := .tuple #[.agg (Ln.cells Ln.zeroM (.slice none 0 0)), .bool false]) (by simp [results, Try.results31, go_sem, asAddr, o0, o1, o2, o3, o4, o5, o6, o7]; rfl) rfl ⟨hbr, by rw [HOO.out]⟩
    | some t =>
      rw [ho] at hch
      have HCH := Lib.hid hch
      have HOO := Lib.hid ho
      clear hch ho
      go_wp2_with (refine wpList_load_row rfl 71 (.tmp 3) rfl w.heap.size rfl 71 #[Value.int IntKind.i64 m.base, Value.int IntKind.i64 m.first, Value.int IntKind.i64 m.durable, Value.int IntKind.i64 m.next, Value.int IntKind.i64 m.limit, Value.slice A m.recs.length cp, Value.bool m.failed, Value.bool m.closed] (0, 0) _ HM6.out Try.underlying71 rfl Try.size71 ?_)
      refine HCH.out.mono ?_
      rintro e w8 ⟨hb8, _, rfl, rv8, rfl, hrec8⟩
      obtain ⟨A8, cp8, rfl⟩ := hrec8.slice
      have ho8 := Qu.blk_below HO6.out hb8
      have hb08 : Below w.heap.size w w8 := HB06.out.trans (hb8.mono HB06.out.size)
      have HO8 := Lib.hid ho8
      have HB08 := Lib.hid hb08
      have HREC8 := Lib.hid hrec8
      clear hb8 ho8 hb08 hrec8
      go_wp2_with (refine wpList_store_row rfl 71 (.tmp 6) (.tmp 15) rfl (w.heap.size + 3) (Ln.cells t (.slice A8 t.recs.length cp8)) rfl rfl 71 (Ln.cells Ln.zeroM (.slice none 0 0)) HO8.out Try.size71 rfl (Ln.cells_one _ _ _ _) ?_)
      have hrow := setRow_heap w8 (w.heap.size + 3) _ (Ln.cells t (.slice A8 t.recs.length cp8)) 71 (0, 0) HO8.out
      have hbr : Below w.heap.size w (w8.setRow (w.heap.size + 3) (Ln.cells t (.slice A8 t.recs.length cp8))) := Ln.below_setRow HB08.out (by omega) _
      have hrr : Ln.Recs 0 (w8.setRow (w.heap.size + 3) (Ln.cells t (.slice A8 t.recs.length cp8))) (.slice A8 t.recs.length cp8) t.recs := HREC8.out.row HO8.out (by decide) (by decide) _
      generalize w8.setRow (w.heap.size + 3) (Ln.cells t (.slice A8 t.recs.length cp8)) = w9 at hrow hbr hrr ⊢
      obtain ⟨o0, o1, o2, o3, o4, o5, o6, o7⟩ := Ln.cells8o hrow
      refine bodyPost_ret (v := .tuple #[.agg (Ln.cells t (.slice A8 t.recs.length cp8)), .bool true]) (by simp [results, Try.results31, go_sem, asAddr, o0, o1, o2, o3, o4, o5, o6, o7]; rfl) rfl ⟨hbr, by rw [HOO.out]; exact ⟨_, rfl, _, rfl, hrr⟩⟩

theorem Ln.made3' {w w5 : World} {a b c : Array Value} {t u v : TypeId} (hw : ((w.alloc (.cells a t)).alloc (.cells b u)).alloc (.cells c v) = w5) :
    Below w.heap.size w w5 ∧ w5.heap.size = w.heap.size + 3 ∧ w5.heap[w.heap.size]? = some (.cells a t (0, 0)) ∧ w5.heap[w.heap.size + 1]? = some (.cells b u (0, 0)) ∧ w5.heap[w.heap.size + 2]? = some (.cells c v (0, 0)) := by
  obtain ⟨h1, h2, h3, h4⟩ := Ln.made3 hw
  subst hw
  exact ⟨h1, h2, Qu.blk_alloc (Qu.blk_alloc (heap_alloc_new w (.cells a t)) _) _, h3, h4⟩

set_option maxHeartbeats 2000000 in
set_option maxRecDepth 100000 in
theorem half_any (mv : Value) (m : Ln.Mod) (c : Ln.Call) (cd : Value) (w : World) (hm : Ln.ModAt w mv m) (hw : Ln.WF m) (hd : ∀ r ∈ m.recs, r.length ≤ 4096) (hc : Ln.Rd w cd (Ln.u8s c.data)) :
    Calls Try.prog 63 #[mv, .agg #[.int .i64 c.kind, .int .i64 c.lsn, cd]] w (Ln.Got w (Ln.halfF m c)) := by
  obtain ⟨rv, rfl, hrec⟩ := hm
  obtain ⟨A, cp, rfl⟩ := hrec.slice
  have HREC := Lib.hid hrec
  have HD := Lib.hid hd
  have HW := Lib.hid hw
  have HC := Lib.hid hc
  clear hrec hd hw hc
  rw [Ln.halfF_eq]
  cases hu : Ln.usedF c with
  | false =>
    rw [if_neg (by simp)]
    have HU := Lib.hid hu
    clear hu
    go_enter Try.func63, Try.ntmps63
    unfold Ln.cells
    go_wp2_with fail
    generalize hw5 : (((w.alloc (Obj.cells #[Value.int IntKind.i64 m.base, Value.int IntKind.i64 m.first, Value.int IntKind.i64 m.durable, Value.int IntKind.i64 m.next, Value.int IntKind.i64 m.limit, Value.slice A m.recs.length cp, Value.bool m.failed, Value.bool m.closed] 71)).alloc (Obj.cells #[Value.int IntKind.i64 c.kind, Value.int IntKind.i64 c.lsn, cd] 62)).alloc (Obj.cells #[Value.int IntKind.i64 0, Value.int IntKind.i64 0, Value.int IntKind.i64 0, Value.int IntKind.i64 0, Value.int IntKind.i64 0, Value.slice none 0 0, Value.bool false, Value.bool false] 71)) = w5
    obtain ⟨hb5, hz5, hm5, hc5, ho5⟩ := Ln.made3' hw5
    have HB5 := Lib.hid hb5
    clear hw5
    have hcd5 := HC.out.keep hb5
    have hus := used_any c cd w5 hcd5
    rw [HU.out] at hus
    refine hus.mono ?_
    rintro e w6 ⟨rfl, hb6⟩
    have hb06 := hb5.trans (hb6.mono (by omega))
    have hm6 := Qu.blk_below hm5 hb6
    have hc6 := Qu.blk_below hc5 hb6
    skip
    have ho6 := Qu.blk_below ho5 hb6
    have hz6 := hb6.size
    rw [hz5] at hz6
    have HB06 := Lib.hid hb06
    have HM6 := Lib.hid hm6
    have HC6 := Lib.hid hc6
    skip
    have HO6 := Lib.hid ho6
    clear hb5 hm5 hc5 ho5 hb6 hb06 hm6 hc6 ho6 hcd5
    go_wp2_with (refine wpList_store_row rfl 71 (.tmp 4) (.tmp 9) rfl (w.heap.size + 2) (Ln.cells Ln.zeroM (.slice none 0 0)) rfl rfl 71 (Ln.cells Ln.zeroM (.slice none 0 0)) HO6.out Try.size71 rfl (Ln.cells_one _ _ _ _) ?_)
    have hrow := setRow_heap w6 (w.heap.size + 2) _ (Ln.cells Ln.zeroM (.slice none 0 0)) 71 (0, 0) HO6.out
    have hbr : Below w.heap.size w (w6.setRow (w.heap.size + 2) (Ln.cells Ln.zeroM (.slice none 0 0))) := Ln.below_setRow HB06.out (by omega) _
    generalize w6.setRow (w.heap.size + 2) (Ln.cells Ln.zeroM (.slice none 0 0)) = w8 at hrow hbr ⊢
    obtain ⟨o0, o1, o2, o3, o4, o5, o6, o7⟩ := Ln.cells8o hrow
    refine bodyPost_ret (v := .tuple #[.agg (Ln.cells Ln.zeroM (.slice none 0 0)), .bool false]) (by simp [results, Try.results63, go_sem, asAddr, o0, o1, o2, o3, o4, o5, o6, o7]; rfl) rfl ⟨hbr, rfl⟩
  | true =>
    rw [if_pos rfl]
    have HU := Lib.hid hu
    clear hu
    go_enter Try.func63, Try.ntmps63
    unfold Ln.cells
    go_wp2_with fail
    generalize hw5 : (((w.alloc (Obj.cells #[Value.int IntKind.i64 m.base, Value.int IntKind.i64 m.first, Value.int IntKind.i64 m.durable, Value.int IntKind.i64 m.next, Value.int IntKind.i64 m.limit, Value.slice A m.recs.length cp, Value.bool m.failed, Value.bool m.closed] 71)).alloc (Obj.cells #[Value.int IntKind.i64 c.kind, Value.int IntKind.i64 c.lsn, cd] 62)).alloc (Obj.cells #[Value.int IntKind.i64 0, Value.int IntKind.i64 0, Value.int IntKind.i64 0, Value.int IntKind.i64 0, Value.int IntKind.i64 0, Value.slice none 0 0, Value.bool false, Value.bool false] 71)) = w5
    obtain ⟨hb5, hz5, hm5, hc5, ho5⟩ := Ln.made3' hw5
    have HB5 := Lib.hid hb5
    clear hw5
    have hcd5 := HC.out.keep hb5
    have hus := used_any c cd w5 hcd5
    rw [HU.out] at hus
    refine hus.mono ?_
    rintro e w6 ⟨rfl, hb6⟩
    have hb06 := hb5.trans (hb6.mono (by omega))
    have hm6 := Qu.blk_below hm5 hb6
    have hc6 := Qu.blk_below hc5 hb6
    skip
    have ho6 := Qu.blk_below ho5 hb6
    have hz6 := hb6.size
    rw [hz5] at hz6
    have HB06 := Lib.hid hb06
    have HM6 := Lib.hid hm6
    have HC6 := Lib.hid hc6
    skip
    have HO6 := Lib.hid ho6
    clear hb5 hm5 hc5 ho5 hb6 hb06 hm6 hc6 ho6 hcd5
    have hch := change_hf (.agg (Ln.cells m (.slice A m.recs.length cp))) m w6 (w.heap.size + 1) ⟨_, rfl, HREC.out.below HB06.out⟩ HW.out HD.out (Ln.insideH m c) (fun w7 sb hs hz hb => hf_any (w6.heap.size + 3) sb (w.heap.size + 1) c cd m w7 hs hz (HC.out.keep (HB06.out.trans (hb.mono HB06.out.size))) (Qu.blk_below HC6.out hb) HW.out)
    cases ho : Ln.insideH m c with
    | none =>
      rw [ho] at hch
      have HCH := Lib.hid hch
      have HOO := Lib.hid ho
      clear hch ho
      go_wp2_with (refine wpList_load_row rfl 71 (.tmp 2) rfl w.heap.size rfl 71 #[Value.int IntKind.i64 m.base, Value.int IntKind.i64 m.first, Value.int IntKind.i64 m.durable, Value.int IntKind.i64 m.next, Value.int IntKind.i64 m.limit, Value.slice A m.recs.length cp, Value.bool m.failed, Value.bool m.closed] (0, 0) _ HM6.out Try.underlying71 rfl Try.size71 ?_)
      refine HCH.out.mono ?_
      rintro e w8 ⟨hb8, rfl⟩
      have ho8 := Qu.blk_below HO6.out hb8
      have hb08 : Below w.heap.size w w8 := HB06.out.trans (hb8.mono HB06.out.size)
      have HO8 := Lib.hid ho8
      have HB08 := Lib.hid hb08
      clear hb8 ho8 hb08
      go_wp2_with (refine wpList_store_row rfl 71 (.tmp 4) (.tmp 13) rfl (w.heap.size + 2) (Ln.cells Ln.zeroM (.slice none 0 0)) rfl rfl 71 (Ln.cells Ln.zeroM (.slice none 0 0)) HO8.out Try.size71 rfl (Ln.cells_one _ _ _ _) ?_)
      have hrow := setRow_heap w8 (w.heap.size + 2) _ (Ln.cells Ln.zeroM (.slice none 0 0)) 71 (0, 0) HO8.out
      have hbr : Below w.heap.size w (w8.setRow (w.heap.size + 2) (Ln.cells Ln.zeroM (.slice none 0 0))) := Ln.below_setRow HB08.out (by omega) _
      generalize w8.setRow (w.heap.size + 2) (Ln.cells Ln.zeroM (.slice none 0 0)) = w9 at hrow hbr ⊢
      obtain ⟨o0, o1, o2, o3, o4, o5, o6, o7⟩ := Ln.cells8o hrow
      refine bodyPost_ret (v := .tuple #[.agg (Ln.cells Ln.zeroM (.slice none 0 0)), .bool false]) (by simp [results, Try.results63, go_sem, asAddr, o0, o1, o2, o3, o4, o5, o6, o7]; rfl) rfl ⟨hbr, by rw [HOO.out]⟩
    | some t =>
      rw [ho] at hch
      have HCH := Lib.hid hch
      have HOO := Lib.hid ho
      clear hch ho
      go_wp2_with (refine wpList_load_row rfl 71 (.tmp 2) rfl w.heap.size rfl 71 #[Value.int IntKind.i64 m.base, Value.int IntKind.i64 m.first, Value.int IntKind.i64 m.durable, Value.int IntKind.i64 m.next, Value.int IntKind.i64 m.limit, Value.slice A m.recs.length cp, Value.bool m.failed, Value.bool m.closed] (0, 0) _ HM6.out Try.underlying71 rfl Try.size71 ?_)
      refine HCH.out.mono ?_
      rintro e w8 ⟨hb8, _, rfl, rv8, rfl, hrec8⟩
      obtain ⟨A8, cp8, rfl⟩ := hrec8.slice
      have ho8 := Qu.blk_below HO6.out hb8
      have hb08 : Below w.heap.size w w8 := HB06.out.trans (hb8.mono HB06.out.size)
      have HO8 := Lib.hid ho8
      have HB08 := Lib.hid hb08
      have HREC8 := Lib.hid hrec8
      clear hb8 ho8 hb08 hrec8
      go_wp2_with (refine wpList_store_row rfl 71 (.tmp 4) (.tmp 13) rfl (w.heap.size + 2) (Ln.cells t (.slice A8 t.recs.length cp8)) rfl rfl 71 (Ln.cells Ln.zeroM (.slice none 0 0)) HO8.out Try.size71 rfl (Ln.cells_one _ _ _ _) ?_)
      have hrow := setRow_heap w8 (w.heap.size + 2) _ (Ln.cells t (.slice A8 t.recs.length cp8)) 71 (0, 0) HO8.out
      have hbr : Below w.heap.size w (w8.setRow (w.heap.size + 2) (Ln.cells t (.slice A8 t.recs.length cp8))) := Ln.below_setRow HB08.out (by omega) _
      have hrr : Ln.Recs 0 (w8.setRow (w.heap.size + 2) (Ln.cells t (.slice A8 t.recs.length cp8))) (.slice A8 t.recs.length cp8) t.recs := HREC8.out.row HO8.out (by decide) (by decide) _
      generalize w8.setRow (w.heap.size + 2) (Ln.cells t (.slice A8 t.recs.length cp8)) = w9 at hrow hbr hrr ⊢
      obtain ⟨o0, o1, o2, o3, o4, o5, o6, o7⟩ := Ln.cells8o hrow
      refine bodyPost_ret (v := .tuple #[.agg (Ln.cells t (.slice A8 t.recs.length cp8)), .bool true]) (by simp [results, Try.results63, go_sem, asAddr, o0, o1, o2, o3, o4, o5, o6, o7]; rfl) rfl ⟨hbr, by rw [HOO.out]; exact ⟨_, rfl, _, rfl, hrr⟩⟩

end Go.Proofs.Ytgdeoodihhcdjaa
