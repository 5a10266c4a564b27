/- Pasts in memory; the contracts of ahead and step. -/
import Derived.Test.YtgdeoodihhcdjaaMt
namespace Go.Proofs.Ytgdeoodihhcdjaa
open Go.RowKit
set_option linter.unusedVariables false
set_option linter.unusedSimpArgs false


set_option maxHeartbeats 1000000 in
theorem ahead_any (a b : Ln.Past) (cd rd cd2 rd2 : Value) (w : World) :
    Calls Try.prog 52 #[.agg #[.int .i64 a.call.kind, .int .i64 a.call.lsn, cd, .int .i64 a.res.err, .int .i64 a.res.lsn, rd, .int .i64 a.beg, .int .i64 a.fin], .agg #[.int .i64 b.call.kind, .int .i64 b.call.lsn, cd2, .int .i64 b.res.err, .int .i64 b.res.lsn, rd2, .int .i64 b.beg, .int .i64 b.fin]] w fun e w' => e = .returned (.bool (Ln.aheadF a b)) ∧ Below w.heap.size w w' := by
  obtain ⟨⟨ck, cl, cda⟩, ⟨er, rl, rda⟩, bg, fn⟩ := a
  obtain ⟨⟨ck2, cl2, cdb⟩, ⟨er2, rl2, rdb⟩, bg2, fn2⟩ := b
  unfold Ln.aheadF
  dsimp only
  by_cases h : fn = 0
  · subst h
    rw [show decide ((0 : Int) ≠ 0 ∧ (0 : Int) < bg2) = false from by simp]
    go_enter Try.func52, Try.ntmps52
    go_wp2
    go_ret
    exact ⟨rfl, (Ln.below_alloc _ w (Nat.le_refl _) _).alloc (by simp) _⟩
  · have e : (fn != 0) = true := bne_iff_ne.2 h
    by_cases g : fn < bg2
    · rw [show decide (fn ≠ 0 ∧ fn < bg2) = true from by simp [h, g]]
      have e2 : decide (fn < bg2) = true := decide_eq_true g
      clear h
      go_enter Try.func52, Try.ntmps52
      go_wp2
      go_ret
      exact ⟨by simp, (Ln.below_alloc _ w (Nat.le_refl _) _).alloc (by simp) _⟩
    · rw [show decide (fn ≠ 0 ∧ fn < bg2) = false from by simp [g]]
      have e2 : decide (fn < bg2) = false := decide_eq_false g
      have g' : bg2 ≤ fn := by omega
      clear h g
      go_enter Try.func52, Try.ntmps52
      go_wp2
      go_ret
      exact ⟨by simp, (Ln.below_alloc _ w (Nat.le_refl _) _).alloc (by simp) _⟩


set_option maxHeartbeats 2000000 in
set_option maxRecDepth 100000 in
theorem step_any (mv : Value) (m : Ln.Mod) (p : Ln.Past) (cd rd : Value) (w : World) (hm : Ln.ModAt w mv m) (hw : Ln.WF m) (hd : ∀ r ∈ m.recs, r.length ≤ 4096) (hc : Ln.Rd w cd (Ln.u8s p.call.data)) (hr : Ln.Rd w rd (Ln.u8s p.res.data)) :
    Calls Try.prog 53 #[mv, .agg #[.int .i64 p.call.kind, .int .i64 p.call.lsn, cd, .int .i64 p.res.err, .int .i64 p.res.lsn, rd, .int .i64 p.beg, .int .i64 p.fin]] w (Ln.Got w (Ln.stepF m p)) := by
  obtain ⟨rv, rfl, hrec⟩ := hm
  obtain ⟨A, cp, rfl⟩ := hrec.slice
  have hnew := fun (w5 : World) (hb : Below w.heap.size w w5) => half_any (.agg (Ln.cells m (.slice A m.recs.length cp))) m p.call cd w5 ⟨_, rfl, hrec.below hb⟩ hw hd (hc.keep hb)
  have happ := fun (w5 : World) (hb : Below w.heap.size w w5) => apply_any (.agg (Ln.cells m (.slice A m.recs.length cp))) m p.call p.res cd rd w5 ⟨_, rfl, hrec.below hb⟩ hw hd (hc.keep hb) (hr.keep hb)
  have HREC := Lib.hid hrec
  have HH := Lib.hid hnew
  have HA := Lib.hid happ
  clear hrec hd hw hc hr hnew happ
  unfold Ln.stepF
  by_cases hf : p.fin = 0
  · rw [if_pos hf]
    have ef : (p.fin == 0) = true := beq_iff_eq.2 hf
    clear hf
    cases ho : Ln.halfF m p.call with
    | none =>
      have hch := fun w5 hb => HH.out w5 hb
      rw [ho] at hch
      have HCH := Lib.hid hch
      clear hch ho
      go_enter Try.func53, Try.ntmps53
      unfold Ln.cells
      go_wp2_with fail
      generalize hw5 : (((w.alloc (Obj.cells #[Value.int IntKind.i64 m.base, Value.int IntKind.i64 m.first, Value.int IntKind.i64 m.durable, Value.int IntKind.i64 m.next, Value.int IntKind.i64 m.limit, Value.slice A m.recs.length cp, Value.bool m.failed, Value.bool m.closed] 71)).alloc (Obj.cells #[Value.int IntKind.i64 p.call.kind, Value.int IntKind.i64 p.call.lsn, cd, Value.int IntKind.i64 p.res.err, Value.int IntKind.i64 p.res.lsn, rd, Value.int IntKind.i64 p.beg, Value.int IntKind.i64 p.fin] 66)).alloc (Obj.cells #[Value.int IntKind.i64 0, Value.int IntKind.i64 0, Value.int IntKind.i64 0, Value.int IntKind.i64 0, Value.int IntKind.i64 0, Value.slice none 0 0, Value.bool false, Value.bool false] 71)) = w5
      obtain ⟨hb5, hz5, hm5, hp5, ho5⟩ := Ln.made3' hw5
      have HB5 := Lib.hid hb5
      have HO5 := Lib.hid ho5
      clear hw5 hm5 hp5 ho5 hb5
      refine (HCH.out _ HB5.out).mono ?_
      rintro e w8 ⟨hb8, rfl⟩
      have HO8 := Lib.hid (Qu.blk_below HO5.out hb8)
      have HB08 := Lib.hid (HB5.out.trans (hb8.mono HB5.out.size))
      clear hb8
      go_wp2_with (refine wpList_store_row rfl 71 (.tmp 4) (.tmp 13) rfl (w.heap.size + 2) (Ln.cells Ln.zeroM (.slice none 0 0)) rfl rfl 71 (Ln.cells Ln.zeroM (.slice none 0 0)) HO8.out Try.size71 rfl (Ln.cells_one _ _ _ _) ?_)
      have hrow := setRow_heap w8 (w.heap.size + 2) _ (Ln.cells Ln.zeroM (.slice none 0 0)) 71 (0, 0) HO8.out
      have hbr : Below w.heap.size w (w8.setRow (w.heap.size + 2) (Ln.cells Ln.zeroM (.slice none 0 0))) := Ln.below_setRow HB08.out (by omega) _
      generalize w8.setRow (w.heap.size + 2) (Ln.cells Ln.zeroM (.slice none 0 0)) = w9 at hrow hbr ⊢
      obtain ⟨o0, o1, o2, o3, o4, o5, o6, o7⟩ := Ln.cells8o hrow
      refine bodyPost_ret (v := .tuple #[.agg (Ln.cells Ln.zeroM (.slice none 0 0)), .bool false]) (by simp [results, Try.results53, go_sem, asAddr, o0, o1, o2, o3, o4, o5, o6, o7]; rfl) rfl ⟨hbr, rfl⟩
    | some t =>
      have hch := fun w5 hb => HH.out w5 hb
      rw [ho] at hch
      have HCH := Lib.hid hch
      clear hch ho
      go_enter Try.func53, Try.ntmps53
      unfold Ln.cells
      go_wp2_with fail
      generalize hw5 : (((w.alloc (Obj.cells #[Value.int IntKind.i64 m.base, Value.int IntKind.i64 m.first, Value.int IntKind.i64 m.durable, Value.int IntKind.i64 m.next, Value.int IntKind.i64 m.limit, Value.slice A m.recs.length cp, Value.bool m.failed, Value.bool m.closed] 71)).alloc (Obj.cells #[Value.int IntKind.i64 p.call.kind, Value.int IntKind.i64 p.call.lsn, cd, Value.int IntKind.i64 p.res.err, Value.int IntKind.i64 p.res.lsn, rd, Value.int IntKind.i64 p.beg, Value.int IntKind.i64 p.fin] 66)).alloc (Obj.cells #[Value.int IntKind.i64 0, Value.int IntKind.i64 0, Value.int IntKind.i64 0, Value.int IntKind.i64 0, Value.int IntKind.i64 0, Value.slice none 0 0, Value.bool false, Value.bool false] 71)) = w5
      obtain ⟨hb5, hz5, hm5, hp5, ho5⟩ := Ln.made3' hw5
      have HB5 := Lib.hid hb5
      have HO5 := Lib.hid ho5
      clear hw5 hm5 hp5 ho5 hb5
      refine (HCH.out _ HB5.out).mono ?_
      rintro e w8 ⟨hb8, _, rfl, rv8, rfl, hrec8⟩
      obtain ⟨A8, cp8, rfl⟩ := hrec8.slice
      have HO8 := Lib.hid (Qu.blk_below HO5.out hb8)
      have HB08 := Lib.hid (HB5.out.trans (hb8.mono HB5.out.size))
      have HREC8 := Lib.hid hrec8
      clear hb8 hrec8
      go_wp2_with (refine wpList_store_row rfl 71 (.tmp 4) (.tmp 13) rfl (w.heap.size + 2) (Ln.cells t (.slice A8 t.recs.length cp8)) rfl rfl 71 (Ln.cells Ln.zeroM (.slice none 0 0)) HO8.out Try.size71 rfl (Ln.cells_one _ _ _ _) ?_)
      have hrow := setRow_heap w8 (w.heap.size + 2) _ (Ln.cells t (.slice A8 t.recs.length cp8)) 71 (0, 0) HO8.out
      have hbr : Below w.heap.size w (w8.setRow (w.heap.size + 2) (Ln.cells t (.slice A8 t.recs.length cp8))) := Ln.below_setRow HB08.out (by omega) _
      have hrr : Ln.Recs 0 (w8.setRow (w.heap.size + 2) (Ln.cells t (.slice A8 t.recs.length cp8))) (.slice A8 t.recs.length cp8) t.recs := HREC8.out.row HO8.out (by decide) (by decide) _
      generalize w8.setRow (w.heap.size + 2) (Ln.cells t (.slice A8 t.recs.length cp8)) = w9 at hrow hbr hrr ⊢
      obtain ⟨o0, o1, o2, o3, o4, o5, o6, o7⟩ := Ln.cells8o hrow
      refine bodyPost_ret (v := .tuple #[.agg (Ln.cells t (.slice A8 t.recs.length cp8)), .bool true]) (by simp [results, Try.results53, go_sem, asAddr, o0, o1, o2, o3, o4, o5, o6, o7]; rfl) rfl ⟨hbr, _, rfl, _, rfl, hrr⟩
  · rw [if_neg hf]
    have ef : (p.fin == 0) = false := beq_eq_false_iff_ne.2 hf
    clear hf
    cases ho : Ln.applyF m p.call p.res with
    | none =>
      have hch := fun w5 hb => HA.out w5 hb
      rw [ho] at hch
      have HCH := Lib.hid hch
      clear hch ho
      go_enter Try.func53, Try.ntmps53
      unfold Ln.cells
      go_wp2_with fail
      generalize hw5 : (((w.alloc (Obj.cells #[Value.int IntKind.i64 m.base, Value.int IntKind.i64 m.first, Value.int IntKind.i64 m.durable, Value.int IntKind.i64 m.next, Value.int IntKind.i64 m.limit, Value.slice A m.recs.length cp, Value.bool m.failed, Value.bool m.closed] 71)).alloc (Obj.cells #[Value.int IntKind.i64 p.call.kind, Value.int IntKind.i64 p.call.lsn, cd, Value.int IntKind.i64 p.res.err, Value.int IntKind.i64 p.res.lsn, rd, Value.int IntKind.i64 p.beg, Value.int IntKind.i64 p.fin] 66)).alloc (Obj.cells #[Value.int IntKind.i64 0, Value.int IntKind.i64 0, Value.int IntKind.i64 0, Value.int IntKind.i64 0, Value.int IntKind.i64 0, Value.slice none 0 0, Value.bool false, Value.bool false] 71)) = w5
      obtain ⟨hb5, hz5, hm5, hp5, ho5⟩ := Ln.made3' hw5
      have HB5 := Lib.hid hb5
      have HO5 := Lib.hid ho5
      clear hw5 hm5 hp5 ho5 hb5
      refine (HCH.out _ HB5.out).mono ?_
      rintro e w8 ⟨hb8, rfl⟩
      have HO8 := Lib.hid (Qu.blk_below HO5.out hb8)
      have HB08 := Lib.hid (HB5.out.trans (hb8.mono HB5.out.size))
      clear hb8
      go_wp2_with (refine wpList_store_row rfl 71 (.tmp 4) (.tmp 21) rfl (w.heap.size + 2) (Ln.cells Ln.zeroM (.slice none 0 0)) rfl rfl 71 (Ln.cells Ln.zeroM (.slice none 0 0)) HO8.out Try.size71 rfl (Ln.cells_one _ _ _ _) ?_)
      have hrow := setRow_heap w8 (w.heap.size + 2) _ (Ln.cells Ln.zeroM (.slice none 0 0)) 71 (0, 0) HO8.out
      have hbr : Below w.heap.size w (w8.setRow (w.heap.size + 2) (Ln.cells Ln.zeroM (.slice none 0 0))) := Ln.below_setRow HB08.out (by omega) _
      generalize w8.setRow (w.heap.size + 2) (Ln.cells Ln.zeroM (.slice none 0 0)) = w9 at hrow hbr ⊢
      obtain ⟨o0, o1, o2, o3, o4, o5, o6, o7⟩ := Ln.cells8o hrow
      refine bodyPost_ret (v := .tuple #[.agg (Ln.cells Ln.zeroM (.slice none 0 0)), .bool false]) (by simp [results, Try.results53, go_sem, asAddr, o0, o1, o2, o3, o4, o5, o6, o7]; rfl) rfl ⟨hbr, rfl⟩
    | some t =>
      have hch := fun w5 hb => HA.out w5 hb
      rw [ho] at hch
      have HCH := Lib.hid hch
      clear hch ho
      go_enter Try.func53, Try.ntmps53
      unfold Ln.cells
      go_wp2_with fail
      generalize hw5 : (((w.alloc (Obj.cells #[Value.int IntKind.i64 m.base, Value.int IntKind.i64 m.first, Value.int IntKind.i64 m.durable, Value.int IntKind.i64 m.next, Value.int IntKind.i64 m.limit, Value.slice A m.recs.length cp, Value.bool m.failed, Value.bool m.closed] 71)).alloc (Obj.cells #[Value.int IntKind.i64 p.call.kind, Value.int IntKind.i64 p.call.lsn, cd, Value.int IntKind.i64 p.res.err, Value.int IntKind.i64 p.res.lsn, rd, Value.int IntKind.i64 p.beg, Value.int IntKind.i64 p.fin] 66)).alloc (Obj.cells #[Value.int IntKind.i64 0, Value.int IntKind.i64 0, Value.int IntKind.i64 0, Value.int IntKind.i64 0, Value.int IntKind.i64 0, Value.slice none 0 0, Value.bool false, Value.bool false] 71)) = w5
      obtain ⟨hb5, hz5, hm5, hp5, ho5⟩ := Ln.made3' hw5
      have HB5 := Lib.hid hb5
      have HO5 := Lib.hid ho5
      clear hw5 hm5 hp5 ho5 hb5
      refine (HCH.out _ HB5.out).mono ?_
      rintro e w8 ⟨hb8, _, rfl, rv8, rfl, hrec8⟩
      obtain ⟨A8, cp8, rfl⟩ := hrec8.slice
      have HO8 := Lib.hid (Qu.blk_below HO5.out hb8)
      have HB08 := Lib.hid (HB5.out.trans (hb8.mono HB5.out.size))
      have HREC8 := Lib.hid hrec8
      clear hb8 hrec8
      go_wp2_with (refine wpList_store_row rfl 71 (.tmp 4) (.tmp 21) rfl (w.heap.size + 2) (Ln.cells t (.slice A8 t.recs.length cp8)) rfl rfl 71 (Ln.cells Ln.zeroM (.slice none 0 0)) HO8.out Try.size71 rfl (Ln.cells_one _ _ _ _) ?_)
      have hrow := setRow_heap w8 (w.heap.size + 2) _ (Ln.cells t (.slice A8 t.recs.length cp8)) 71 (0, 0) HO8.out
      have hbr : Below w.heap.size w (w8.setRow (w.heap.size + 2) (Ln.cells t (.slice A8 t.recs.length cp8))) := Ln.below_setRow HB08.out (by omega) _
      have hrr : Ln.Recs 0 (w8.setRow (w.heap.size + 2) (Ln.cells t (.slice A8 t.recs.length cp8))) (.slice A8 t.recs.length cp8) t.recs := HREC8.out.row HO8.out (by decide) (by decide) _
      generalize w8.setRow (w.heap.size + 2) (Ln.cells t (.slice A8 t.recs.length cp8)) = w9 at hrow hbr hrr ⊢
      obtain ⟨o0, o1, o2, o3, o4, o5, o6, o7⟩ := Ln.cells8o hrow
      refine bodyPost_ret (v := .tuple #[.agg (Ln.cells t (.slice A8 t.recs.length cp8)), .bool true]) (by simp [results, Try.results53, go_sem, asAddr, o0, o1, o2, o3, o4, o5, o6, o7]; rfl) rfl ⟨hbr, _, rfl, _, rfl, hrr⟩

end Go.Proofs.Ytgdeoodihhcdjaa
