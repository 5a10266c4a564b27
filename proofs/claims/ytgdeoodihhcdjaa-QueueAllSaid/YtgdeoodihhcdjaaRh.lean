/- Clear. -/
import Derived.Test.YtgdeoodihhcdjaaRg
namespace Go.Proofs.Ytgdeoodihhcdjaa
open Go.RowKit Go.ChangeMaps
set_option linter.unusedVariables false
set_option linter.unusedSimpArgs false

theorem Qu.step_wanted {P : Program} {ops : Array Oper} {o : Oper} {a : Act} {w : World} {K : Act → World → Prop} {Q : Exit → Act → World → Prop} {E : Prop} (hgd : o.guard = none) (h : Oper.wp P o a w K Q) :
    if Region.wanted o (yielded ops a.tmps) = true then Oper.wp P o a w K Q else E := by
  have hw : Region.wanted o (yielded ops a.tmps) = true := by simp [Region.wanted, hgd]
  rw [if_pos hw]
  exact h
/-- A map that is emptied. -/
theorem Qu.run_clear_map {P : Program} {kt et t ty : TypeId} {w : World} {mb : Nat} {es : Array MapEntry} {clock : Nat} (ht : P.underlying t = some (.map kt et)) (hb : w.heap[mb]? = some (.map es clock)) :
    (Builtin.clear_ #[t] ty #[.map (some mb)]).run P w = .ok (.tuple #[]) (setBlock w mb (.map #[] clock)) := by
  simp [Builtin.clear_, run_underlying ht, MapKept.run_getObj_map hb, MapKept.run_setObj_map _ hb, Result.andThen, setBlock]
theorem Qu.wpList_clear_map {P : Program} (w : World) {ops : Array Oper} {rest : List Oper} {o : Oper} {a : Act} {Q : Exit → Act → World → Prop} (hgd : o.guard = none) (x : Operand) (t : TypeId)
    (ho : o.op = .call { callee := .builtin .clear, args := #[x], argTypes := #[t] }) {kt et : TypeId} (ht : P.underlying t = some (.map kt et)) (mb : Nat) (es : Array MapEntry) (clock : Nat)
    (hx : a.eval x = .map (some mb)) (hb : w.heap[mb]? = some (.map es clock))
    (h : wpList P ops Q rest (a.put o.dst (.tuple #[])) (setBlock w mb (.map #[] clock))) : wpList P ops Q (o :: rest) a w := by
  refine wpList_plain hgd fun K hK => ?_
  have hrun := Qu.run_clear_map (P := P) (ty := o.type) ht hb
  unfold Oper.wp
  simp [execOp, ho, resolve, invoke, builtin, hx, hrun, Result.andThen]
  exact hK _ _ h
theorem Qu.keys_cleared {w : World} {mb clock : Nat} {es : Array MapEntry} (hb : w.heap[mb]? = some (.map es clock)) : Qu.Keys (setBlock w mb (.map #[] clock)) mb [] :=
  ⟨.map [], ⟨#[], clock, (heap_setBlock_same hb _), ⟨by simp, MapKept.stamped_empty clock, by simp⟩, Nat.le_refl _, rfl⟩, rfl, fun x => rfl⟩

theorem Qu.clear_end {w wr : World} {sb mb c n : Nat} {b : Int} {a2 a3 a4 a5 a6 l : Value} {vs : List Value} {ids : List Int} (hblk : w.heap[sb]? = some (.cells #[.int .i64 c, .int .i64 b, a2, a3, a4, a5, a6, .map (some mb)] 81 (0, 0))) (hb : Below w.heap.size w wr) (hk : Qu.Keys w mb ids) (hown : wr.ownsRow w.heap.size 2 1 l n vs) {es : Array MapEntry} {clock : Nat}
    {W : World} (hW : W = ((((wr.setCell ⟨sb, 3, none⟩ (.slice none 0 0)).setCell ⟨sb, 4, none⟩ (.int .i64 0)).setCell ⟨sb, 5, none⟩ (.int .i64 0)).setCell ⟨sb, 6, none⟩ (.slice none 0 0)).setCell ⟨sb, 2, none⟩ (.int .i64 0)) (hm : W.heap[mb]? = some (.map es clock)) :
    (setBlock W mb (.map #[] clock)).ownsRow w.heap.size 2 1 l n vs ∧ Qu.At (setBlock W mb (.map #[] clock)) sb c b 0 [] [] (.map (some mb)) none none ∧ Qu.Keys (setBlock W mb (.map #[] clock)) mb [] ∧ Qu.Fr (fun i => i = sb ∨ i = mb) w (setBlock W mb (.map #[] clock)) := by
  have hblk1 := Qu.blk_below hblk hb
  have hlt := Qu.blk_lt hblk
  have hne := hk.ne hblk
  have hblk2 := Qu.blk_set (Qu.blk_set (Qu.blk_set (Qu.blk_set (Qu.blk_set hblk1 3 (.slice none 0 0)) 4 (.int .i64 0)) 5 (.int .i64 0)) 6 (.slice none 0 0)) 2 (.int .i64 0)
  simp only [List.setIfInBounds_toArray, List.set_cons_succ, List.set_cons_zero] at hblk2
  rw [← hW] at hblk2
  have hf : Qu.Fr (fun i => i = sb) wr W := by
    rw [hW]
    exact (((((Qu.Fr.refl (fun i => i = sb) wr).setCell (p := ⟨sb, 3, none⟩) (fun _ => rfl) _).setCell (p := ⟨sb, 4, none⟩) (fun _ => rfl) _).setCell (p := ⟨sb, 5, none⟩) (fun _ => rfl) _).setCell (p := ⟨sb, 6, none⟩) (fun _ => rfl) _).setCell (p := ⟨sb, 2, none⟩) (fun _ => rfl) _
  have hf2 : Qu.Fr (fun i => i = sb ∨ i = mb) wr (setBlock W mb (.map #[] clock)) := by
    exact (hf.mono (S' := fun i => i = sb ∨ i = mb) (fun k _ h => .inl h)).trans (S1 := fun i => i = mb) (w2 := setBlock W mb (.map #[] clock)) ⟨rfl, rfl, rfl, by simp [setBlock], fun k _ hk => heap_setBlock_other hm _ hk⟩ (fun i _ h => .inr h)
  refine ⟨?_, ⟨.slice none 0 0, 0, .slice none 0 0, ?_, .inl ⟨rfl, rfl, rfl, rfl⟩, .inl ⟨rfl, rfl, rfl⟩, (fun i h => by cases h)⟩, Qu.keys_cleared hm, (Qu.Fr.of_below (S := fun i => i = sb ∨ i = mb) hb).trans hf2 (fun i _ h => h)⟩
  · refine Qu.own_fr hown hf2 (fun i hi h => ?_)
    rcases h with rfl | rfl
    · exact Qu.own_ne hown hblk1 (by decide) hi.symm
    · obtain ⟨es', cl', h'⟩ := hk.blk
      have h2 : wr.heap[i]? = some (.map es' cl') := (hb.block i (hk.lt)).trans h'
      rcases hown.2 with ⟨rfl, _⟩ | ⟨g, cap, cur, rfl, _, hg, _⟩
      · simp [Value.ownBlock] at hi
      · simp [Value.ownBlock] at hi
        subst hi
        rw [h2] at hg; cases hg
  · exact (heap_setBlock_other hm _ hne).trans hblk2

structure Qu.PClearRel (w : World) (base : Nat) (zs : List (Int × Int)) (all : Value) (gk : Nat) (l s19 : Value) (wr : World) : Prop where
  mk :: (out : ∃ t : Nat, t ≤ zs.length ∧ gk = zs.length - t ∧ s19 = .int .i64 t ∧ wr.ownsRow base 38 2 all zs.length (Qu.enc zs) ∧ wr.ownsRow base 2 1 l t (Qu.ints ((zs.take t).map Prod.fst)) ∧ Below base w wr)

set_option maxHeartbeats 1000000 in
set_option maxRecDepth 100000 in
theorem clear_any (sb c : Nat) (b u : Int) (xs ys : List (Int × Int)) (mb : Nat) (R LB : Option Nat) (w : World) (hc0 : 0 < c) (hat : Qu.At w sb c b u xs ys (.map (some mb)) R LB) (hk : Qu.Keys w mb ((xs ++ ys).map Prod.fst)) (hx : xs.length ≤ 2000) (hy : ys.length ≤ 2000) :
    Calls Try.prog 21 #[.pointer (some ⟨sb, 0, none⟩)] w fun e w' => ∃ v, e = .returned v ∧ w'.ownsRow w.heap.size 2 1 v (xs ++ ys).length (Qu.ints ((xs ++ ys).map Prod.fst)) ∧ Qu.At w' sb c b 0 [] [] (.map (some mb)) none none ∧ Qu.Keys w' mb [] ∧ Qu.Fr (fun i => i = sb ∨ i = mb) w w' := by
  obtain ⟨L, k, LV, hblk, hr, hl, hne⟩ := hat
  obtain ⟨c0, c1, c2, c3, c4, c5, c6, c7⟩ := Qu.cells8 hblk
  have hsb := Qu.blk_lt hblk
  have hmne := hk.ne hblk
  have HALL := Lib.hid (ring_all_any sb L k xs R _ _ _ _ _ w.drew (by omega) hblk hr)
  obtain ⟨A2, cp2, rfl⟩ := hl.slice
  have HL := Lib.hid hl
  have HBLK := Lib.hid hblk
  have HK := Lib.hid hk
  obtain ⟨zs, hzs⟩ : ∃ zs, xs ++ ys = zs := ⟨_, rfl⟩
  have hzl : zs.length ≤ 4000 := by rw [← hzs, List.length_append]; omega
  rw [hzs]
  have HZS := Lib.hid hzs
  clear hblk hr hl hne hk hzs c1 c2 c3 c4 c5 c7
  go_enter Try.func21, Try.ntmps21
  go_upto_region 4 with (go_at_call 32; refine (there_some' sb c _ c0 (by omega)).mono ?_; rintro e w1 ⟨rfl, rfl⟩)
  go_cut [17, 18, 19] (fun v n z wx => n = .int .i64 zs.length ∧ z = .int .i64 0 ∧ wx.ownsRow w.heap.size 38 2 v zs.length (Qu.enc zs) ∧ Below w.heap.size w wx)
  case first =>
    go_region_law (first
      | (refine Qu.step_append_own_line rfl (.tmp 12) (.tmp 16) 31 rfl Try.underlying31 Try.info38 w.heap.size HB1.out.size _ xs ys _ LB rfl rfl HOWN1.out (HL.out.keep (fun i hi => HB1.out.block i (HL.out.lt i hi))) (by omega) ?_; intro v2 w2 hown2 hg2; obtain ⟨A', cp', rfl⟩ := Qu.own_slice hown2)
      | (refine Qu.step_wanted rfl ?_; go_simp; go_at_call 47; refine HALL.out.mono ?_; rintro e w1 ⟨v, rfl, hown1, hb1⟩; obtain ⟨A, cp, rfl⟩ := Qu.own_slice hown1; have d6 := (Qu.cells8 (Qu.blk_below (w := { w with drawn := w.drawn + 1 }) HBLK.out hb1)).2.2.2.2.2.2.1; have HOWN1 := Lib.hid hown1; have HB1 := Lib.hid hb1; clear hown1 hb1))
    all_goals
      go_wp2_with fail
      go_meet
      rw [← HZS.out, List.length_append]
      exact ⟨by simp, rfl, hown2, ⟨HB1.out.os, HB1.out.tape, HB1.out.output, HB1.out.size, HB1.out.block⟩ |> fun (h : Below w.heap.size w w1) => h.grown (row := (Value.slice A xs.length cp).ownBlock) hg2 h.size (fun k hk => HOWN1.out.lt k hk |>.1)⟩
  case rest =>
    obtain ⟨rfl, rfl, hown, hb⟩ := hcut
    obtain ⟨A, cp, rfl⟩ := Qu.own_slice hown
    have HOWN := Lib.hid hown
    have HB := Lib.hid hb
    clear hown hb c0 c6
    go_wp2
    go_loopg [3, 19] zs.length (fun gk l s19 wr => Qu.PClearRel w w.heap.size zs (.slice A zs.length cp) gk l s19 wr)
    case atStart => exact ⟨0, by omega, by omega, rfl, HOWN.out, World.ownsRow_nil _ _ _ _, HB.out⟩
    case round =>
      obtain ⟨t, ht, rfl, rfl, hall, hl, hb⟩ := hrel.out
      clear hrel
      have HALLR := Lib.hid hall
      have HLR := Lib.hid hl
      have HBR := Lib.hid hb
      by_cases htl : t < zs.length
      · obtain ⟨g, rfl, x0, x1⟩ := Qu.own_item hall htl
        obtain ⟨s4, hs4⟩ : ∃ s4, (zs.getD t (0, 0)).1 = s4 := ⟨_, rfl⟩
        obtain ⟨s5, hs5⟩ : ∃ s5, (zs.getD t (0, 0)).2 = s5 := ⟨_, rfl⟩
        rw [hs4] at x0
        rw [hs5] at x1
        have hstep : (zs.take (t + 1)).map Prod.fst = (zs.take t).map Prod.fst ++ [s4] := by
          rw [List.take_succ_eq_append_getElem htl, List.map_append, ← hs4, List.getD_eq_getElem?_getD, List.getElem?_eq_getElem htl]
          rfl
        have HST := Lib.hid hstep
        clear hall hl hb hs4 hs5 hstep
        have HBA := HBR.out.alloc HBR.out.size (.cells #[.int .i64 s4, .int .i64 s5] 38 (0, 0))
        have HBA := Lib.hid HBA
        go_wp2_with (at_builtin; refine Qu.append1 _ rfl (.tmp 23) (.tmp 26) 32 rfl w.heap.size 2 _ 1 8 Try.underlying32 Try.info2 rfl (by decide) (by decide) _ t (Qu.ints ((zs.take t).map Prod.fst)) rfl (wr.alloc (.cells #[.int .i64 s4, .int .i64 s5] 38 (0, 0))) #[.int .i64 s4] rfl (HLR.out.alloc _) (by simp; rfl) rfl (by simp [Value.oneCell']) (by omega) HBA.out.size ?_; intro v2 w2 hown2 hgr2)
        go_roundg (zs.length - (t + 1))
        case measure => omega
        case rel => exact ⟨t + 1, by omega, rfl, by go_num, (HALLR.out.alloc _).kept hgr2 (Qu.own_far HALLR.out HLR.out (by decide)), by rw [HST.out]; simpa [Qu.ints] using hown2, HBA.out.grown hgr2 HBA.out.size (fun k hk => (HLR.out.lt k hk).1)⟩
      · have htl2 : t = zs.length := by omega
        have HT := Lib.hid htl2
        have hblk2 := Qu.blk_below HBLK.out hb
        obtain ⟨c0, c1, c2, c3, c4, c5, c6, c7⟩ := Qu.cells8 hblk2
        have f2 := Qu.blk_frozen hblk2 2
        have f3 := Qu.blk_frozen hblk2 3
        have f4 := Qu.blk_frozen hblk2 4
        have f5 := Qu.blk_frozen hblk2 5
        have f6 := Qu.blk_frozen hblk2 6
        have hsb2 := Qu.blk_lt hblk2
        obtain ⟨es, clock, hmb⟩ := HK.out.blk
        have hmb2 := (hb.block mb HK.out.lt).trans hmb
        have HMB := Lib.hid hmb2
        have hns : mb ≠ sb := fun h => hmne h.symm
        have HNS := Lib.hid hns
        clear htl2 hall hl hb hblk2 hmb hmb2 hns hmne ht c0 c1
        go_upto_region 10 with fail
        generalize hW : World.setCell (World.setCell (World.setCell (World.setCell (World.setCell wr ⟨sb, 3, none⟩ (.slice none 0 0)) ⟨sb, 4, none⟩ (.int .i64 0)) ⟨sb, 5, none⟩ (.int .i64 0)) ⟨sb, 6, none⟩ (.slice none 0 0)) ⟨sb, 2, none⟩ (.int .i64 0) = W
        have hWm : W.heap[mb]? = some (.map es clock) := by
          rw [← hW]
          exact (Below.heap_setCell _ _ _ _ HNS.out).trans ((Below.heap_setCell _ _ _ _ HNS.out).trans ((Below.heap_setCell _ _ _ _ HNS.out).trans ((Below.heap_setCell _ _ _ _ HNS.out).trans ((Below.heap_setCell _ _ _ _ HNS.out).trans HMB.out))))
        have hW7 : W.cell? ⟨sb, 7, none⟩ = some (.map (some mb)) := by
          have h := Qu.blk_set (Qu.blk_set (Qu.blk_set (Qu.blk_set (Qu.blk_set (Qu.blk_below HBLK.out HBR.out) 3 (.slice none 0 0)) 4 (.int .i64 0)) 5 (.int .i64 0)) 6 (.slice none 0 0)) 2 (.int .i64 0)
          rw [hW] at h
          exact Qu.blk_cell h 7
        obtain ⟨q1, q2, q3, q4⟩ := Qu.clear_end HBLK.out HBR.out HK.out HLR.out hW.symm hWm
        have HWM := Lib.hid hWm
        have HQ1 := Lib.hid q1
        have HQ2 := Lib.hid q2
        have HQ3 := Lib.hid q3
        have HQ4 := Lib.hid q4
        clear hW hWm c2 c3 c4 c5 c6 c7 f2 f3 f4 f5 f6 q1 q2 q3 q4
        go_wp2_with (refine Qu.wpList_clear_map _ rfl (.tmp 42) 77 rfl Try.underlying77 mb es clock rfl HWM.out ?_)
        go_ret
        refine ⟨_, rfl, ?_, HQ2.out, HQ3.out, HQ4.out⟩
        have q1 := HQ1.out
        have := HT.out
        subst this
        rw [List.take_of_length_le (Nat.le_refl _)] at q1
        exact q1
end Go.Proofs.Ytgdeoodihhcdjaa
