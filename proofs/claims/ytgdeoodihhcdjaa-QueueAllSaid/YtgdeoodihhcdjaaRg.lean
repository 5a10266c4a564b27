/- The reference's Clear. -/
import Derived.Test.YtgdeoodihhcdjaaRf
namespace Go.Proofs.Ytgdeoodihhcdjaa
open Go.RowKit
set_option linter.unusedVariables false
set_option linter.unusedSimpArgs false

theorem Qu.run_append_own_line {P : Program} (w : World) (t ty : TypeId) (ht : P.underlying t = some (.slice 38))
    (hinfo : (P.info? 38).map (fun i => (i.zero, i.size, i.bytes)) = some (some (.agg #[.int .i64 0, .int .i64 0]), 2, 16))
    (base : Nat) (hbase : base ≤ w.heap.size) (v : Value) (xs zs : List (Int × Int)) (hown : w.ownsRow base 38 2 v xs.length (Qu.enc xs)) (V : Value) (LB : Option Nat) (hline : Qu.Line w V zs LB) (hn : xs.length + zs.length ≤ 100000) :
    ∃ v' w', (Builtin.append_ #[t, t] ty #[v, V]).run P w = .ok v' w' ∧ w'.ownsRow base 38 2 v' (xs.length + zs.length) (Qu.enc (xs ++ zs)) ∧ w.grownBy w' v.ownBlock := by
  obtain ⟨i0, hi, hz0, hz1, hz2⟩ := info_parts hinfo
  have henc : Qu.enc xs ++ Qu.enc zs = Qu.enc (xs ++ zs) := by simp [Qu.enc]
  rcases hline with ⟨rfl, rfl, rfl⟩ | ⟨lb, off, cap, arr, rfl, rfl, hcap, hcm, hlb, hoff, hrd⟩
  · have hself : w.grownBy w v.ownBlock := ⟨rfl, rfl, rfl, Nat.le_refl _, fun _ _ _ => rfl⟩
    rcases hown.2 with ⟨rfl, h0⟩ | ⟨g, cap, cur, rfl, hb, hg, hnc, hcm, hs, ht2⟩
    · refine ⟨.slice none 0 0, w, ?_, by simpa using hown, hself⟩
      simp [Builtin.append_, run_underlying ht, sizeOf, typeInfo, hi, Builtin.lenOf, Builtin.firstCells]
    · have hrun := run_append_room_src (P := P) w t t ty 38 i0 ht hi g 0 xs.length cap (.slice none 0 0) 0 [] (Src.ofNil w ht 0) (by omega) (by simp) (by simp)
      exact ⟨_, w, hrun, by simpa using hown, hself⟩
  · have hl2 : Qu.Line w (.slice (some ⟨lb, off, none⟩) zs.length cap) zs (some lb) := .inr ⟨lb, off, cap, arr, rfl, rfl, hcap, hcm, hlb, hoff, hrd⟩
    obtain ⟨v', w', hrun, hown', hgr, _⟩ := run_append_own (P := P) w base t ty 38 i0 _ 2 16 ht hi hz0 hz1 hz2 rfl (by decide) v xs.length (Qu.enc xs) hown ⟨lb, off, none⟩ zs.length cap (Qu.enc zs) (Qu.enc_length zs) hl2.holds (by
      intro u hu
      simp [Qu.enc] at hu
      obtain ⟨p, q, hpq, rfl | rfl⟩ := hu <;> rfl) (by unfold maxLen; omega) (by omega) hbase
    rw [henc] at hown'
    exact ⟨v', w', hrun, hown', hgr⟩
theorem Qu.step_append_all {P : Program} {ops : Array Oper} {o : Oper} {a : Act} {w : World} {K : Act → World → Prop} {Q : Exit → Act → World → Prop} {E : Prop} (hgd : o.guard = none) (s x : Operand) (t : TypeId)
    (ho : o.op = .call { callee := .builtin .append, args := #[s, x], argTypes := #[t, t] }) (ht : P.underlying t = some (.slice 38))
    (hinfo : (P.info? 38).map (fun i => (i.zero, i.size, i.bytes)) = some (some (.agg #[.int .i64 0, .int .i64 0]), 2, 16))
    (V : Value) (ys : List (Int × Int)) (LB : Option Nat) (hs : a.eval s = .slice none 0 0) (hx : a.eval x = V) (hline : Qu.Line w V ys LB) (hn : ys.length ≤ 100000)
    (h : ∀ v' w', w'.ownsRow w.heap.size 38 2 v' ys.length (Qu.enc ys) → Below w.heap.size w w' → K (a.put o.dst v') w') :
    if Region.wanted o (yielded ops a.tmps) = true then Oper.wp P o a w K Q else E := by
  have hw : Region.wanted o (yielded ops a.tmps) = true := by simp [Region.wanted, hgd]
  rw [if_pos hw]
  obtain ⟨v', w', hrun, h1, h2⟩ := Qu.run_append_all (P := P) w t o.type ht hinfo V ys LB hline hn
  unfold Oper.wp
  simp [execOp, ho, resolve, invoke, builtin, hs, hx, hrun, Result.andThen]
  exact h v' w' h1 h2
theorem Qu.step_append_own_line {P : Program} {ops : Array Oper} {o : Oper} {a : Act} {w : World} {K : Act → World → Prop} {Q : Exit → Act → World → Prop} {E : Prop} (hgd : o.guard = none) (s x : Operand) (t : TypeId)
    (ho : o.op = .call { callee := .builtin .append, args := #[s, x], argTypes := #[t, t] }) (ht : P.underlying t = some (.slice 38))
    (hinfo : (P.info? 38).map (fun i => (i.zero, i.size, i.bytes)) = some (some (.agg #[.int .i64 0, .int .i64 0]), 2, 16))
    (base : Nat) (hbase : base ≤ w.heap.size) (v : Value) (xs zs : List (Int × Int)) (V : Value) (LB : Option Nat) (hs : a.eval s = v) (hx : a.eval x = V) (hown : w.ownsRow base 38 2 v xs.length (Qu.enc xs)) (hline : Qu.Line w V zs LB) (hn : xs.length + zs.length ≤ 100000)
    (h : ∀ v' w', w'.ownsRow base 38 2 v' (xs.length + zs.length) (Qu.enc (xs ++ zs)) → w.grownBy w' v.ownBlock → K (a.put o.dst v') w') :
    if Region.wanted o (yielded ops a.tmps) = true then Oper.wp P o a w K Q else E := by
  have hw : Region.wanted o (yielded ops a.tmps) = true := by simp [Region.wanted, hgd]
  rw [if_pos hw]
  obtain ⟨v', w', hrun, h1, h2⟩ := Qu.run_append_own_line (P := P) w t o.type ht hinfo base hbase v xs zs hown V LB hline hn
  unfold Oper.wp
  simp [execOp, ho, resolve, invoke, builtin, hs, hx, hrun, Result.andThen]
  exact h v' w' h1 h2

theorem Qu.own_far {w : World} {base base' : Nat} {e e' : TypeId} {size size' n n' : Nat} {v v' : Value} {xs xs' : List Value} (h : w.ownsRow base e size v n xs) (h' : w.ownsRow base' e' size' v' n' xs') (hne : e ≠ e') : v.ownBlock = none ∨ v.ownBlock ≠ v'.ownBlock := by
  rcases h.2 with ⟨rfl, _⟩ | ⟨g, cap, cur, rfl, _, hh, _⟩
  · exact .inl rfl
  · exact .inr (Qu.own_ne h' hh (fun h => hne h.symm))
theorem Qu.rclear_end {w wr : World} {rb c n : Nat} {b : Int} {V1 V2 l : Value} {vs : List Value} {B1 B2 : Option Nat} (hblk : w.heap[rb]? = some (.cells #[.int .i64 c, .int .i64 b, V1, V2] 90 (0, 0))) (hb : Below w.heap.size w wr) (hown : wr.ownsRow w.heap.size 2 1 l n vs) :
    ((wr.setCell ⟨rb, 2, none⟩ (.slice none 0 0)).setCell ⟨rb, 3, none⟩ (.slice none 0 0)).ownsRow w.heap.size 2 1 l n vs ∧ Qu.RTo w rb c b B1 B2 [] [] ((wr.setCell ⟨rb, 2, none⟩ (.slice none 0 0)).setCell ⟨rb, 3, none⟩ (.slice none 0 0)) := by
  have hblk1 := Qu.blk_below hblk hb
  have hlt := Qu.blk_lt hblk
  have hblk2 := Qu.blk_set (Qu.blk_set hblk1 2 (.slice none 0 0)) 3 (.slice none 0 0)
  simp only [List.setIfInBounds_toArray, List.set_cons_succ, List.set_cons_zero] at hblk2
  have hf : Qu.Fr (fun i => i = rb) wr ((wr.setCell ⟨rb, 2, none⟩ (.slice none 0 0)).setCell ⟨rb, 3, none⟩ (.slice none 0 0)) := ((Qu.Fr.refl (fun i => i = rb) wr).setCell (p := ⟨rb, 2, none⟩) (fun _ => rfl) _).setCell (p := ⟨rb, 3, none⟩) (fun _ => rfl) _
  refine ⟨Qu.own_fr hown hf (fun i hi h => by subst h; exact Qu.own_ne hown hblk1 (by decide) hi.symm), none, none, ⟨_, _, hblk2, .inl ⟨rfl, rfl, rfl⟩, .inl ⟨rfl, rfl, rfl⟩, (fun i h => by cases h)⟩, ?_, .inr (fun i h => by cases h), .inr (fun i h => by cases h)⟩
  exact (Qu.Fr.of_below (S := fun i => i = rb ∨ B1 = some i ∨ B2 = some i) hb).trans hf (fun i hi h => .inl h)

structure Qu.ClearRel (w : World) (base : Nat) (zs : List (Int × Int)) (all : Value) (gk : Nat) (l s5 : Value) (wr : World) : Prop where
  mk :: (out : ∃ t : Nat, t ≤ zs.length ∧ gk = zs.length - t ∧ s5 = .int .i64 t ∧ wr.ownsRow base 38 2 all zs.length (Qu.enc zs) ∧ wr.ownsRow base 2 1 l t (Qu.ints ((zs.take t).map Prod.fst)) ∧ Below base w wr)

set_option maxHeartbeats 1000000 in
set_option maxRecDepth 100000 in
theorem rclear_any (rb c : Nat) (b : Int) (xs ys : List (Int × Int)) (B1 B2 : Option Nat) (w : World)
    (hat : Qu.RAt w rb c b xs ys B1 B2) (hx : xs.length ≤ 2000) (hy : ys.length ≤ 2000) :
    Calls Try.prog 22 #[.pointer (some ⟨rb, 0, none⟩)] w fun e w' => ∃ v, e = .returned v ∧ w'.ownsRow w.heap.size 2 1 v (xs ++ ys).length (Qu.ints ((xs ++ ys).map Prod.fst)) ∧ Qu.RTo w rb c b B1 B2 [] [] w' := by
  obtain ⟨V1, V2, hblk, hl1, hl2, hne⟩ := hat
  obtain ⟨c0, c1, c2, c3⟩ := Qu.cells4 hblk
  have hrb := Qu.blk_lt hblk
  obtain ⟨A1, cp1, rfl⟩ := hl1.slice
  obtain ⟨A2, cp2, rfl⟩ := hl2.slice
  have HL1 := Lib.hid hl1
  have HL2 := Lib.hid hl2
  have HBLK := Lib.hid hblk
  obtain ⟨zs, hzs⟩ : ∃ zs, xs ++ ys = zs := ⟨_, rfl⟩
  have hzl : zs.length ≤ 4000 := by rw [← hzs, List.length_append]; omega
  rw [hzs]
  have HZS := Lib.hid hzs
  clear hblk hl1 hl2 hne c0 c1 hzs
  go_enter Try.func22, Try.ntmps22
  go_upto_region 2 with fail
  go_cut [4] (fun v wx => wx.ownsRow w.heap.size 38 2 v zs.length (Qu.enc zs) ∧ Below w.heap.size w wx)
  case first =>
    go_region_law (first
      | (refine Qu.step_append_all rfl _ (.tmp 9) 31 rfl Try.underlying31 Try.info38 _ xs B1 rfl rfl HL1.out (by omega) ?_; intro v1 w1 hown1 hb1; obtain ⟨A, cp, rfl⟩ := Qu.own_slice hown1; have d3 := (Qu.cells4 (Qu.blk_below (w := { w with drawn := w.drawn + 1 }) HBLK.out hb1)).2.2.2; have HOWN1 := Lib.hid hown1; have HB1 := Lib.hid hb1; clear hown1 hb1)
      | (refine Qu.step_append_own_line rfl (.tmp 10) (.tmp 14) 31 rfl Try.underlying31 Try.info38 w.heap.size HB1.out.size _ xs ys _ B2 rfl rfl HOWN1.out (HL2.out.keep (fun i hi => HB1.out.block i (HL2.out.lt i hi))) (by omega) ?_; intro v2 w2 hown2 hg2; obtain ⟨A', cp', rfl⟩ := Qu.own_slice hown2))
    all_goals
      go_wp2_with fail
      go_meet
      rw [← HZS.out, List.length_append]
      exact ⟨hown2, ⟨HB1.out.os, HB1.out.tape, HB1.out.output, HB1.out.size, HB1.out.block⟩ |> fun (h : Below w.heap.size w w1) => h.grown hg2 h.size (fun k hk => HOWN1.out.lt k hk |>.1)⟩
  case rest =>
    obtain ⟨hown, hb⟩ := hcut
    obtain ⟨A, cp, rfl⟩ := Qu.own_slice hown
    have HOWN := Lib.hid hown
    have HB := Lib.hid hb
    clear hown hb c2 c3
    go_wp2
    go_loopg [3, 5] zs.length (fun gk l s5 wr => Qu.ClearRel w w.heap.size zs (.slice A zs.length cp) gk l s5 wr)
    case atStart => exact ⟨0, by omega, by omega, rfl, HOWN.out, World.ownsRow_nil _ _ _ _, HB.out⟩
    case round =>
      obtain ⟨t, ht, rfl, rfl, hall, hl, hb⟩ := hrel.out
      clear hrel
      have HALL := Lib.hid hall
      have HL := Lib.hid hl
      have HB := Lib.hid hb
      by_cases htl : t < zs.length
      · obtain ⟨g, rfl, x0, x1⟩ := Qu.own_item hall htl
        obtain ⟨s4, hs4⟩ : ∃ s4, (zs.getD t (0, 0)).1 = s4 := ⟨_, rfl⟩
        rw [hs4] at x0
        have hstep : (zs.take (t + 1)).map Prod.fst = (zs.take t).map Prod.fst ++ [s4] := by
          rw [List.take_succ_eq_append_getElem htl, List.map_append, ← hs4, List.getD_eq_getElem?_getD, List.getElem?_eq_getElem htl]
          rfl
        have HST := Lib.hid hstep
        clear hall hl hb x1 hs4 hstep
        go_wp2_with (at_builtin; refine Qu.append1 _ rfl (.tmp 22) (.tmp 28) 32 rfl w.heap.size 2 _ 1 8 Try.underlying32 Try.info2 rfl (by decide) (by decide) _ t (Qu.ints ((zs.take t).map Prod.fst)) rfl wr #[.int .i64 s4] rfl HL.out rfl rfl (by simp [Value.oneCell']) (by omega) HB.out.size ?_; intro v2 w2 hown2 hgr2)
        go_roundg (zs.length - (t + 1))
        case measure => omega
        case rel => exact ⟨t + 1, by omega, rfl, by go_num, HALL.out.kept hgr2 (Qu.own_far HALL.out HL.out (by decide)), by rw [HST.out]; simpa [Qu.ints] using hown2, HB.out.grown hgr2 HB.out.size (fun k hk => (HL.out.lt k hk).1)⟩
      · have htl2 : t = zs.length := by omega
        have HT := Lib.hid htl2
        have hblk2 := Qu.blk_below HBLK.out hb
        obtain ⟨_, _, c2, c3⟩ := Qu.cells4 hblk2
        have f2 := Qu.blk_frozen hblk2 2
        have f3 := Qu.blk_frozen hblk2 3
        have hrb2 := Qu.blk_lt hblk2
        clear htl2 hall hl hb hblk2
        go_wp2
        go_ret
        obtain ⟨q1, q2⟩ := Qu.rclear_end (B1 := B1) (B2 := B2) HBLK.out HB.out HL.out
        refine ⟨_, rfl, ?_, q2⟩
        have := HT.out
        subst this
        rw [List.take_of_length_le (Nat.le_refl _)] at q1
        exact q1
end Go.Proofs.Ytgdeoodihhcdjaa
