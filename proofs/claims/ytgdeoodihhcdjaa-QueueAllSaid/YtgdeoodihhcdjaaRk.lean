/- Leave. -/
import Derived.Test.YtgdeoodihhcdjaaRj
namespace Go.Proofs.Ytgdeoodihhcdjaa
open Go.RowKit
set_option linter.unusedVariables false
set_option linter.unusedSimpArgs false

set_option maxRecDepth 100000 in
theorem leave_no (sb c : Nat) (b u : Int) (xs ys : List (Int × Int)) (MV : Value) (R LB : Option Nat) (id : Int) (w : World) (hc0 : 0 < c) (hat : Qu.At w sb c b u xs ys MV R LB) (hy : ys.length ≤ 2000) (hno : ∀ j, j < ys.length → (ys.getD j (0, 0)).1 ≠ id) :
    Calls Try.prog 19 #[.pointer (some ⟨sb, 0, none⟩), .int .i64 id] w fun e w' => e = .returned (.tuple #[.slice none 0 0, .int .i64 6]) ∧ Below w.heap.size w w' := by
  obtain ⟨L, k, LV, hblk, hr, hl, hne⟩ := hat
  have hsb := Qu.blk_lt hblk
  have HT := Lib.hid (there_some' sb c (w.alloc (.cells #[.int .i64 id] 2 (0, 0))) (Qu.cells8 (Qu.blk_alloc hblk _)).1 (by omega))
  have HI := Lib.hid (indexFunc_any LV ys LB id ⟨w.heap.size, 0, none⟩ (w.alloc (.cells #[.int .i64 id] 2 (0, 0))) ys.length (Nat.le_refl _) (hl.keep (fun i hi => Below.heap_alloc _ _ _ (hl.lt i hi))) hy (by rw [Qu.blk_cell (heap_alloc_new w _)]; rfl) (by simp) hno (fun h => absurd h (Nat.lt_irrefl _)))
  obtain ⟨c0, c1, c2, c3, c4, c5, c6, c7⟩ := Qu.cells8 hblk
  obtain ⟨A2, cp2, rfl⟩ := hl.slice
  clear hblk hr hl hne hno c0 c1 c2 c3 c4 c5 c7
  go_enter Try.func19, Try.ntmps19
  go_wp2_with (first
    | (go_at_call 32; refine HT.out.mono ?_; rintro e w1 ⟨rfl, rfl⟩)
    | (go_at_call 43; refine HI.out.mono ?_; rw [if_neg (Nat.lt_irrefl _)]; rintro e w2 ⟨rfl, hb2⟩))
  go_ret2
  exact ⟨rfl, ((Below.refl _ _).alloc (Nat.le_refl _) _).trans (hb2.mono (by simp))⟩

theorem Qu.own_line {w : World} {base : Nat} {v : Value} {ys : List (Int × Int)} (h : w.ownsRow base 38 2 v ys.length (Qu.enc ys)) (hn : 0 < ys.length) : ∃ g cap, v = .slice (some ⟨g, 0, none⟩) ys.length cap ∧ base ≤ g ∧ Qu.Line w v ys (some g) := by
  obtain ⟨g', hg', hl⟩ := Qu.Line.of_own h hn
  rcases h.2 with ⟨_, h0⟩ | ⟨g, cap, cur, rfl, hb, hg, _⟩
  · omega
  · refine ⟨g, cap, rfl, hb, ?_⟩
    rcases hl with ⟨h, _, _⟩ | ⟨lb, off, cap', arr, e1, e2, r⟩
    · cases h
    · simp at e2
      obtain ⟨⟨rfl, rfl⟩, rfl⟩ := e2
      exact .inr ⟨g, 0, cap, arr, rfl, rfl, r⟩

def Qu.Left (w : World) (sb c : Nat) (b : Int) (mb : Nat) (R LB : Option Nat) (E : List (Int × Int) × List (Int × Int) × Int × List Int) (v : Value) (w' : World) : Prop :=
  ∃ R' LB', Qu.At w' sb c b E.2.2.1 E.1 E.2.1 (.map (some mb)) R' LB' ∧ (∃ es cl, w'.heap[mb]? = some (.map es cl)) ∧ w'.ownsRow w.heap.size 2 1 v E.2.2.2.length (Qu.ints E.2.2.2) ∧ Qu.Fr (fun i => i = sb ∨ R = some i ∨ i = mb) w w' ∧ (R' = R ∨ ∃ i, R' = some i ∧ w.heap.size ≤ i) ∧ (∀ i, LB' = some i → w.heap.size ≤ i)

theorem Qu.Ring.ne_map {w : World} {L : Value} {k : Nat} {xs : List (Int × Int)} {R : Option Nat} (h : Qu.Ring w L k xs R) {mb : Nat} {ids : List Int} (hk : Qu.Keys w mb ids) : R ≠ some mb := by
  rintro rfl
  rcases h with ⟨_, _, _, h0⟩ | ⟨rb, m, arr, h0, _, _, _, _, h5, _⟩
  · cases h0
  · injection h0 with h; exact hk.ne h5 h.symm
theorem Qu.left_end {w w5 w6 w7 : World} {sb c mb g : Nat} {b : Int} {xs : List (Int × Int)} {R : Option Nat} {E : List (Int × Int) × List (Int × Int) × Int × List Int} {v L : Value} {k : Nat} {cs : Array Value} {ids ids' : List Int}
    (hblk : w.heap[sb]? = some (.cells cs 81 (0, 0))) (hr : Qu.Ring w L k xs R) (hk : Qu.Keys w mb ids) (hg : w.heap.size ≤ g) (hf5 : Qu.Fr (fun k => k = sb) w w5) (hgr : w5.grownBy w6 (some mb)) (hk6 : Qu.Keys w6 mb ids') (he : Qu.Entered w6 sb c b (.map (some mb)) R (some g) E v w7) :
    Qu.Left w sb c b mb R none E v w7 ∧ Qu.Keys w7 mb ids' := by
  obtain ⟨R', h1, h2, h3, h4⟩ := he
  have hf6 : Qu.Fr (fun k => k = sb ∨ k = mb) w w6 := (hf5.mono (S' := fun k => k = sb ∨ k = mb) (fun k _ h => .inl h)).trans (S1 := fun i => i = mb) (Qu.Fr.of_grown hgr (fun i hi _ => by injection hi with hi; exact hi.symm)) (fun i _ h => .inr h)
  have hk7 : Qu.Keys w7 mb ids' := hk6.keep (h3.block mb hk6.lt (by
    rintro (h | h)
    · exact hk.ne hblk h.symm
    · exact hr.ne_map hk h))
  refine ⟨⟨R', some g, h1, hk7.blk, Qu.own_base h2 hf6.size, hf6.mono (S' := fun i => i = sb ∨ R = some i ∨ i = mb) (fun k _ h => h.imp_right .inr) |>.trans h3 (fun i _ h => h.imp_right .inl), h4.imp_right (fun ⟨i, h, hi⟩ => ⟨i, h, Nat.le_trans hf6.size hi⟩), (fun i hi => by injection hi with hi; omega)⟩, hk7⟩

set_option maxHeartbeats 2000000 in
set_option maxRecDepth 100000 in
theorem leave_yes (sb c : Nat) (b : Int) (xs ys : List (Int × Int)) (mb : Nat) (R LB : Option Nat) (id : Int) (i : Nat) (w : World) (hc0 : 0 < c) (hc : c ≤ 1024) (hb0 : b ≤ 17000000) (hat : Qu.At w sb c b (Qu.sum xs) xs ys (.map (some mb)) R LB) (hk : Qu.Keys w mb ((xs ++ ys).map Prod.fst))
    (hx : xs.length ≤ c) (hu : 0 ≤ Qu.sum xs ∧ Qu.sum xs ≤ b) (hp : ∀ p ∈ ys, 0 ≤ p.2 ∧ p.2 ≤ b) (hy : ys.length ≤ 2000) (hF : Qu.First ys id i) (h64 : Qu.In64 id) (hnd : ((xs ++ ys).map Prod.fst).Nodup) :
    Calls Try.prog 19 #[.pointer (some ⟨sb, 0, none⟩), .int .i64 id] w fun e w' => ∃ v, e = .returned (.tuple #[v, .int .i64 0]) ∧ Qu.Left w sb c b mb R none (Qu.enterF c b xs (ys.take i ++ ys.drop (i + 1)) (Qu.sum xs)) v w' ∧ Qu.Keys w' mb (((xs ++ ys).map Prod.fst).erase id) := by
  obtain ⟨hi, hid, hbef⟩ := hF
  obtain ⟨L, k, LV, hblk, hr, hl, hne⟩ := hat
  have hsb := Qu.blk_lt hblk
  have HT := Lib.hid (there_some' sb c (w.alloc (.cells #[.int .i64 id] 2 (0, 0))) (Qu.cells8 (Qu.blk_alloc hblk _)).1 (by omega))
  have HI := Lib.hid (indexFunc_any LV ys LB id ⟨w.heap.size, 0, none⟩ (w.alloc (.cells #[.int .i64 id] 2 (0, 0))) i (by omega) (hl.keep (fun i hi => Below.heap_alloc _ _ _ (hl.lt i hi))) hy (by rw [Qu.blk_cell (heap_alloc_new w _)]; rfl) (by simp) hbef (fun _ => hid))
  obtain ⟨c0, c1, c2, c3, c4, c5, c6, c7⟩ := Qu.cells8 hblk
  obtain ⟨lb, off, cp2, hv, hlt, x0, x1⟩ := hl.get hi
  subst hv
  have HBLK := Lib.hid hblk
  have HR := Lib.hid hr
  have HL := Lib.hid hl
  have HK := Lib.hid hk
  have HP := Lib.hid hp
  have HND := Lib.hid hnd
  have HU := Lib.hid hu
  have HID := Lib.hid hid
  obtain ⟨n1, hn1⟩ : ∃ n1, ys.length = n1 + 1 := ⟨ys.length - 1, by omega⟩
  have HN1 := Lib.hid hn1
  clear hblk hr hl hne hbef hk hp hnd hu hid hn1 c0 c1 c2 c3 c4 c5 c7 x0 x1
  go_enter Try.func19, Try.ntmps19
  go_upto_region 4 with (first
    | (go_at_call 32; refine HT.out.mono ?_; rintro e w1 ⟨rfl, rfl⟩)
    | (go_at_call 43; refine HI.out.mono ?_; rw [if_pos hi]; rintro e w2 ⟨rfl, hb2⟩))
  have hb02 : Below w.heap.size w w2 := ((Below.refl _ _).alloc (Nat.le_refl _) _).trans (hb2.mono (by simp))
  have hbox : w2.heap[w.heap.size]? = some (.cells #[.int .i64 id] 2 (0, 0)) := (hb2.block _ (by simp)).trans (heap_alloc_new w _)
  have hblk2 := Qu.blk_below HBLK.out hb02
  have hsb2 := Qu.blk_lt hblk2
  have d6 := (Qu.cells8 hblk2).2.2.2.2.2.2.1
  have HCL := Lib.hid (clone_any lb off cp2 ys LB w2 (HL.out.keep (fun i hi => hb02.block i (HL.out.lt i hi))) hy)
  have HB02 := Lib.hid hb02
  have HBOX := Lib.hid hbox
  have HBLK2 := Lib.hid hblk2
  have hi0 : ¬ (i : Int) < 0 := by omega
  clear hb02 hbox hblk2 HT HI hb2 c6
  go_upto_region 7 with (first
    | (go_at_call 46; refine HCL.out.mono ?_; rintro e w3 ⟨v3, rfl, hown3, hb3⟩; obtain ⟨g, cap, rfl, hg, hl3⟩ := Qu.own_line hown3 (by omega); have HDL := Lib.hid (delete_any g 0 cap n1 ys i w3 HN1.out hl3 hi hy); rw [← HN1.out] at HDL; have HL3 := Lib.hid hl3; have HB3 := Lib.hid hb3; clear hown3 hl3 hb3)
    | (go_at_call 45; refine HDL.out.mono ?_; rintro e w4 ⟨rfl, hl4, hf4⟩; have hblk4 := Qu.blk_fr (Qu.blk_below HBLK2.out HB3.out) hf4 (by omega); have e6 := (Qu.cells8 hblk4).2.2.2.2.2.2.1; have f6 := Qu.blk_frozen hblk4 6; have hsb4 := Qu.blk_lt hblk4; have HL4 := Lib.hid hl4; have HF4 := Lib.hid hf4; have HBLK4 := Lib.hid hblk4; clear hblk4 hl4 hf4))
  have hf4 : Qu.Fr (fun _ => False) w w4 := (Qu.Fr.of_below HB02.out).trans ((Qu.Fr.of_below (S := fun k => k = g) HB3.out).trans HF4.out (fun _ _ h => h)) (fun i hi h => by have := HB02.out.size; omega)
  generalize hw5 : w4.setCell ⟨sb, 6, none⟩ (.slice (some ⟨g, 0, none⟩) n1 cap) = w5
  have hf5 : Qu.Fr (fun k => k = sb) w w5 := by
    rw [← hw5]
    exact (hf4.mono (S' := fun k => k = sb) (fun _ _ h => h.elim)).setCell (p := ⟨sb, 6, none⟩) (fun _ => rfl) _
  have hblk5 : w5.heap[sb]? = some (.cells #[.int .i64 c, .int .i64 b, .int .i64 (Qu.sum xs), L, .int .i64 k, .int .i64 xs.length, .slice (some ⟨g, 0, none⟩) n1 cap, .map (some mb)] 81 (0, 0)) := by
    have h := Qu.blk_set HBLK4.out 6 (.slice (some ⟨g, 0, none⟩) n1 cap)
    rw [hw5] at h
    exact h
  have hgs : g ≠ sb := by have := HB02.out.size; omega
  have hl5 : Qu.Line w5 (.slice (some ⟨g, 0, none⟩) n1 cap) (ys.take i ++ ys.drop (i + 1)) (some g) := HL4.out.keep (fun i hi => by
    injection hi with hi
    subst hi
    rw [← hw5]
    exact Below.heap_setCell _ _ _ _ hgs)
  have hwb : w.heap.size < w2.heap.size := Qu.blk_lt HBOX.out
  have hbox5 : w5.heap[w.heap.size]? = some (.cells #[.int .i64 id] 2 (0, 0)) := by
    rw [← hw5]
    refine (Below.heap_setCell _ _ _ _ (by simp; omega)).trans ((HF4.out.block _ (by have := HB3.out.size; omega) (by omega)).trans ((HB3.out.block _ hwb).trans HBOX.out))
  have hr5 : Qu.Ring w5 L k xs R := HR.out.keep (fun j hj => hf5.block j (HR.out.lt j hj) (HR.out.ne HBLK.out j hj))
  have hk5 : Qu.Keys w5 mb ((xs ++ ys).map Prod.fst) := HK.out.keep (hf5.block mb HK.out.lt (fun h => HK.out.ne HBLK.out h.symm))
  have y7 := (Qu.cells8 hblk5).2.2.2.2.2.2.2
  have z0 : w5.cell? ⟨w.heap.size, 0, none⟩ = some (.int .i64 id) := by rw [Qu.blk_cell hbox5]; rfl
  have hsb5 := Qu.blk_lt hblk5
  have hwb5 := Qu.blk_lt hbox5
  obtain ⟨D, hD1, hD2, hD3⟩ := hk5
  have HD1 := Lib.hid hD1
  have HD2 := Lib.hid hD2
  have HD3 := Lib.hid hD3
  have hmb5 := hD1.lt
  have hwf := Maps.keyOf_int_mk Try.underlying2 (Qu.In64.wf h64)
  have HWF := Lib.hid hwf
  have hlen5 : n1 = (ys.take i ++ ys.drop (i + 1)).length := by simp; have := HN1.out; omega
  have hat5 : Qu.At w5 sb c b (Qu.sum xs) xs (ys.take i ++ ys.drop (i + 1)) (.map (some mb)) R (some g) := ⟨L, k, _, hblk5, hr5, hl5, fun j hj h => by injection h with h; have := HR.out.lt j hj; have := HB02.out.size; omega⟩
  have HAT5 := Lib.hid hat5
  have HF5 := Lib.hid hf5
  have HGS : w.heap.size ≤ g := by have := HB02.out.size; omega
  have hps : ∀ p ∈ ys.take i ++ ys.drop (i + 1), 0 ≤ p.2 ∧ p.2 ≤ b := fun p hp' => HP.out p (by
    rcases List.mem_append.1 hp' with h | h
    · exact List.mem_of_mem_take h
    · exact List.mem_of_mem_drop h)
  have HENT := Lib.hid (fun (W : World) (h : Qu.At W sb c b (Qu.sum xs) xs (ys.take i ++ ys.drop (i + 1)) (.map (some mb)) R (some g)) => enter_any sb c b (Qu.sum xs) xs _ (.map (some mb)) R (some g) W hc hb0 h hx HU.out hps (by rw [← hlen5]; have := HN1.out; omega))
  clear hf4 hw5 hf5 hblk5 hgs hl5 hbox5 hr5 hD1 hD2 hD3 hwf hat5 hps hlen5 d6 e6 f6 hwb
  go_still_tail 5, (by kernel_rfl)
  refine wpList_delete_own _ rfl _ _ 77 2 rfl 82 Qu.law2 Try.underlying77 unitElem mb _ D rfl HD1.out _ _ rfl HWF.out ?_
  intro w6 hown6 hturn6
  have hgr : w5.grownBy w6 (some mb) := ⟨hturn6.grown.os, hturn6.grown.tape, hturn6.grown.output, hturn6.grown.size, hturn6.grown.block⟩
  have hat6 : Qu.At w6 sb c b (Qu.sum xs) xs (ys.take i ++ ys.drop (i + 1)) (.map (some mb)) R (some g) := by
    have hbm : ∀ (i : Nat) (cs : Array Value) (t : TypeId) (f : Nat × Nat), w5.heap[i]? = some (Obj.cells cs t f) → w6.heap[i]? = w5.heap[i]? := fun i cs t f hi => hgr.block i (Qu.blk_lt hi) (fun h => by
      injection h with h
      subst h
      obtain ⟨es, cl, hm, _⟩ := HD1.out
      rw [hm] at hi; cases hi)
    obtain ⟨L', k', LV', q1, q2, q3, q4⟩ := HAT5.out
    refine ⟨L', k', LV', (hbm _ _ _ _ q1).trans q1, q2.keep ?_, q3.keep ?_, q4⟩
    · intro i hi
      rcases q2 with ⟨_, _, _, h⟩ | ⟨rb, m, arr, h, _, _, _, _, h5, _⟩
      · rw [h] at hi; cases hi
      · rw [h] at hi; injection hi with hi; subst hi; exact hbm _ _ _ _ h5
    · intro i hi
      rcases q3 with ⟨_, _, h⟩ | ⟨lb, off, cap, arr, h, _, _, _, h5, _⟩
      · cases h
      · rw [h] at hi; injection hi with hi; subst hi; exact hbm _ _ _ _ h5
  have hk6 := Qu.Keys.del (w' := w6) HD1.out HD2.out HD3.out id (by
    rw [List.map_append, List.mem_append]
    refine .inr (List.mem_map.2 ⟨ys.getD i (0, 0), ?_, HID.out⟩)
    rw [List.getD_eq_getElem?_getD, List.getElem?_eq_getElem hi]
    exact List.getElem_mem hi) HND.out hown6
  have HK6 := Lib.hid hk6
  have HGR := Lib.hid hgr
  have HE := Lib.hid (HENT.out w6 hat6)
  clear hat6 hk6 hgr hown6 hturn6 y7 z0
  go_wp2_with (go_at_call 37; refine HE.out.mono ?_; rintro e w7 ⟨v, rfl, he⟩)
  go_ret2
  exact ⟨v, rfl, Qu.left_end HBLK.out HR.out HK.out HGS HF5.out HGR.out HK6.out he⟩
end Go.Proofs.Ytgdeoodihhcdjaa
