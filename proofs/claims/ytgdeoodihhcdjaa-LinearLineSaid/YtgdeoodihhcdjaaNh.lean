/- The contract of seen. -/
import Derived.Test.YtgdeoodihhcdjaaNg
import Derived.Maps.OwnSet
namespace Go.Proofs.Ytgdeoodihhcdjaa
open Go.RowKit
set_option linter.unusedVariables false
set_option linter.unusedSimpArgs false


theorem Ln.zero82 (w : World) : (zeroValue 82).run Try.prog w = .ok (.agg #[]) w := by kernel_rfl
theorem Try.size104 : (Try.prog.info? 104).map (·.size) = some 13 := by kernel_rfl
theorem Ln.look {w W : World} {mb n : Nat} {D : DataW Unit} (h : w.ownsMap Try.prog 104 unitElem mb n D) (hW : W.heap[mb]? = w.heap[mb]?) {key : Value} {kl : Lit} (hk : keyOf Try.prog 104 key = some kl) :
    (Instr.lookup 106 (.map (some mb)) key true).run Try.prog W = .ok (.tuple #[.agg #[], .bool (Maps.has D kl)]) W := by
  have h2 : W.ownsMap Try.prog 104 unitElem mb n D := by
    obtain ⟨es, clock, h1, r⟩ := h
    exact ⟨es, clock, hW.trans h1, r⟩
  obtain ⟨v, ps, hrun, hv⟩ := h2.look_ok Ln.keyed Try.underlying106 (Ln.zero82 W) (zd := .agg []) (zp := []) unitElem_mk hk
  obtain ⟨rfl, _⟩ := unitElem_inv hv
  exact hrun
theorem Ln.own_map {w w5 : World} {mb n : Nat} {D : DataW Unit} (h : w.ownsMap Try.prog 104 unitElem mb n D) (h5 : w5.heap[mb]? = w.heap[mb]?) : w5.ownsMap Try.prog 104 unitElem mb n D := by
  obtain ⟨es, clock, h1, r⟩ := h
  exact ⟨es, clock, h5.trans h1, r⟩
set_option maxHeartbeats 2000000 in
set_option maxRecDepth 100000 in
theorem seen_any (sb mb : Nat) (p0 p1 p2 p4 p5 : Value) (ts : List Ln.Key) (k : Ln.Key) (w : World) (hs : w.heap[sb]? = some (.cells #[p0, p1, p2, .map (some mb), p4, p5] 108 (0, 0))) (hk : Ln.Kys w mb ts) (hok : Ln.KOk k) (hn : ts.length < 1000000000000000) :
    Calls Try.prog 61 #[.pointer (some ⟨sb, 0, none⟩), .agg (Ln.kc k)] w fun e w' => e = .returned (.bool (decide (k ∈ ts))) ∧ Ln.Kys w' mb (Ln.seenF ts k) ∧ Qu.Fr (fun i => i = mb) w w' := by
  have HK := Lib.hid hk
  have HOK := Lib.hid hok
  obtain ⟨D, hD1, hD2, hD3⟩ := hk
  obtain ⟨kl, hkl⟩ := hok.key
  have has := hD3 k hok kl hkl
  have HD3 := Lib.hid hD3
  have HD1 := Lib.hid hD1
  have HD2 := Lib.hid hD2
  obtain ⟨a0, a1, a2, a3, a4, a5, a6, a7, a8, a9, a10, a11, he, hl⟩ := Ln.kc_lit hok
  have HKL := Lib.hid hkl
  rw [he] at hkl
  have HKL2 := Lib.hid hkl
  have HS := Lib.hid hs
  rw [he]
  have hmb := hD1.lt
  have hsb := Qu.blk_lt hs
  have hmne : sb ≠ mb := HK.out.ne hs
  have hn2 : ts.length < maxLen := by unfold maxLen; omega
  have HN := Lib.hid hn2
  have hlook := fun (W : World) (h : W.heap[mb]? = w.heap[mb]?) => Ln.look HD1.out h HKL2.out
  rw [has] at hlook
  have HL := Lib.hid hlook
  clear hn2 hD1 hD2 hD3 hkl he hl hok hs hn has hlook
  go_enter Try.func61, Try.ntmps61
  go_wp2_with fail
  generalize hw5 : w.alloc (Obj.cells #[Value.int IntKind.u64 (k.set : Int), Value.int IntKind.i64 a0, Value.int IntKind.i64 a1, Value.int IntKind.i64 a2, Value.int IntKind.i64 a3, Value.int IntKind.i64 a4, Value.int IntKind.i64 a5, Value.int IntKind.i64 a6, Value.int IntKind.i64 a7, Value.int IntKind.i64 a8, Value.int IntKind.i64 a9, Value.int IntKind.i64 a10, Value.int IntKind.i64 a11] 104) = w5
  have hb5 : Qu.Fr (fun i => i = mb) w w5 := by rw [← hw5]; exact (Qu.Fr.refl _ _).alloc _
  have hm5 : w5.heap[mb]? = w.heap[mb]? := by rw [← hw5]; exact Below.heap_alloc _ _ _ hmb
  have hs5 : w5.heap[sb]? = w.heap[sb]? := by rw [← hw5]; exact Below.heap_alloc _ _ _ hsb
  have hk5 : w5.heap[w.heap.size]? = some (Obj.cells #[Value.int IntKind.u64 (k.set : Int), Value.int IntKind.i64 a0, Value.int IntKind.i64 a1, Value.int IntKind.i64 a2, Value.int IntKind.i64 a3, Value.int IntKind.i64 a4, Value.int IntKind.i64 a5, Value.int IntKind.i64 a6, Value.int IntKind.i64 a7, Value.int IntKind.i64 a8, Value.int IntKind.i64 a9, Value.int IntKind.i64 a10, Value.int IntKind.i64 a11] 104) := by rw [← hw5]; exact heap_alloc_new w _
  have hz5 : w.heap.size < w5.heap.size := Qu.blk_lt hk5
  have c3 : w5.cell? ⟨sb, 3, none⟩ = some (.map (some mb)) := Qu.blk_cell (hs5.trans HS.out) 3
  have k0 : w5.cell? ⟨w.heap.size, 0, none⟩ = some (Value.int IntKind.u64 (k.set : Int)) := Qu.blk_cell hk5 0
  have k1 : w5.cell? ⟨w.heap.size, 1, none⟩ = some (Value.int IntKind.i64 a0) := Qu.blk_cell hk5 1
  have k2 : w5.cell? ⟨w.heap.size, 2, none⟩ = some (Value.int IntKind.i64 a1) := Qu.blk_cell hk5 2
  have k3 : w5.cell? ⟨w.heap.size, 3, none⟩ = some (Value.int IntKind.i64 a2) := Qu.blk_cell hk5 3
  have k4 : w5.cell? ⟨w.heap.size, 4, none⟩ = some (Value.int IntKind.i64 a3) := Qu.blk_cell hk5 4
  have k5 : w5.cell? ⟨w.heap.size, 5, none⟩ = some (Value.int IntKind.i64 a4) := Qu.blk_cell hk5 5
  have k6 : w5.cell? ⟨w.heap.size, 6, none⟩ = some (Value.int IntKind.i64 a5) := Qu.blk_cell hk5 6
  have k7 : w5.cell? ⟨w.heap.size, 7, none⟩ = some (Value.int IntKind.i64 a6) := Qu.blk_cell hk5 7
  have k8 : w5.cell? ⟨w.heap.size, 8, none⟩ = some (Value.int IntKind.i64 a7) := Qu.blk_cell hk5 8
  have k9 : w5.cell? ⟨w.heap.size, 9, none⟩ = some (Value.int IntKind.i64 a8) := Qu.blk_cell hk5 9
  have k10 : w5.cell? ⟨w.heap.size, 10, none⟩ = some (Value.int IntKind.i64 a9) := Qu.blk_cell hk5 10
  have k11 : w5.cell? ⟨w.heap.size, 11, none⟩ = some (Value.int IntKind.i64 a10) := Qu.blk_cell hk5 11
  have k12 : w5.cell? ⟨w.heap.size, 12, none⟩ = some (Value.int IntKind.i64 a11) := Qu.blk_cell hk5 12
  have hl1 := HL.out w5.drew hm5
  have hl2 := HL.out (w5.alloc (Obj.cells #[] 82)).drew ((Below.heap_alloc _ _ _ (by omega)).trans hm5)
  have hsb5 : sb < w5.heap.size := by omega
  have HB5 := Lib.hid hb5
  have HM5 := Lib.hid hm5
  have HS5 := Lib.hid hs5
  have HK5 := Lib.hid hk5
  clear hw5 hb5 hm5 hs5 hk5
  go_region
  all_goals
    clear hl1 hl2 c3 k0 k1 k2 k3 k4 k5 k6 k7 k8 k9 k10 k11 k12
    go_wp2_with fail
    generalize hw6 : (w5.alloc (Obj.cells #[] 82)).drew = w6
    have hb6 : Qu.Fr (fun i => i = mb) w w6 := by rw [← hw6]; exact (HB5.out.alloc _).drew
    have hm6 : w6.heap[mb]? = w.heap[mb]? := by rw [← hw6]; exact (Below.heap_alloc w5 _ _ (by omega)).trans HM5.out
    have hs6 : w6.heap[sb]? = w.heap[sb]? := by rw [← hw6]; exact (Below.heap_alloc w5 _ _ hsb5).trans HS5.out
    have hk6 : w6.heap[w.heap.size]? = some (Obj.cells #[Value.int IntKind.u64 (k.set : Int), Value.int IntKind.i64 a0, Value.int IntKind.i64 a1, Value.int IntKind.i64 a2, Value.int IntKind.i64 a3, Value.int IntKind.i64 a4, Value.int IntKind.i64 a5, Value.int IntKind.i64 a6, Value.int IntKind.i64 a7, Value.int IntKind.i64 a8, Value.int IntKind.i64 a9, Value.int IntKind.i64 a10, Value.int IntKind.i64 a11] 104) := by rw [← hw6]; exact Qu.blk_alloc HK5.out _
    have hsb6 : sb < w6.heap.size := Qu.blk_lt (hs6.trans HS.out)
    have hz6 : w.heap.size < w6.heap.size := Qu.blk_lt hk6
    have c3 : w6.cell? ⟨sb, 3, none⟩ = some (.map (some mb)) := Qu.blk_cell (hs6.trans HS.out) 3
    have k0 : w6.cell? ⟨w.heap.size, 0, none⟩ = some (Value.int IntKind.u64 (k.set : Int)) := Qu.blk_cell hk6 0
    have k1 : w6.cell? ⟨w.heap.size, 1, none⟩ = some (Value.int IntKind.i64 a0) := Qu.blk_cell hk6 1
    have k2 : w6.cell? ⟨w.heap.size, 2, none⟩ = some (Value.int IntKind.i64 a1) := Qu.blk_cell hk6 2
    have k3 : w6.cell? ⟨w.heap.size, 3, none⟩ = some (Value.int IntKind.i64 a2) := Qu.blk_cell hk6 3
    have k4 : w6.cell? ⟨w.heap.size, 4, none⟩ = some (Value.int IntKind.i64 a3) := Qu.blk_cell hk6 4
    have k5 : w6.cell? ⟨w.heap.size, 5, none⟩ = some (Value.int IntKind.i64 a4) := Qu.blk_cell hk6 5
    have k6 : w6.cell? ⟨w.heap.size, 6, none⟩ = some (Value.int IntKind.i64 a5) := Qu.blk_cell hk6 6
    have k7 : w6.cell? ⟨w.heap.size, 7, none⟩ = some (Value.int IntKind.i64 a6) := Qu.blk_cell hk6 7
    have k8 : w6.cell? ⟨w.heap.size, 8, none⟩ = some (Value.int IntKind.i64 a7) := Qu.blk_cell hk6 8
    have k9 : w6.cell? ⟨w.heap.size, 9, none⟩ = some (Value.int IntKind.i64 a8) := Qu.blk_cell hk6 9
    have k10 : w6.cell? ⟨w.heap.size, 10, none⟩ = some (Value.int IntKind.i64 a9) := Qu.blk_cell hk6 10
    have k11 : w6.cell? ⟨w.heap.size, 11, none⟩ = some (Value.int IntKind.i64 a10) := Qu.blk_cell hk6 11
    have k12 : w6.cell? ⟨w.heap.size, 12, none⟩ = some (Value.int IntKind.i64 a11) := Qu.blk_cell hk6 12
    have HB6 := Lib.hid hb6
    have HM6 := Lib.hid hm6
    clear hw6 hb6 hm6 hs6 hk6
    (refine wp_region_still_tail 6 (by kernel_rfl) (by kernel_rfl) ?_; simp only [List.take_succ_cons, List.take_zero, List.drop_succ_cons, List.drop_zero]; (iterate 6 ((with_reducible refine Ln.still_want (by kernel_rfl) (fun K hK => ?_)); go_simp; refine hK _ ?_; clear hK K)); with_reducible refine wpStill_nil ?_)
    go_wp2_with (at_mapUpdate; refine wpList_mapUpdate_in _ rfl _ _ _ 106 rfl 104 82 Ln.keyed Try.underlying106 unitElem mb _ D rfl (Ln.own_map HD1.out HM6.out) HN.out _ _ _ rfl rfl HKL2.out _ [] unitElem_mk ?_)
    intro w8 hown8 hturn8
    have hgr : World.grownBy _ w8 (some mb) := hturn8.grown
    have hfr8 : Qu.Fr (fun i => i = mb) w w8 := (HB6.out.drew).trans (Qu.Fr.of_grown (S := fun i => i = mb) hgr (fun i hi _ => by injection hi with hi; exact hi.symm)) (fun _ _ h => h)
    have HO8 := Lib.hid hown8
    have HF8 := Lib.hid hfr8
    clear hown8 hturn8 hgr hfr8 c3 k0 k1 k2 k3 k4 k5 k6 k7 k8 k9 k10 k11 k12
    go_wp2_with fail
    go_ret
    exact ⟨rfl, Ln.Kys.put HD1.out HD2.out HD3.out k HOK.out kl HKL.out HO8.out, HF8.out⟩

end Go.Proofs.Ytgdeoodihhcdjaa
