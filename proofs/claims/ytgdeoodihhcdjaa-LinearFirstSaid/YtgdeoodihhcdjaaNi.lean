/- put, where the past may not stand there. -/
import Derived.Test.YtgdeoodihhcdjaaNh
namespace Go.Proofs.Ytgdeoodihhcdjaa
open Go.RowKit
set_option linter.unusedVariables false
set_option linter.unusedSimpArgs false


theorem Ln.bit_is (s i : Nat) (hs : s < 4096) : bits .and .u64 ((s : Int) / 2 ^ i) 1 = if s.testBit i = true then 1 else 0 := by
  have h1 : ((s : Int) / 2 ^ i) = ((s / 2 ^ i : Nat) : Int) := by simp
  have h2 : s / 2 ^ i ≤ s := Nat.div_le_self _ _
  rw [h1]
  have := u64_and_nat (s / 2 ^ i) 1 (by omega) (by omega)
  rw [Nat.testBit_eq_decide_div_mod_eq]
  rw [show (1 : Int) = ((1 : Nat) : Int) from rfl, this, Nat.and_one_is_mod]
  by_cases h : s / 2 ^ i % 2 = 1
  · rw [h]; simp
  · have h0 : s / 2 ^ i % 2 = 0 := by omega
    rw [h0]; simp

theorem Ln.two_rows {w5 : World} {b c : Nat} (hbc : b ≠ c) {t u : TypeId} {z0 z1 z2 z3 z4 z5 z6 z7 v0 v1 v2 v3 v4 v5 v6 v7 v8 v9 v10 v11 v12 : Value} (x0 x1 x2 x3 x4 x5 x6 x7 y0 y1 y2 y3 y4 y5 y6 y7 y8 y9 y10 y11 y12 : Value) (ho : w5.heap[b]? = some (.cells #[z0, z1, z2, z3, z4, z5, z6, z7] t (0, 0))) (hq : w5.heap[c]? = some (.cells #[v0, v1, v2, v3, v4, v5, v6, v7, v8, v9, v10, v11, v12] u (0, 0))) :
    (((((((((((((((((((((w5.setCell ⟨b, 0, none⟩ x0).setCell ⟨b, 1, none⟩ x1).setCell ⟨b, 2, none⟩ x2).setCell ⟨b, 3, none⟩ x3).setCell ⟨b, 4, none⟩ x4).setCell ⟨b, 5, none⟩ x5).setCell ⟨b, 6, none⟩ x6).setCell ⟨b, 7, none⟩ x7).setCell ⟨c, 0, none⟩ y0).setCell ⟨c, 1, none⟩ y1).setCell ⟨c, 2, none⟩ y2).setCell ⟨c, 3, none⟩ y3).setCell ⟨c, 4, none⟩ y4).setCell ⟨c, 5, none⟩ y5).setCell ⟨c, 6, none⟩ y6).setCell ⟨c, 7, none⟩ y7).setCell ⟨c, 8, none⟩ y8).setCell ⟨c, 9, none⟩ y9).setCell ⟨c, 10, none⟩ y10).setCell ⟨c, 11, none⟩ y11).setCell ⟨c, 12, none⟩ y12).heap[b]? = some (.cells #[x0, x1, x2, x3, x4, x5, x6, x7] t (0, 0)) ∧ (((((((((((((((((((((w5.setCell ⟨b, 0, none⟩ x0).setCell ⟨b, 1, none⟩ x1).setCell ⟨b, 2, none⟩ x2).setCell ⟨b, 3, none⟩ x3).setCell ⟨b, 4, none⟩ x4).setCell ⟨b, 5, none⟩ x5).setCell ⟨b, 6, none⟩ x6).setCell ⟨b, 7, none⟩ x7).setCell ⟨c, 0, none⟩ y0).setCell ⟨c, 1, none⟩ y1).setCell ⟨c, 2, none⟩ y2).setCell ⟨c, 3, none⟩ y3).setCell ⟨c, 4, none⟩ y4).setCell ⟨c, 5, none⟩ y5).setCell ⟨c, 6, none⟩ y6).setCell ⟨c, 7, none⟩ y7).setCell ⟨c, 8, none⟩ y8).setCell ⟨c, 9, none⟩ y9).setCell ⟨c, 10, none⟩ y10).setCell ⟨c, 11, none⟩ y11).setCell ⟨c, 12, none⟩ y12).heap[c]? = some (.cells #[y0, y1, y2, y3, y4, y5, y6, y7, y8, y9, y10, y11, y12] u (0, 0)) ∧ ∀ (B : Nat) (w : World), Below B w w5 → B ≤ b → B ≤ c → Below B w (((((((((((((((((((((w5.setCell ⟨b, 0, none⟩ x0).setCell ⟨b, 1, none⟩ x1).setCell ⟨b, 2, none⟩ x2).setCell ⟨b, 3, none⟩ x3).setCell ⟨b, 4, none⟩ x4).setCell ⟨b, 5, none⟩ x5).setCell ⟨b, 6, none⟩ x6).setCell ⟨b, 7, none⟩ x7).setCell ⟨c, 0, none⟩ y0).setCell ⟨c, 1, none⟩ y1).setCell ⟨c, 2, none⟩ y2).setCell ⟨c, 3, none⟩ y3).setCell ⟨c, 4, none⟩ y4).setCell ⟨c, 5, none⟩ y5).setCell ⟨c, 6, none⟩ y6).setCell ⟨c, 7, none⟩ y7).setCell ⟨c, 8, none⟩ y8).setCell ⟨c, 9, none⟩ y9).setCell ⟨c, 10, none⟩ y10).setCell ⟨c, 11, none⟩ y11).setCell ⟨c, 12, none⟩ y12) := by
  refine ⟨?_, ?_, fun B w h h1 h2 => ?_⟩
  · rw [Below.heap_setCell _ _ _ _ (show b ≠ _ from hbc)]; rw [Below.heap_setCell _ _ _ _ (show b ≠ _ from hbc)]; rw [Below.heap_setCell _ _ _ _ (show b ≠ _ from hbc)]; rw [Below.heap_setCell _ _ _ _ (show b ≠ _ from hbc)]; rw [Below.heap_setCell _ _ _ _ (show b ≠ _ from hbc)]; rw [Below.heap_setCell _ _ _ _ (show b ≠ _ from hbc)]; rw [Below.heap_setCell _ _ _ _ (show b ≠ _ from hbc)]; rw [Below.heap_setCell _ _ _ _ (show b ≠ _ from hbc)]; rw [Below.heap_setCell _ _ _ _ (show b ≠ _ from hbc)]; rw [Below.heap_setCell _ _ _ _ (show b ≠ _ from hbc)]; rw [Below.heap_setCell _ _ _ _ (show b ≠ _ from hbc)]; rw [Below.heap_setCell _ _ _ _ (show b ≠ _ from hbc)]; rw [Below.heap_setCell _ _ _ _ (show b ≠ _ from hbc)]
    have h := (Qu.blk_set (Qu.blk_set (Qu.blk_set (Qu.blk_set (Qu.blk_set (Qu.blk_set (Qu.blk_set (Qu.blk_set ho 0 x0) 1 x1) 2 x2) 3 x3) 4 x4) 5 x5) 6 x6) 7 x7)
    simpa using h
  · have h0 : ((((((((w5.setCell ⟨b, 0, none⟩ x0).setCell ⟨b, 1, none⟩ x1).setCell ⟨b, 2, none⟩ x2).setCell ⟨b, 3, none⟩ x3).setCell ⟨b, 4, none⟩ x4).setCell ⟨b, 5, none⟩ x5).setCell ⟨b, 6, none⟩ x6).setCell ⟨b, 7, none⟩ x7).heap[c]? = some (.cells #[v0, v1, v2, v3, v4, v5, v6, v7, v8, v9, v10, v11, v12] u (0, 0)) := by
      rw [Below.heap_setCell _ _ _ _ (show c ≠ _ from hbc.symm)]; rw [Below.heap_setCell _ _ _ _ (show c ≠ _ from hbc.symm)]; rw [Below.heap_setCell _ _ _ _ (show c ≠ _ from hbc.symm)]; rw [Below.heap_setCell _ _ _ _ (show c ≠ _ from hbc.symm)]; rw [Below.heap_setCell _ _ _ _ (show c ≠ _ from hbc.symm)]; rw [Below.heap_setCell _ _ _ _ (show c ≠ _ from hbc.symm)]; rw [Below.heap_setCell _ _ _ _ (show c ≠ _ from hbc.symm)]; rw [Below.heap_setCell _ _ _ _ (show c ≠ _ from hbc.symm)]
      exact hq
    have h := (Qu.blk_set (Qu.blk_set (Qu.blk_set (Qu.blk_set (Qu.blk_set (Qu.blk_set (Qu.blk_set (Qu.blk_set (Qu.blk_set (Qu.blk_set (Qu.blk_set (Qu.blk_set (Qu.blk_set h0 0 y0) 1 y1) 2 y2) 3 y3) 4 y4) 5 y5) 6 y6) 7 y7) 8 y8) 9 y9) 10 y10) 11 y11) 12 y12)
    simpa using h
  · iterate 13 refine Ln.below_set ?_ h2 _ _
    iterate 8 refine Ln.below_set ?_ h1 _ _
    exact h

theorem Ln.andNot_zero (B S : Nat) (hB : B < 18446744073709551616) (hS : S < 18446744073709551616) : bits .andNot .u64 (B : Int) (S : Int) = 0 ↔ B &&& S = B := by
  rw [u64_andNot_nat B S hB hS]
  have hS' : S < 2 ^ 64 := hS
  have hB' : B < 2 ^ 64 := hB
  have e : 18446744073709551615 - S = 2 ^ 64 - (S + 1) := by omega
  rw [e]
  constructor
  · intro h
    have h : B &&& (2 ^ 64 - (S + 1)) = 0 := by exact_mod_cast h
    refine Nat.eq_of_testBit_eq fun j => ?_
    have h2 := congrArg (fun x => x.testBit j) h
    simp only [Nat.testBit_and, Nat.testBit_two_pow_sub_succ hS', Nat.zero_testBit] at h2
    rw [Nat.testBit_and]
    by_cases hj : j < 64
    · simp [hj] at h2
      cases hb : B.testBit j
      · rfl
      · simp [h2 hb]
    · have : B.testBit j = false := Nat.testBit_lt_two_pow (Nat.lt_of_lt_of_le hB' (Nat.pow_le_pow_right (by omega) (by omega)))
      rw [this]; rfl
  · intro h
    have h0 : B &&& (2 ^ 64 - (S + 1)) = 0 := by
      refine Nat.eq_of_testBit_eq fun j => ?_
      have h2 := congrArg (fun x => x.testBit j) h
      simp only [Nat.testBit_and] at h2
      rw [Nat.testBit_and, Nat.testBit_two_pow_sub_succ hS', Nat.zero_testBit]
      cases hb : B.testBit j
      · rfl
      · rw [hb] at h2
        simp only [Bool.true_and] at h2
        rw [h2]; simp
    rw [h0]; rfl
theorem Ln.before_lt (ps : List Ln.Past) (i : Nat) (hn : ps.length ≤ 12) : Ln.beforeF ps i < 18446744073709551616 := Ln.maskF_lt12 _ _ hn
def Ln.NoPut (e : Ending) : Prop := ∃ (n : Ln.Mod) (A8 : Option Addr) (l8 c8 : Nat) (l : Ln.Key), Ln.KOk l ∧ e = .returned (.tuple #[.agg #[.int .i64 n.base, .int .i64 n.first, .int .i64 n.durable, .int .i64 n.next, .int .i64 n.limit, .slice A8 l8 c8, .bool n.failed, .bool n.closed], .agg (Ln.kc l), .bool false])
set_option maxHeartbeats 2000000 in
set_option maxRecDepth 100000 in
theorem put_bit (mv : Value) (m : Ln.Mod) (k : Ln.Key) (i sb mb bb : Nat) (A : Option Addr) (cp : Nat) (ps : List Ln.Past) (OV : Value) (most : Int) (w : World)
    (hs : Ln.Sch w sb mb bb A cp ps OV most) (hm : Ln.ModAt w mv m) (hw : Ln.WF m) (hd : ∀ r ∈ m.recs, r.length ≤ 4096) (hok : Ln.KOk k) (hp : Ln.Pasts w A cp ps) (hi : i < ps.length) (hn : ps.length ≤ 12) (hbit : k.set.testBit i = true) :
    Calls Try.prog 62 #[.pointer (some ⟨sb, 0, none⟩), mv, .agg (Ln.kc k), .int .i64 i] w fun e w' => Below w.heap.size w w' ∧ Ln.NoPut e := by
  have hbw : bits .and .u64 ((k.set : Int) / 2 ^ i) 1 = 1 := by rw [Ln.bit_is _ _ (by have := hok.set; omega), if_pos hbit]
  have HS := Lib.hid hs
  have HP := Lib.hid hp
  obtain ⟨rv, rfl, hrec⟩ := hm
  obtain ⟨Ar, cr, rfl⟩ := hrec.slice
  have HREC := Lib.hid hrec
  obtain ⟨a0, a1, a2, a3, a4, a5, a6, a7, a8, a9, a10, a11, he, hl⟩ := Ln.kc_lit hok
  have HE := Lib.hid he
  have HL := Lib.hid hl
  have HOK := Lib.hid hok
  rw [he]
  have hil : (i : Int) < ps.length := by omega
  clear hrec he hl hok
  obtain ⟨hsb, hbb⟩ := hs
  have hsblt := Qu.blk_lt hsb
  have hbblt := Qu.blk_lt hbb
  have HSB := Lib.hid hsb
  have HBB := Lib.hid hbb
  clear hsb hbb hp
  go_enter Try.func62, Try.ntmps62
  unfold Ln.cells
  go_wp2_with fail
  generalize hw5 : (((w.alloc (Obj.cells #[Value.int IntKind.i64 m.base, Value.int IntKind.i64 m.first, Value.int IntKind.i64 m.durable, Value.int IntKind.i64 m.next, Value.int IntKind.i64 m.limit, Value.slice Ar m.recs.length cr, Value.bool m.failed, Value.bool m.closed] 71)).alloc (Obj.cells #[Value.int IntKind.u64 (k.set : Int), Value.int IntKind.i64 a0, Value.int IntKind.i64 a1, Value.int IntKind.i64 a2, Value.int IntKind.i64 a3, Value.int IntKind.i64 a4, Value.int IntKind.i64 a5, Value.int IntKind.i64 a6, Value.int IntKind.i64 a7, Value.int IntKind.i64 a8, Value.int IntKind.i64 a9, Value.int IntKind.i64 a10, Value.int IntKind.i64 a11] 104)).alloc (Obj.cells #[Value.int IntKind.i64 0, Value.int IntKind.i64 0, Value.int IntKind.i64 0, Value.int IntKind.i64 0, Value.int IntKind.i64 0, Value.slice none 0 0, Value.bool false, Value.bool false] 71)).alloc (Obj.cells #[Value.int IntKind.u64 0, Value.int IntKind.i64 0, Value.int IntKind.i64 0, Value.int IntKind.i64 0, Value.int IntKind.i64 0, Value.int IntKind.i64 0, Value.int IntKind.i64 0, Value.int IntKind.i64 0, Value.int IntKind.i64 0, Value.int IntKind.i64 0, Value.int IntKind.i64 0, Value.int IntKind.i64 0, Value.int IntKind.i64 0] 104) = w5
  obtain ⟨hb5, hz5, hm5, hk5, ho5, hq5⟩ := Ln.made4 hw5
  have hsb5 : w5.heap[sb]? = _ := Qu.blk_below HSB.out hb5
  have hbb5 : w5.heap[bb]? = _ := Qu.blk_below HBB.out hb5
  have s0 : w5.cell? ⟨sb, 0, none⟩ = some (.slice A ps.length cp) := Qu.blk_cell hsb5 0
  have s2 : w5.cell? ⟨sb, 2, none⟩ = some (.slice (some ⟨bb, 0, none⟩) ps.length ps.length) := Qu.blk_cell hsb5 2
  have q0 : w5.cell? ⟨bb, i, none⟩ = some (.int .u64 (Ln.beforeF ps i : Int)) := by rw [Qu.blk_cell hbb5]; exact Ln.barr_get _ _ _ hi
  have hsblt5 := Qu.blk_lt hsb5
  have hbblt5 := Qu.blk_lt hbb5
  have k0 : w5.cell? ⟨w.heap.size + 1, 0, none⟩ = some (Value.int IntKind.u64 (k.set : Int)) := Qu.blk_cell hk5 0
  have k1 : w5.cell? ⟨w.heap.size + 1, 1, none⟩ = some (Value.int IntKind.i64 a0) := Qu.blk_cell hk5 1
  have k2 : w5.cell? ⟨w.heap.size + 1, 2, none⟩ = some (Value.int IntKind.i64 a1) := Qu.blk_cell hk5 2
  have k3 : w5.cell? ⟨w.heap.size + 1, 3, none⟩ = some (Value.int IntKind.i64 a2) := Qu.blk_cell hk5 3
  have k4 : w5.cell? ⟨w.heap.size + 1, 4, none⟩ = some (Value.int IntKind.i64 a3) := Qu.blk_cell hk5 4
  have k5 : w5.cell? ⟨w.heap.size + 1, 5, none⟩ = some (Value.int IntKind.i64 a4) := Qu.blk_cell hk5 5
  have k6 : w5.cell? ⟨w.heap.size + 1, 6, none⟩ = some (Value.int IntKind.i64 a5) := Qu.blk_cell hk5 6
  have k7 : w5.cell? ⟨w.heap.size + 1, 7, none⟩ = some (Value.int IntKind.i64 a6) := Qu.blk_cell hk5 7
  have k8 : w5.cell? ⟨w.heap.size + 1, 8, none⟩ = some (Value.int IntKind.i64 a7) := Qu.blk_cell hk5 8
  have k9 : w5.cell? ⟨w.heap.size + 1, 9, none⟩ = some (Value.int IntKind.i64 a8) := Qu.blk_cell hk5 9
  have k10 : w5.cell? ⟨w.heap.size + 1, 10, none⟩ = some (Value.int IntKind.i64 a9) := Qu.blk_cell hk5 10
  have k11 : w5.cell? ⟨w.heap.size + 1, 11, none⟩ = some (Value.int IntKind.i64 a10) := Qu.blk_cell hk5 11
  have k12 : w5.cell? ⟨w.heap.size + 1, 12, none⟩ = some (Value.int IntKind.i64 a11) := Qu.blk_cell hk5 12
  have m0 : w5.cell? ⟨w.heap.size, 0, none⟩ = some (Value.int IntKind.i64 m.base) := Qu.blk_cell hm5 0
  have m1 : w5.cell? ⟨w.heap.size, 1, none⟩ = some (Value.int IntKind.i64 m.first) := Qu.blk_cell hm5 1
  have m2 : w5.cell? ⟨w.heap.size, 2, none⟩ = some (Value.int IntKind.i64 m.durable) := Qu.blk_cell hm5 2
  have m3 : w5.cell? ⟨w.heap.size, 3, none⟩ = some (Value.int IntKind.i64 m.next) := Qu.blk_cell hm5 3
  have m4 : w5.cell? ⟨w.heap.size, 4, none⟩ = some (Value.int IntKind.i64 m.limit) := Qu.blk_cell hm5 4
  have m5 : w5.cell? ⟨w.heap.size, 5, none⟩ = some (Value.slice Ar m.recs.length cr) := Qu.blk_cell hm5 5
  have m6 : w5.cell? ⟨w.heap.size, 6, none⟩ = some (Value.bool m.failed) := Qu.blk_cell hm5 6
  have m7 : w5.cell? ⟨w.heap.size, 7, none⟩ = some (Value.bool m.closed) := Qu.blk_cell hm5 7
  have HB5 := Lib.hid hb5
  have HSB5 := Lib.hid hsb5
  have HM5 := Lib.hid hm5
  have HK5 := Lib.hid hk5
  have HO5 := Lib.hid ho5
  have HQ5 := Lib.hid hq5
  clear hw5 hb5 hm5 hk5 ho5 hq5 hsb5 hbb5
  (refine wp_region_still_tail 18 (by kernel_rfl) (by kernel_rfl) ?_; simp only [List.take_succ_cons, List.take_zero, List.drop_succ_cons, List.drop_zero]; (iterate 7 ((with_reducible refine Ln.still_want (by kernel_rfl) (fun K hK => ?_)); go_simp; refine hK _ ?_; clear hK K)); (iterate 11 ((with_reducible refine Ln.still_skip (by kernel_rfl) (fun K hK => ?_)); go_simp; refine hK _ ?_; clear hK K)); with_reducible refine wpStill_nil ?_)
  go_wp2_with fail
  clear hbw s0 s2 q0
  have o0 : w5.cell? ⟨w.heap.size + 1 + 1, 0, none⟩ = some (Value.int IntKind.i64 0) := Qu.blk_cell HO5.out 0
  have o1 : w5.cell? ⟨w.heap.size + 1 + 1, 1, none⟩ = some (Value.int IntKind.i64 0) := Qu.blk_cell HO5.out 1
  have o2 : w5.cell? ⟨w.heap.size + 1 + 1, 2, none⟩ = some (Value.int IntKind.i64 0) := Qu.blk_cell HO5.out 2
  have o3 : w5.cell? ⟨w.heap.size + 1 + 1, 3, none⟩ = some (Value.int IntKind.i64 0) := Qu.blk_cell HO5.out 3
  have o4 : w5.cell? ⟨w.heap.size + 1 + 1, 4, none⟩ = some (Value.int IntKind.i64 0) := Qu.blk_cell HO5.out 4
  have o5 : w5.cell? ⟨w.heap.size + 1 + 1, 5, none⟩ = some (Value.slice none 0 0) := Qu.blk_cell HO5.out 5
  have o6 : w5.cell? ⟨w.heap.size + 1 + 1, 6, none⟩ = some (Value.bool false) := Qu.blk_cell HO5.out 6
  have o7 : w5.cell? ⟨w.heap.size + 1 + 1, 7, none⟩ = some (Value.bool false) := Qu.blk_cell HO5.out 7
  have q0 : w5.cell? ⟨w.heap.size + 1 + 1 + 1, 0, none⟩ = some (Value.int IntKind.u64 0) := Qu.blk_cell HQ5.out 0
  have q1 : w5.cell? ⟨w.heap.size + 1 + 1 + 1, 1, none⟩ = some (Value.int IntKind.i64 0) := Qu.blk_cell HQ5.out 1
  have q2 : w5.cell? ⟨w.heap.size + 1 + 1 + 1, 2, none⟩ = some (Value.int IntKind.i64 0) := Qu.blk_cell HQ5.out 2
  have q3 : w5.cell? ⟨w.heap.size + 1 + 1 + 1, 3, none⟩ = some (Value.int IntKind.i64 0) := Qu.blk_cell HQ5.out 3
  have q4 : w5.cell? ⟨w.heap.size + 1 + 1 + 1, 4, none⟩ = some (Value.int IntKind.i64 0) := Qu.blk_cell HQ5.out 4
  have q5 : w5.cell? ⟨w.heap.size + 1 + 1 + 1, 5, none⟩ = some (Value.int IntKind.i64 0) := Qu.blk_cell HQ5.out 5
  have q6 : w5.cell? ⟨w.heap.size + 1 + 1 + 1, 6, none⟩ = some (Value.int IntKind.i64 0) := Qu.blk_cell HQ5.out 6
  have q7 : w5.cell? ⟨w.heap.size + 1 + 1 + 1, 7, none⟩ = some (Value.int IntKind.i64 0) := Qu.blk_cell HQ5.out 7
  have q8 : w5.cell? ⟨w.heap.size + 1 + 1 + 1, 8, none⟩ = some (Value.int IntKind.i64 0) := Qu.blk_cell HQ5.out 8
  have q9 : w5.cell? ⟨w.heap.size + 1 + 1 + 1, 9, none⟩ = some (Value.int IntKind.i64 0) := Qu.blk_cell HQ5.out 9
  have q10 : w5.cell? ⟨w.heap.size + 1 + 1 + 1, 10, none⟩ = some (Value.int IntKind.i64 0) := Qu.blk_cell HQ5.out 10
  have q11 : w5.cell? ⟨w.heap.size + 1 + 1 + 1, 11, none⟩ = some (Value.int IntKind.i64 0) := Qu.blk_cell HQ5.out 11
  have q12 : w5.cell? ⟨w.heap.size + 1 + 1 + 1, 12, none⟩ = some (Value.int IntKind.i64 0) := Qu.blk_cell HQ5.out 12
  have of0 := Qu.blk_frozen HO5.out 0
  have of1 := Qu.blk_frozen HO5.out 1
  have of2 := Qu.blk_frozen HO5.out 2
  have of3 := Qu.blk_frozen HO5.out 3
  have of4 := Qu.blk_frozen HO5.out 4
  have of5 := Qu.blk_frozen HO5.out 5
  have of6 := Qu.blk_frozen HO5.out 6
  have of7 := Qu.blk_frozen HO5.out 7
  have qf0 := Qu.blk_frozen HQ5.out 0
  have qf1 := Qu.blk_frozen HQ5.out 1
  have qf2 := Qu.blk_frozen HQ5.out 2
  have qf3 := Qu.blk_frozen HQ5.out 3
  have qf4 := Qu.blk_frozen HQ5.out 4
  have qf5 := Qu.blk_frozen HQ5.out 5
  have qf6 := Qu.blk_frozen HQ5.out 6
  have qf7 := Qu.blk_frozen HQ5.out 7
  have qf8 := Qu.blk_frozen HQ5.out 8
  have qf9 := Qu.blk_frozen HQ5.out 9
  have qf10 := Qu.blk_frozen HQ5.out 10
  have qf11 := Qu.blk_frozen HQ5.out 11
  have qf12 := Qu.blk_frozen HQ5.out 12
  go_region
  all_goals
    clear o0 o1 o2 o3 o4 o5 o6 o7 q0 q1 q2 q3 q4 q5 q6 q7 q8 q9 q10 q11 q12 of0 of1 of2 of3 of4 of5 of6 of7 qf0 qf1 qf2 qf3 qf4 qf5 qf6 qf7 qf8 qf9 qf10 qf11 qf12 k0 k1 k2 k3 k4 k5 k6 k7 k8 k9 k10 k11 k12 m0 m1 m2 m3 m4 m5 m6 m7
    go_wp2_with fail
    have htr := Ln.two_rows (by omega) (Value.int IntKind.i64 m.base) (Value.int IntKind.i64 m.first) (Value.int IntKind.i64 m.durable) (Value.int IntKind.i64 m.next) (Value.int IntKind.i64 m.limit) (Value.slice Ar m.recs.length cr) (Value.bool m.failed) (Value.bool m.closed) (Value.int IntKind.u64 (k.set : Int)) (Value.int IntKind.i64 a0) (Value.int IntKind.i64 a1) (Value.int IntKind.i64 a2) (Value.int IntKind.i64 a3) (Value.int IntKind.i64 a4) (Value.int IntKind.i64 a5) (Value.int IntKind.i64 a6) (Value.int IntKind.i64 a7) (Value.int IntKind.i64 a8) (Value.int IntKind.i64 a9) (Value.int IntKind.i64 a10) (Value.int IntKind.i64 a11) HO5.out HQ5.out
    generalize (((((((((((((((((((((w5.setCell ⟨w.heap.size + 1 + 1, 0, none⟩ (Value.int IntKind.i64 m.base)).setCell ⟨w.heap.size + 1 + 1, 1, none⟩ (Value.int IntKind.i64 m.first)).setCell ⟨w.heap.size + 1 + 1, 2, none⟩ (Value.int IntKind.i64 m.durable)).setCell ⟨w.heap.size + 1 + 1, 3, none⟩ (Value.int IntKind.i64 m.next)).setCell ⟨w.heap.size + 1 + 1, 4, none⟩ (Value.int IntKind.i64 m.limit)).setCell ⟨w.heap.size + 1 + 1, 5, none⟩ (Value.slice Ar m.recs.length cr)).setCell ⟨w.heap.size + 1 + 1, 6, none⟩ (Value.bool m.failed)).setCell ⟨w.heap.size + 1 + 1, 7, none⟩ (Value.bool m.closed)).setCell ⟨w.heap.size + 1 + 1 + 1, 0, none⟩ (Value.int IntKind.u64 (k.set : Int))).setCell ⟨w.heap.size + 1 + 1 + 1, 1, none⟩ (Value.int IntKind.i64 a0)).setCell ⟨w.heap.size + 1 + 1 + 1, 2, none⟩ (Value.int IntKind.i64 a1)).setCell ⟨w.heap.size + 1 + 1 + 1, 3, none⟩ (Value.int IntKind.i64 a2)).setCell ⟨w.heap.size + 1 + 1 + 1, 4, none⟩ (Value.int IntKind.i64 a3)).setCell ⟨w.heap.size + 1 + 1 + 1, 5, none⟩ (Value.int IntKind.i64 a4)).setCell ⟨w.heap.size + 1 + 1 + 1, 6, none⟩ (Value.int IntKind.i64 a5)).setCell ⟨w.heap.size + 1 + 1 + 1, 7, none⟩ (Value.int IntKind.i64 a6)).setCell ⟨w.heap.size + 1 + 1 + 1, 8, none⟩ (Value.int IntKind.i64 a7)).setCell ⟨w.heap.size + 1 + 1 + 1, 9, none⟩ (Value.int IntKind.i64 a8)).setCell ⟨w.heap.size + 1 + 1 + 1, 10, none⟩ (Value.int IntKind.i64 a9)).setCell ⟨w.heap.size + 1 + 1 + 1, 11, none⟩ (Value.int IntKind.i64 a10)).setCell ⟨w.heap.size + 1 + 1 + 1, 12, none⟩ (Value.int IntKind.i64 a11)) = W at htr ⊢
    obtain ⟨hr8, hr9, hrb⟩ := htr
    have hbW := hrb w.heap.size w HB5.out (by omega) (by omega)
    have o0 : W.cell? ⟨w.heap.size + 1 + 1, 0, none⟩ = some (Value.int IntKind.i64 m.base) := Qu.blk_cell hr8 0
    have o1 : W.cell? ⟨w.heap.size + 1 + 1, 1, none⟩ = some (Value.int IntKind.i64 m.first) := Qu.blk_cell hr8 1
    have o2 : W.cell? ⟨w.heap.size + 1 + 1, 2, none⟩ = some (Value.int IntKind.i64 m.durable) := Qu.blk_cell hr8 2
    have o3 : W.cell? ⟨w.heap.size + 1 + 1, 3, none⟩ = some (Value.int IntKind.i64 m.next) := Qu.blk_cell hr8 3
    have o4 : W.cell? ⟨w.heap.size + 1 + 1, 4, none⟩ = some (Value.int IntKind.i64 m.limit) := Qu.blk_cell hr8 4
    have o5 : W.cell? ⟨w.heap.size + 1 + 1, 5, none⟩ = some (Value.slice Ar m.recs.length cr) := Qu.blk_cell hr8 5
    have o6 : W.cell? ⟨w.heap.size + 1 + 1, 6, none⟩ = some (Value.bool m.failed) := Qu.blk_cell hr8 6
    have o7 : W.cell? ⟨w.heap.size + 1 + 1, 7, none⟩ = some (Value.bool m.closed) := Qu.blk_cell hr8 7
    have q0 : W.cell? ⟨w.heap.size + 1 + 1 + 1, 0, none⟩ = some (Value.int IntKind.u64 (k.set : Int)) := Qu.blk_cell hr9 0
    have q1 : W.cell? ⟨w.heap.size + 1 + 1 + 1, 1, none⟩ = some (Value.int IntKind.i64 a0) := Qu.blk_cell hr9 1
    have q2 : W.cell? ⟨w.heap.size + 1 + 1 + 1, 2, none⟩ = some (Value.int IntKind.i64 a1) := Qu.blk_cell hr9 2
    have q3 : W.cell? ⟨w.heap.size + 1 + 1 + 1, 3, none⟩ = some (Value.int IntKind.i64 a2) := Qu.blk_cell hr9 3
    have q4 : W.cell? ⟨w.heap.size + 1 + 1 + 1, 4, none⟩ = some (Value.int IntKind.i64 a3) := Qu.blk_cell hr9 4
    have q5 : W.cell? ⟨w.heap.size + 1 + 1 + 1, 5, none⟩ = some (Value.int IntKind.i64 a4) := Qu.blk_cell hr9 5
    have q6 : W.cell? ⟨w.heap.size + 1 + 1 + 1, 6, none⟩ = some (Value.int IntKind.i64 a5) := Qu.blk_cell hr9 6
    have q7 : W.cell? ⟨w.heap.size + 1 + 1 + 1, 7, none⟩ = some (Value.int IntKind.i64 a6) := Qu.blk_cell hr9 7
    have q8 : W.cell? ⟨w.heap.size + 1 + 1 + 1, 8, none⟩ = some (Value.int IntKind.i64 a7) := Qu.blk_cell hr9 8
    have q9 : W.cell? ⟨w.heap.size + 1 + 1 + 1, 9, none⟩ = some (Value.int IntKind.i64 a8) := Qu.blk_cell hr9 9
    have q10 : W.cell? ⟨w.heap.size + 1 + 1 + 1, 10, none⟩ = some (Value.int IntKind.i64 a9) := Qu.blk_cell hr9 10
    have q11 : W.cell? ⟨w.heap.size + 1 + 1 + 1, 11, none⟩ = some (Value.int IntKind.i64 a10) := Qu.blk_cell hr9 11
    have q12 : W.cell? ⟨w.heap.size + 1 + 1 + 1, 12, none⟩ = some (Value.int IntKind.i64 a11) := Qu.blk_cell hr9 12
    clear hrb hr8 hr9
    refine bodyPost_ret (v := .tuple #[.agg #[Value.int IntKind.i64 m.base, Value.int IntKind.i64 m.first, Value.int IntKind.i64 m.durable, Value.int IntKind.i64 m.next, Value.int IntKind.i64 m.limit, Value.slice Ar m.recs.length cr, Value.bool m.failed, Value.bool m.closed], .agg #[Value.int IntKind.u64 (k.set : Int), Value.int IntKind.i64 a0, Value.int IntKind.i64 a1, Value.int IntKind.i64 a2, Value.int IntKind.i64 a3, Value.int IntKind.i64 a4, Value.int IntKind.i64 a5, Value.int IntKind.i64 a6, Value.int IntKind.i64 a7, Value.int IntKind.i64 a8, Value.int IntKind.i64 a9, Value.int IntKind.i64 a10, Value.int IntKind.i64 a11], .bool false]) (by simp [results, Try.results62, go_sem, asAddr, o0, o1, o2, o3, o4, o5, o6, o7, q0, q1, q2, q3, q4, q5, q6, q7, q8, q9, q10, q11, q12]) rfl ⟨hbW.drew.drew, m, Ar, _, cr, k, HOK.out, by rw [HE.out]⟩
set_option maxHeartbeats 2000000 in
set_option maxRecDepth 100000 in
theorem put_sub (mv : Value) (m : Ln.Mod) (k : Ln.Key) (i sb mb bb : Nat) (A : Option Addr) (cp : Nat) (ps : List Ln.Past) (OV : Value) (most : Int) (w : World)
    (hs : Ln.Sch w sb mb bb A cp ps OV most) (hm : Ln.ModAt w mv m) (hw : Ln.WF m) (hd : ∀ r ∈ m.recs, r.length ≤ 4096) (hok : Ln.KOk k) (hp : Ln.Pasts w A cp ps) (hi : i < ps.length) (hn : ps.length ≤ 12) (hbit : k.set.testBit i = false) (hsub : ¬ (Ln.beforeF ps i &&& k.set = Ln.beforeF ps i)) :
    Calls Try.prog 62 #[.pointer (some ⟨sb, 0, none⟩), mv, .agg (Ln.kc k), .int .i64 i] w fun e w' => Below w.heap.size w w' ∧ Ln.NoPut e := by
  have hbw : bits .and .u64 ((k.set : Int) / 2 ^ i) 1 = 0 := by rw [Ln.bit_is _ _ (by have := hok.set; omega), if_neg (by rw [hbit]; simp)]
  have hbn : bits .andNot .u64 (Ln.beforeF ps i : Int) (k.set : Int) ≠ 0 := fun h => hsub ((Ln.andNot_zero _ _ (Ln.before_lt ps i hn) (by have := hok.set; omega)).1 h)
  have hbn2 : (bits .andNot .u64 (Ln.beforeF ps i : Int) (k.set : Int) != 0) = true := bne_iff_ne.2 hbn
  clear hsub
  have HS := Lib.hid hs
  have HP := Lib.hid hp
  obtain ⟨rv, rfl, hrec⟩ := hm
  obtain ⟨Ar, cr, rfl⟩ := hrec.slice
  have HREC := Lib.hid hrec
  obtain ⟨a0, a1, a2, a3, a4, a5, a6, a7, a8, a9, a10, a11, he, hl⟩ := Ln.kc_lit hok
  have HE := Lib.hid he
  have HL := Lib.hid hl
  have HOK := Lib.hid hok
  rw [he]
  have hil : (i : Int) < ps.length := by omega
  clear hrec he hl hok
  obtain ⟨hsb, hbb⟩ := hs
  have hsblt := Qu.blk_lt hsb
  have hbblt := Qu.blk_lt hbb
  have HSB := Lib.hid hsb
  have HBB := Lib.hid hbb
  clear hsb hbb hp
  go_enter Try.func62, Try.ntmps62
  unfold Ln.cells
  go_wp2_with fail
  generalize hw5 : (((w.alloc (Obj.cells #[Value.int IntKind.i64 m.base, Value.int IntKind.i64 m.first, Value.int IntKind.i64 m.durable, Value.int IntKind.i64 m.next, Value.int IntKind.i64 m.limit, Value.slice Ar m.recs.length cr, Value.bool m.failed, Value.bool m.closed] 71)).alloc (Obj.cells #[Value.int IntKind.u64 (k.set : Int), Value.int IntKind.i64 a0, Value.int IntKind.i64 a1, Value.int IntKind.i64 a2, Value.int IntKind.i64 a3, Value.int IntKind.i64 a4, Value.int IntKind.i64 a5, Value.int IntKind.i64 a6, Value.int IntKind.i64 a7, Value.int IntKind.i64 a8, Value.int IntKind.i64 a9, Value.int IntKind.i64 a10, Value.int IntKind.i64 a11] 104)).alloc (Obj.cells #[Value.int IntKind.i64 0, Value.int IntKind.i64 0, Value.int IntKind.i64 0, Value.int IntKind.i64 0, Value.int IntKind.i64 0, Value.slice none 0 0, Value.bool false, Value.bool false] 71)).alloc (Obj.cells #[Value.int IntKind.u64 0, Value.int IntKind.i64 0, Value.int IntKind.i64 0, Value.int IntKind.i64 0, Value.int IntKind.i64 0, Value.int IntKind.i64 0, Value.int IntKind.i64 0, Value.int IntKind.i64 0, Value.int IntKind.i64 0, Value.int IntKind.i64 0, Value.int IntKind.i64 0, Value.int IntKind.i64 0, Value.int IntKind.i64 0] 104) = w5
  obtain ⟨hb5, hz5, hm5, hk5, ho5, hq5⟩ := Ln.made4 hw5
  have hsb5 : w5.heap[sb]? = _ := Qu.blk_below HSB.out hb5
  have hbb5 : w5.heap[bb]? = _ := Qu.blk_below HBB.out hb5
  have s0 : w5.cell? ⟨sb, 0, none⟩ = some (.slice A ps.length cp) := Qu.blk_cell hsb5 0
  have s2 : w5.cell? ⟨sb, 2, none⟩ = some (.slice (some ⟨bb, 0, none⟩) ps.length ps.length) := Qu.blk_cell hsb5 2
  have q0 : w5.cell? ⟨bb, i, none⟩ = some (.int .u64 (Ln.beforeF ps i : Int)) := by rw [Qu.blk_cell hbb5]; exact Ln.barr_get _ _ _ hi
  have hsblt5 := Qu.blk_lt hsb5
  have hbblt5 := Qu.blk_lt hbb5
  have k0 : w5.cell? ⟨w.heap.size + 1, 0, none⟩ = some (Value.int IntKind.u64 (k.set : Int)) := Qu.blk_cell hk5 0
  have k1 : w5.cell? ⟨w.heap.size + 1, 1, none⟩ = some (Value.int IntKind.i64 a0) := Qu.blk_cell hk5 1
  have k2 : w5.cell? ⟨w.heap.size + 1, 2, none⟩ = some (Value.int IntKind.i64 a1) := Qu.blk_cell hk5 2
  have k3 : w5.cell? ⟨w.heap.size + 1, 3, none⟩ = some (Value.int IntKind.i64 a2) := Qu.blk_cell hk5 3
  have k4 : w5.cell? ⟨w.heap.size + 1, 4, none⟩ = some (Value.int IntKind.i64 a3) := Qu.blk_cell hk5 4
  have k5 : w5.cell? ⟨w.heap.size + 1, 5, none⟩ = some (Value.int IntKind.i64 a4) := Qu.blk_cell hk5 5
  have k6 : w5.cell? ⟨w.heap.size + 1, 6, none⟩ = some (Value.int IntKind.i64 a5) := Qu.blk_cell hk5 6
  have k7 : w5.cell? ⟨w.heap.size + 1, 7, none⟩ = some (Value.int IntKind.i64 a6) := Qu.blk_cell hk5 7
  have k8 : w5.cell? ⟨w.heap.size + 1, 8, none⟩ = some (Value.int IntKind.i64 a7) := Qu.blk_cell hk5 8
  have k9 : w5.cell? ⟨w.heap.size + 1, 9, none⟩ = some (Value.int IntKind.i64 a8) := Qu.blk_cell hk5 9
  have k10 : w5.cell? ⟨w.heap.size + 1, 10, none⟩ = some (Value.int IntKind.i64 a9) := Qu.blk_cell hk5 10
  have k11 : w5.cell? ⟨w.heap.size + 1, 11, none⟩ = some (Value.int IntKind.i64 a10) := Qu.blk_cell hk5 11
  have k12 : w5.cell? ⟨w.heap.size + 1, 12, none⟩ = some (Value.int IntKind.i64 a11) := Qu.blk_cell hk5 12
  have m0 : w5.cell? ⟨w.heap.size, 0, none⟩ = some (Value.int IntKind.i64 m.base) := Qu.blk_cell hm5 0
  have m1 : w5.cell? ⟨w.heap.size, 1, none⟩ = some (Value.int IntKind.i64 m.first) := Qu.blk_cell hm5 1
  have m2 : w5.cell? ⟨w.heap.size, 2, none⟩ = some (Value.int IntKind.i64 m.durable) := Qu.blk_cell hm5 2
  have m3 : w5.cell? ⟨w.heap.size, 3, none⟩ = some (Value.int IntKind.i64 m.next) := Qu.blk_cell hm5 3
  have m4 : w5.cell? ⟨w.heap.size, 4, none⟩ = some (Value.int IntKind.i64 m.limit) := Qu.blk_cell hm5 4
  have m5 : w5.cell? ⟨w.heap.size, 5, none⟩ = some (Value.slice Ar m.recs.length cr) := Qu.blk_cell hm5 5
  have m6 : w5.cell? ⟨w.heap.size, 6, none⟩ = some (Value.bool m.failed) := Qu.blk_cell hm5 6
  have m7 : w5.cell? ⟨w.heap.size, 7, none⟩ = some (Value.bool m.closed) := Qu.blk_cell hm5 7
  have HB5 := Lib.hid hb5
  have HSB5 := Lib.hid hsb5
  have HM5 := Lib.hid hm5
  have HK5 := Lib.hid hk5
  have HO5 := Lib.hid ho5
  have HQ5 := Lib.hid hq5
  clear hw5 hb5 hm5 hk5 ho5 hq5 hsb5 hbb5
  (refine wp_region_still_tail 18 (by kernel_rfl) (by kernel_rfl) ?_; simp only [List.take_succ_cons, List.take_zero, List.drop_succ_cons, List.drop_zero]; (iterate 18 ((with_reducible refine Ln.still_want (by kernel_rfl) (fun K hK => ?_)); go_simp; refine hK _ ?_; clear hK K)); with_reducible refine wpStill_nil ?_)
  go_wp2_with fail
  clear hbw hbn hbn2 s0 s2 q0
  have o0 : w5.cell? ⟨w.heap.size + 1 + 1, 0, none⟩ = some (Value.int IntKind.i64 0) := Qu.blk_cell HO5.out 0
  have o1 : w5.cell? ⟨w.heap.size + 1 + 1, 1, none⟩ = some (Value.int IntKind.i64 0) := Qu.blk_cell HO5.out 1
  have o2 : w5.cell? ⟨w.heap.size + 1 + 1, 2, none⟩ = some (Value.int IntKind.i64 0) := Qu.blk_cell HO5.out 2
  have o3 : w5.cell? ⟨w.heap.size + 1 + 1, 3, none⟩ = some (Value.int IntKind.i64 0) := Qu.blk_cell HO5.out 3
  have o4 : w5.cell? ⟨w.heap.size + 1 + 1, 4, none⟩ = some (Value.int IntKind.i64 0) := Qu.blk_cell HO5.out 4
  have o5 : w5.cell? ⟨w.heap.size + 1 + 1, 5, none⟩ = some (Value.slice none 0 0) := Qu.blk_cell HO5.out 5
  have o6 : w5.cell? ⟨w.heap.size + 1 + 1, 6, none⟩ = some (Value.bool false) := Qu.blk_cell HO5.out 6
  have o7 : w5.cell? ⟨w.heap.size + 1 + 1, 7, none⟩ = some (Value.bool false) := Qu.blk_cell HO5.out 7
  have q0 : w5.cell? ⟨w.heap.size + 1 + 1 + 1, 0, none⟩ = some (Value.int IntKind.u64 0) := Qu.blk_cell HQ5.out 0
  have q1 : w5.cell? ⟨w.heap.size + 1 + 1 + 1, 1, none⟩ = some (Value.int IntKind.i64 0) := Qu.blk_cell HQ5.out 1
  have q2 : w5.cell? ⟨w.heap.size + 1 + 1 + 1, 2, none⟩ = some (Value.int IntKind.i64 0) := Qu.blk_cell HQ5.out 2
  have q3 : w5.cell? ⟨w.heap.size + 1 + 1 + 1, 3, none⟩ = some (Value.int IntKind.i64 0) := Qu.blk_cell HQ5.out 3
  have q4 : w5.cell? ⟨w.heap.size + 1 + 1 + 1, 4, none⟩ = some (Value.int IntKind.i64 0) := Qu.blk_cell HQ5.out 4
  have q5 : w5.cell? ⟨w.heap.size + 1 + 1 + 1, 5, none⟩ = some (Value.int IntKind.i64 0) := Qu.blk_cell HQ5.out 5
  have q6 : w5.cell? ⟨w.heap.size + 1 + 1 + 1, 6, none⟩ = some (Value.int IntKind.i64 0) := Qu.blk_cell HQ5.out 6
  have q7 : w5.cell? ⟨w.heap.size + 1 + 1 + 1, 7, none⟩ = some (Value.int IntKind.i64 0) := Qu.blk_cell HQ5.out 7
  have q8 : w5.cell? ⟨w.heap.size + 1 + 1 + 1, 8, none⟩ = some (Value.int IntKind.i64 0) := Qu.blk_cell HQ5.out 8
  have q9 : w5.cell? ⟨w.heap.size + 1 + 1 + 1, 9, none⟩ = some (Value.int IntKind.i64 0) := Qu.blk_cell HQ5.out 9
  have q10 : w5.cell? ⟨w.heap.size + 1 + 1 + 1, 10, none⟩ = some (Value.int IntKind.i64 0) := Qu.blk_cell HQ5.out 10
  have q11 : w5.cell? ⟨w.heap.size + 1 + 1 + 1, 11, none⟩ = some (Value.int IntKind.i64 0) := Qu.blk_cell HQ5.out 11
  have q12 : w5.cell? ⟨w.heap.size + 1 + 1 + 1, 12, none⟩ = some (Value.int IntKind.i64 0) := Qu.blk_cell HQ5.out 12
  have of0 := Qu.blk_frozen HO5.out 0
  have of1 := Qu.blk_frozen HO5.out 1
  have of2 := Qu.blk_frozen HO5.out 2
  have of3 := Qu.blk_frozen HO5.out 3
  have of4 := Qu.blk_frozen HO5.out 4
  have of5 := Qu.blk_frozen HO5.out 5
  have of6 := Qu.blk_frozen HO5.out 6
  have of7 := Qu.blk_frozen HO5.out 7
  have qf0 := Qu.blk_frozen HQ5.out 0
  have qf1 := Qu.blk_frozen HQ5.out 1
  have qf2 := Qu.blk_frozen HQ5.out 2
  have qf3 := Qu.blk_frozen HQ5.out 3
  have qf4 := Qu.blk_frozen HQ5.out 4
  have qf5 := Qu.blk_frozen HQ5.out 5
  have qf6 := Qu.blk_frozen HQ5.out 6
  have qf7 := Qu.blk_frozen HQ5.out 7
  have qf8 := Qu.blk_frozen HQ5.out 8
  have qf9 := Qu.blk_frozen HQ5.out 9
  have qf10 := Qu.blk_frozen HQ5.out 10
  have qf11 := Qu.blk_frozen HQ5.out 11
  have qf12 := Qu.blk_frozen HQ5.out 12
  go_region
  all_goals
    clear o0 o1 o2 o3 o4 o5 o6 o7 q0 q1 q2 q3 q4 q5 q6 q7 q8 q9 q10 q11 q12 of0 of1 of2 of3 of4 of5 of6 of7 qf0 qf1 qf2 qf3 qf4 qf5 qf6 qf7 qf8 qf9 qf10 qf11 qf12 k0 k1 k2 k3 k4 k5 k6 k7 k8 k9 k10 k11 k12 m0 m1 m2 m3 m4 m5 m6 m7
    go_wp2_with fail
    have htr := Ln.two_rows (by omega) (Value.int IntKind.i64 m.base) (Value.int IntKind.i64 m.first) (Value.int IntKind.i64 m.durable) (Value.int IntKind.i64 m.next) (Value.int IntKind.i64 m.limit) (Value.slice Ar m.recs.length cr) (Value.bool m.failed) (Value.bool m.closed) (Value.int IntKind.u64 (k.set : Int)) (Value.int IntKind.i64 a0) (Value.int IntKind.i64 a1) (Value.int IntKind.i64 a2) (Value.int IntKind.i64 a3) (Value.int IntKind.i64 a4) (Value.int IntKind.i64 a5) (Value.int IntKind.i64 a6) (Value.int IntKind.i64 a7) (Value.int IntKind.i64 a8) (Value.int IntKind.i64 a9) (Value.int IntKind.i64 a10) (Value.int IntKind.i64 a11) HO5.out HQ5.out
    generalize (((((((((((((((((((((w5.setCell ⟨w.heap.size + 1 + 1, 0, none⟩ (Value.int IntKind.i64 m.base)).setCell ⟨w.heap.size + 1 + 1, 1, none⟩ (Value.int IntKind.i64 m.first)).setCell ⟨w.heap.size + 1 + 1, 2, none⟩ (Value.int IntKind.i64 m.durable)).setCell ⟨w.heap.size + 1 + 1, 3, none⟩ (Value.int IntKind.i64 m.next)).setCell ⟨w.heap.size + 1 + 1, 4, none⟩ (Value.int IntKind.i64 m.limit)).setCell ⟨w.heap.size + 1 + 1, 5, none⟩ (Value.slice Ar m.recs.length cr)).setCell ⟨w.heap.size + 1 + 1, 6, none⟩ (Value.bool m.failed)).setCell ⟨w.heap.size + 1 + 1, 7, none⟩ (Value.bool m.closed)).setCell ⟨w.heap.size + 1 + 1 + 1, 0, none⟩ (Value.int IntKind.u64 (k.set : Int))).setCell ⟨w.heap.size + 1 + 1 + 1, 1, none⟩ (Value.int IntKind.i64 a0)).setCell ⟨w.heap.size + 1 + 1 + 1, 2, none⟩ (Value.int IntKind.i64 a1)).setCell ⟨w.heap.size + 1 + 1 + 1, 3, none⟩ (Value.int IntKind.i64 a2)).setCell ⟨w.heap.size + 1 + 1 + 1, 4, none⟩ (Value.int IntKind.i64 a3)).setCell ⟨w.heap.size + 1 + 1 + 1, 5, none⟩ (Value.int IntKind.i64 a4)).setCell ⟨w.heap.size + 1 + 1 + 1, 6, none⟩ (Value.int IntKind.i64 a5)).setCell ⟨w.heap.size + 1 + 1 + 1, 7, none⟩ (Value.int IntKind.i64 a6)).setCell ⟨w.heap.size + 1 + 1 + 1, 8, none⟩ (Value.int IntKind.i64 a7)).setCell ⟨w.heap.size + 1 + 1 + 1, 9, none⟩ (Value.int IntKind.i64 a8)).setCell ⟨w.heap.size + 1 + 1 + 1, 10, none⟩ (Value.int IntKind.i64 a9)).setCell ⟨w.heap.size + 1 + 1 + 1, 11, none⟩ (Value.int IntKind.i64 a10)).setCell ⟨w.heap.size + 1 + 1 + 1, 12, none⟩ (Value.int IntKind.i64 a11)) = W at htr ⊢
    obtain ⟨hr8, hr9, hrb⟩ := htr
    have hbW := hrb w.heap.size w HB5.out (by omega) (by omega)
    have o0 : W.cell? ⟨w.heap.size + 1 + 1, 0, none⟩ = some (Value.int IntKind.i64 m.base) := Qu.blk_cell hr8 0
    have o1 : W.cell? ⟨w.heap.size + 1 + 1, 1, none⟩ = some (Value.int IntKind.i64 m.first) := Qu.blk_cell hr8 1
    have o2 : W.cell? ⟨w.heap.size + 1 + 1, 2, none⟩ = some (Value.int IntKind.i64 m.durable) := Qu.blk_cell hr8 2
    have o3 : W.cell? ⟨w.heap.size + 1 + 1, 3, none⟩ = some (Value.int IntKind.i64 m.next) := Qu.blk_cell hr8 3
    have o4 : W.cell? ⟨w.heap.size + 1 + 1, 4, none⟩ = some (Value.int IntKind.i64 m.limit) := Qu.blk_cell hr8 4
    have o5 : W.cell? ⟨w.heap.size + 1 + 1, 5, none⟩ = some (Value.slice Ar m.recs.length cr) := Qu.blk_cell hr8 5
    have o6 : W.cell? ⟨w.heap.size + 1 + 1, 6, none⟩ = some (Value.bool m.failed) := Qu.blk_cell hr8 6
    have o7 : W.cell? ⟨w.heap.size + 1 + 1, 7, none⟩ = some (Value.bool m.closed) := Qu.blk_cell hr8 7
    have q0 : W.cell? ⟨w.heap.size + 1 + 1 + 1, 0, none⟩ = some (Value.int IntKind.u64 (k.set : Int)) := Qu.blk_cell hr9 0
    have q1 : W.cell? ⟨w.heap.size + 1 + 1 + 1, 1, none⟩ = some (Value.int IntKind.i64 a0) := Qu.blk_cell hr9 1
    have q2 : W.cell? ⟨w.heap.size + 1 + 1 + 1, 2, none⟩ = some (Value.int IntKind.i64 a1) := Qu.blk_cell hr9 2
    have q3 : W.cell? ⟨w.heap.size + 1 + 1 + 1, 3, none⟩ = some (Value.int IntKind.i64 a2) := Qu.blk_cell hr9 3
    have q4 : W.cell? ⟨w.heap.size + 1 + 1 + 1, 4, none⟩ = some (Value.int IntKind.i64 a3) := Qu.blk_cell hr9 4
    have q5 : W.cell? ⟨w.heap.size + 1 + 1 + 1, 5, none⟩ = some (Value.int IntKind.i64 a4) := Qu.blk_cell hr9 5
    have q6 : W.cell? ⟨w.heap.size + 1 + 1 + 1, 6, none⟩ = some (Value.int IntKind.i64 a5) := Qu.blk_cell hr9 6
    have q7 : W.cell? ⟨w.heap.size + 1 + 1 + 1, 7, none⟩ = some (Value.int IntKind.i64 a6) := Qu.blk_cell hr9 7
    have q8 : W.cell? ⟨w.heap.size + 1 + 1 + 1, 8, none⟩ = some (Value.int IntKind.i64 a7) := Qu.blk_cell hr9 8
    have q9 : W.cell? ⟨w.heap.size + 1 + 1 + 1, 9, none⟩ = some (Value.int IntKind.i64 a8) := Qu.blk_cell hr9 9
    have q10 : W.cell? ⟨w.heap.size + 1 + 1 + 1, 10, none⟩ = some (Value.int IntKind.i64 a9) := Qu.blk_cell hr9 10
    have q11 : W.cell? ⟨w.heap.size + 1 + 1 + 1, 11, none⟩ = some (Value.int IntKind.i64 a10) := Qu.blk_cell hr9 11
    have q12 : W.cell? ⟨w.heap.size + 1 + 1 + 1, 12, none⟩ = some (Value.int IntKind.i64 a11) := Qu.blk_cell hr9 12
    clear hrb hr8 hr9
    refine bodyPost_ret (v := .tuple #[.agg #[Value.int IntKind.i64 m.base, Value.int IntKind.i64 m.first, Value.int IntKind.i64 m.durable, Value.int IntKind.i64 m.next, Value.int IntKind.i64 m.limit, Value.slice Ar m.recs.length cr, Value.bool m.failed, Value.bool m.closed], .agg #[Value.int IntKind.u64 (k.set : Int), Value.int IntKind.i64 a0, Value.int IntKind.i64 a1, Value.int IntKind.i64 a2, Value.int IntKind.i64 a3, Value.int IntKind.i64 a4, Value.int IntKind.i64 a5, Value.int IntKind.i64 a6, Value.int IntKind.i64 a7, Value.int IntKind.i64 a8, Value.int IntKind.i64 a9, Value.int IntKind.i64 a10, Value.int IntKind.i64 a11], .bool false]) (by simp [results, Try.results62, go_sem, asAddr, o0, o1, o2, o3, o4, o5, o6, o7, q0, q1, q2, q3, q4, q5, q6, q7, q8, q9, q10, q11, q12]) rfl ⟨hbW.drew.drew, m, Ar, _, cr, k, HOK.out, by rw [HE.out]⟩

end Go.Proofs.Ytgdeoodihhcdjaa
