/- put, where the past may stand there. -/
import Derived.Test.YtgdeoodihhcdjaaNj
import Derived.Deep.DeepCutAuto
namespace Go.Proofs.Ytgdeoodihhcdjaa
open Go.RowKit
set_option linter.unusedVariables false
set_option linter.unusedSimpArgs false


theorem Ln.two_other {w5 : World} {b c : Nat} (x0 x1 x2 x3 x4 x5 x6 x7 y0 y1 y2 y3 y4 y5 y6 y7 y8 y9 y10 y11 y12 : Value) : ∀ i, i ≠ b → i ≠ c → (((((((((((((((((((((w5.setCell ⟨b, 0, none⟩ x0).setCell ⟨b, 1, none⟩ x1).setCell ⟨b, 2, none⟩ x2).setCell ⟨b, 3, none⟩ x3).setCell ⟨b, 4, none⟩ x4).setCell ⟨b, 5, none⟩ x5).setCell ⟨b, 6, none⟩ x6).setCell ⟨b, 7, none⟩ x7).setCell ⟨c, 0, none⟩ y0).setCell ⟨c, 1, none⟩ y1).setCell ⟨c, 2, none⟩ y2).setCell ⟨c, 3, none⟩ y3).setCell ⟨c, 4, none⟩ y4).setCell ⟨c, 5, none⟩ y5).setCell ⟨c, 6, none⟩ y6).setCell ⟨c, 7, none⟩ y7).setCell ⟨c, 8, none⟩ y8).setCell ⟨c, 9, none⟩ y9).setCell ⟨c, 10, none⟩ y10).setCell ⟨c, 11, none⟩ y11).setCell ⟨c, 12, none⟩ y12).heap[i]? = w5.heap[i]? := fun i h1 h2 => by
  iterate 13 rw [Below.heap_setCell _ _ _ _ (show i ≠ _ from h2)]
  iterate 8 rw [Below.heap_setCell _ _ _ _ (show i ≠ _ from h1)]
theorem Ln.recs_two {w9 W : World} {b c : Nat} {v : Value} {rs : List (List UInt8)} {x y : Array Value} (h : Ln.Recs 0 w9 v rs) (hb : w9.heap[b]? = some (.cells x 71 (0, 0))) (hc : w9.heap[c]? = some (.cells y 104 (0, 0))) (ho : ∀ i, i ≠ b → i ≠ c → W.heap[i]? = w9.heap[i]?) : Ln.Recs 0 W.drew.drew v rs :=
  h.keep5 fun i cs t f hi ht => by
    have h1 : i ≠ b := fun e => by
      subst e
      rw [hb] at hi
      injection hi with hi
      injection hi with _ hi
      subst hi
      rcases ht with h | h <;> cases h
    have h2 : i ≠ c := fun e => by
      subst e
      rw [hc] at hi
      injection hi with hi
      injection hi with _ hi
      subst hi
      rcases ht with h | h <;> cases h
    exact ho i h1 h2
theorem Ln.kc_set (k : Ln.Key) (s : Nat) : (Ln.kc k).setIfInBounds 0 (.int .u64 (s : Int)) = Ln.kc ⟨s, k.lsns⟩ := by
  simp [Ln.kc]
theorem Ln.kc_put (k : Ln.Key) (s i : Nat) (x : Int) : ((Ln.kc k).setIfInBounds 0 (.int .u64 (s : Int))).setIfInBounds (1 + i) (.int .i64 x) = Ln.kc ⟨s, k.lsns.set i x⟩ := by
  rw [Ln.kc_set, Nat.add_comm 1 i]
  simp [Ln.kc, List.map_set]
theorem Ln.KOk.put {k : Ln.Key} (h : Ln.KOk k) {i : Nat} (hi : i < 12) {x : Int} (hx : Ln.I64 x) : Ln.KOk ⟨k.set ||| 1 <<< i, k.lsns.set i x⟩ := by
  refine ⟨?_, by simpa using h.len, fun y hy => ?_⟩
  · have h1 := h.set
    have : k.set ||| 1 <<< i < 2 ^ 12 := Nat.or_lt_two_pow (by omega) (by rw [Nat.one_shiftLeft]; exact Nat.pow_lt_pow_right (by omega) hi)
    simpa using this
  · rcases List.mem_or_eq_of_mem_set hy with h2 | rfl
    · exact h.ins y h2
    · exact hx
theorem Ln.KOk.or {k : Ln.Key} (h : Ln.KOk k) {i : Nat} (hi : i < 12) : Ln.KOk ⟨k.set ||| 1 <<< i, k.lsns⟩ := by
  refine ⟨?_, h.len, h.ins⟩
  have h1 := h.set
  have : k.set ||| 1 <<< i < 2 ^ 12 := Nat.or_lt_two_pow (by omega) (by rw [Nat.one_shiftLeft]; exact Nat.pow_lt_pow_right (by omega) hi)
  simpa using this
theorem Ln.kc_get {k : Ln.Key} (h : Ln.KOk k) (i : Nat) (hi : i < 12) : (Ln.kc k)[i + 1]? = some (.int .i64 (k.lsns.getD i 0)) := by
  have hl := h.len
  unfold Ln.kc
  rw [List.getElem?_toArray, List.getElem?_cons_succ, List.getElem?_map, List.getElem?_eq_getElem (by omega), List.getD_eq_getElem?_getD, List.getElem?_eq_getElem (by omega)]
  rfl
set_option maxHeartbeats 40000000 in
set_option maxRecDepth 100000 in
theorem put_go (mv : Value) (m : Ln.Mod) (k : Ln.Key) (i sb mb bb : Nat) (A : Option Addr) (cp : Nat) (ps : List Ln.Past) (OV : Value) (most : Int) (w : World)
    (hs : Ln.Sch w sb mb bb A cp ps OV most) (hm : Ln.ModAt w mv m) (hw : Ln.WF m) (hd : ∀ r ∈ m.recs, r.length ≤ 4096) (hok : Ln.KOk k) (hp : Ln.Pasts w A cp ps) (hi : i < ps.length) (hn : ps.length ≤ 12) (n : Ln.Mod) (ok : Bool) (hbit : k.set.testBit i = false) (hsub : Ln.beforeF ps i &&& k.set = Ln.beforeF ps i)
    (hst : ∀ (cd rd : Value) (w6 : World), Below w.heap.size w w6 → Ln.Rd w6 cd (Ln.u8s (Ln.at' ps i).call.data) → Ln.Rd w6 rd (Ln.u8s (Ln.at' ps i).res.data) → Calls Try.prog 53 #[mv, .agg #[.int .i64 (Ln.at' ps i).call.kind, .int .i64 (Ln.at' ps i).call.lsn, cd, .int .i64 (Ln.at' ps i).res.err, .int .i64 (Ln.at' ps i).res.lsn, rd, .int .i64 (Ln.at' ps i).beg, .int .i64 (Ln.at' ps i).fin]] w6 (Ln.Got2 w6 n ok)) :
    Calls Try.prog 62 #[.pointer (some ⟨sb, 0, none⟩), mv, .agg (Ln.kc k), .int .i64 i] w (Ln.PutGo w n ok (Ln.putK k (Ln.at' ps i) m n i)) := by
  have hbw : bits .and .u64 ((k.set : Int) / 2 ^ i) 1 = 0 := by rw [Ln.bit_is _ _ (by have := hok.set; omega), if_neg (by rw [hbit]; simp)]
  have hbn : bits .andNot .u64 (Ln.beforeF ps i : Int) (k.set : Int) = 0 := (Ln.andNot_zero _ _ (Ln.before_lt ps i hn) (by have := hok.set; omega)).2 hsub
  have hst2 := hst
  have hnx : Ln.I64 m.next := ⟨by have := hw.n0; omega, hw.mx⟩
  have HNX := Lib.hid hnx
  clear hnx
  clear hst
  have HS := Lib.hid hs
  have HP := Lib.hid hp
  obtain ⟨rv, rfl, hrec⟩ := hm
  obtain ⟨Ar, cr, rfl⟩ := hrec.slice
  have HREC := Lib.hid hrec
  obtain ⟨a0, a1, a2, a3, a4, a5, a6, a7, a8, a9, a10, a11, he, hl⟩ := Ln.kc_lit hok
  have HE := Lib.hid he
  have HL := Lib.hid hl
  have HOK := Lib.hid hok
  rw [he]
  have hil : (i : Int) < ps.length := by omega
  clear hrec he hl hok
  obtain ⟨hsb, hbb⟩ := hs
  have hsblt := Qu.blk_lt hsb
  have hbblt := Qu.blk_lt hbb
  have HSB := Lib.hid hsb
  have HBB := Lib.hid hbb
  clear hsb hbb hp
  go_enter Try.func62, Try.ntmps62
  unfold Ln.cells
  go_wp2_with fail
  generalize hw5 : (((w.alloc (Obj.cells #[Value.int IntKind.i64 m.base, Value.int IntKind.i64 m.first, Value.int IntKind.i64 m.durable, Value.int IntKind.i64 m.next, Value.int IntKind.i64 m.limit, Value.slice Ar m.recs.length cr, Value.bool m.failed, Value.bool m.closed] 71)).alloc (Obj.cells #[Value.int IntKind.u64 (k.set : Int), Value.int IntKind.i64 a0, Value.int IntKind.i64 a1, Value.int IntKind.i64 a2, Value.int IntKind.i64 a3, Value.int IntKind.i64 a4, Value.int IntKind.i64 a5, Value.int IntKind.i64 a6, Value.int IntKind.i64 a7, Value.int IntKind.i64 a8, Value.int IntKind.i64 a9, Value.int IntKind.i64 a10, Value.int IntKind.i64 a11] 104)).alloc (Obj.cells #[Value.int IntKind.i64 0, Value.int IntKind.i64 0, Value.int IntKind.i64 0, Value.int IntKind.i64 0, Value.int IntKind.i64 0, Value.slice none 0 0, Value.bool false, Value.bool false] 71)).alloc (Obj.cells #[Value.int IntKind.u64 0, Value.int IntKind.i64 0, Value.int IntKind.i64 0, Value.int IntKind.i64 0, Value.int IntKind.i64 0, Value.int IntKind.i64 0, Value.int IntKind.i64 0, Value.int IntKind.i64 0, Value.int IntKind.i64 0, Value.int IntKind.i64 0, Value.int IntKind.i64 0, Value.int IntKind.i64 0, Value.int IntKind.i64 0] 104) = w5
  obtain ⟨hb5, hz5, hm5, hk5, ho5, hq5⟩ := Ln.made4 hw5
  have hsb5 : w5.heap[sb]? = _ := Qu.blk_below HSB.out hb5
  have hbb5 : w5.heap[bb]? = _ := Qu.blk_below HBB.out hb5
  have s0 : w5.cell? ⟨sb, 0, none⟩ = some (.slice A ps.length cp) := Qu.blk_cell hsb5 0
  have s2 : w5.cell? ⟨sb, 2, none⟩ = some (.slice (some ⟨bb, 0, none⟩) ps.length ps.length) := Qu.blk_cell hsb5 2
  have q0 : w5.cell? ⟨bb, i, none⟩ = some (.int .u64 (Ln.beforeF ps i : Int)) := by rw [Qu.blk_cell hbb5]; exact Ln.barr_get _ _ _ hi
  have hsblt5 := Qu.blk_lt hsb5
  have hbblt5 := Qu.blk_lt hbb5
  have k0 : w5.cell? ⟨w.heap.size + 1, 0, none⟩ = some (Value.int IntKind.u64 (k.set : Int)) := Qu.blk_cell hk5 0
  have k1 : w5.cell? ⟨w.heap.size + 1, 1, none⟩ = some (Value.int IntKind.i64 a0) := Qu.blk_cell hk5 1
  have k2 : w5.cell? ⟨w.heap.size + 1, 2, none⟩ = some (Value.int IntKind.i64 a1) := Qu.blk_cell hk5 2
  have k3 : w5.cell? ⟨w.heap.size + 1, 3, none⟩ = some (Value.int IntKind.i64 a2) := Qu.blk_cell hk5 3
  have k4 : w5.cell? ⟨w.heap.size + 1, 4, none⟩ = some (Value.int IntKind.i64 a3) := Qu.blk_cell hk5 4
  have k5 : w5.cell? ⟨w.heap.size + 1, 5, none⟩ = some (Value.int IntKind.i64 a4) := Qu.blk_cell hk5 5
  have k6 : w5.cell? ⟨w.heap.size + 1, 6, none⟩ = some (Value.int IntKind.i64 a5) := Qu.blk_cell hk5 6
  have k7 : w5.cell? ⟨w.heap.size + 1, 7, none⟩ = some (Value.int IntKind.i64 a6) := Qu.blk_cell hk5 7
  have k8 : w5.cell? ⟨w.heap.size + 1, 8, none⟩ = some (Value.int IntKind.i64 a7) := Qu.blk_cell hk5 8
  have k9 : w5.cell? ⟨w.heap.size + 1, 9, none⟩ = some (Value.int IntKind.i64 a8) := Qu.blk_cell hk5 9
  have k10 : w5.cell? ⟨w.heap.size + 1, 10, none⟩ = some (Value.int IntKind.i64 a9) := Qu.blk_cell hk5 10
  have k11 : w5.cell? ⟨w.heap.size + 1, 11, none⟩ = some (Value.int IntKind.i64 a10) := Qu.blk_cell hk5 11
  have k12 : w5.cell? ⟨w.heap.size + 1, 12, none⟩ = some (Value.int IntKind.i64 a11) := Qu.blk_cell hk5 12
  have m0 : w5.cell? ⟨w.heap.size, 0, none⟩ = some (Value.int IntKind.i64 m.base) := Qu.blk_cell hm5 0
  have m1 : w5.cell? ⟨w.heap.size, 1, none⟩ = some (Value.int IntKind.i64 m.first) := Qu.blk_cell hm5 1
  have m2 : w5.cell? ⟨w.heap.size, 2, none⟩ = some (Value.int IntKind.i64 m.durable) := Qu.blk_cell hm5 2
  have m3 : w5.cell? ⟨w.heap.size, 3, none⟩ = some (Value.int IntKind.i64 m.next) := Qu.blk_cell hm5 3
  have m4 : w5.cell? ⟨w.heap.size, 4, none⟩ = some (Value.int IntKind.i64 m.limit) := Qu.blk_cell hm5 4
  have m5 : w5.cell? ⟨w.heap.size, 5, none⟩ = some (Value.slice Ar m.recs.length cr) := Qu.blk_cell hm5 5
  have m6 : w5.cell? ⟨w.heap.size, 6, none⟩ = some (Value.bool m.failed) := Qu.blk_cell hm5 6
  have m7 : w5.cell? ⟨w.heap.size, 7, none⟩ = some (Value.bool m.closed) := Qu.blk_cell hm5 7
  have HB5 := Lib.hid hb5
  have HSB5 := Lib.hid hsb5
  have HM5 := Lib.hid hm5
  have HK5 := Lib.hid hk5
  have HO5 := Lib.hid ho5
  have HQ5 := Lib.hid hq5
  clear hw5 hb5 hm5 hk5 ho5 hq5 hsb5 hbb5

  clear hsub
  obtain ⟨pb, po, cd, rd, rfl, hpk⟩ := HP.out.2.2 i hi
  have hpk5 := hpk.keep HB5.out
  have HCAL := Lib.hid (fun w6 (h : Below w.heap.size w w6) => hst2 cd rd w6 h (hpk.hc.keep h) (hpk.hr.keep h))
  have HPB := Lib.hid (World.block_lt_of_cell? w _ hpk.c0)
  obtain ⟨x0, x1, x2, x3, x4, x5, x6, x7, xc, xr⟩ := hpk5
  have hpblt : pb < w5.heap.size := World.block_lt_of_cell? w5 _ x0
  obtain ⟨Ac, cc, rfl⟩ := xc.slice
  obtain ⟨Ar2, cr2, rfl⟩ := xr.slice
  have hlt5 : w.heap.size + 1 + 1 + 1 < w5.heap.size := by omega
  have hlt0 : w.heap.size < w5.heap.size := by omega
  have hlt1 : w.heap.size + 1 < w5.heap.size := by omega
  have hlt2 : w.heap.size + 1 + 1 < w5.heap.size := by omega
  have HZ5 := Lib.hid hz5
  clear hst2 hpk xc xr hz5
  (refine wp_region_still_tail 18 (by kernel_rfl) (by kernel_rfl) ?_; simp only [List.take_succ_cons, List.take_zero, List.drop_succ_cons, List.drop_zero]; (iterate 18 ((with_reducible refine Ln.still_want (by kernel_rfl) (fun K hK => ?_)); go_simp; refine hK _ ?_; clear hK K)); with_reducible refine wpStill_nil ?_)
  go_wp2_with fail
  clear hbw hbn q0 s2 k0 k1 k2 k3 k4 k5 k6 k7 k8 k9 k10 k11 k12 hbblt hbblt5 hw hd
  go_cut [11, 12] (fun s11 s12 wx => Ln.Mid3 w5 wx n ok s11 s12)
  case first =>
    go_region_with (go_at_call 53; first
      | (refine (HCAL.out _ HB5.out.drew.drew).mono ?_; rintro e w8 ⟨hb8, A8, l8, c8, rfl, hrec8⟩; have hcl := Ln.call_a hb8; have HB8 := Lib.hid hb8; have HR8 := Lib.hid hrec8; clear hb8 hrec8)
      | (refine (HCAL.out _ (HB5.out.alloc (by omega) _).drew.drew).mono ?_; rintro e w8 ⟨hb8, A8, l8, c8, rfl, hrec8⟩; have hcl := Ln.call_b hb8; obtain ⟨z0, z1, z2, z3, z4, z5, z6, z7⟩ := hcl; obtain ⟨zf0, zf1, zf2, zf3, zf4, zf5, zf6, zf7⟩ := Ln.call_f hb8; have hblt8 := Qu.blk_lt (Ln.call_blk hb8); have HB8 := Lib.hid hb8; have HR8 := Lib.hid hrec8; clear hb8 hrec8))
    all_goals (go_wp2_with fail; go_meet)
    all_goals (first | (with_reducible exact Ln.mid3_a HB8.out HR8.out) | (with_reducible exact Ln.mid3_b HB8.out HR8.out))
  case rest =>
    obtain ⟨R, A8, l8, c8, rfl, rfl, hR, hbc, hrow, hrec⟩ := hcut
    have hbc0 : Below w.heap.size w wc := HB5.out.trans (hbc.mono HB5.out.size)
    have hkc : wc.heap[w.heap.size + 1]? = _ := Qu.blk_below HK5.out hbc
    have hmc : wc.heap[w.heap.size]? = _ := Qu.blk_below HM5.out hbc
    have hoc : wc.heap[w.heap.size + 1 + 1]? = _ := Qu.blk_below HO5.out hbc
    have hqc : wc.heap[w.heap.size + 1 + 1 + 1]? = _ := Qu.blk_below HQ5.out hbc
    have hsc : wc.heap[sb]? = _ := Qu.blk_below HSB5.out hbc
    have hxc := (hbc.cell (p := ⟨pb, po + i * 8 + 7, none⟩) hpblt).trans x7
    have e0 := Qu.blk_cell hkc 0
    have ef0 := Qu.blk_frozen hkc 0
    have s0c : wc.cell? ⟨sb, 0, none⟩ = some (.slice (some ⟨pb, po, none⟩) ps.length cp) := Qu.blk_cell hsc 0
    have m3c : wc.cell? ⟨w.heap.size, 3, none⟩ = some (.int .i64 m.next) := Qu.blk_cell hmc 3
    have r3c : wc.cell? ⟨R, 3, none⟩ = some (.int .i64 n.next) := Qu.blk_cell hrow 3
    have hor := Ln.or_u64 k.set i (by have := HOK.out.set; omega) (by omega)
    have hi12 : i < 12 := by omega
    have hR1 : w.heap.size + 1 + 1 + 1 < R := by omega
    have hRlt := Qu.blk_lt hrow
    have hsblt6 : sb < w.heap.size := hsblt
    have hlt9 : w.heap.size + 1 + 1 + 1 < wc.heap.size := Qu.blk_lt hqc
    have hpltc : pb < wc.heap.size := Nat.lt_of_lt_of_le hpblt hbc.size
    have hpne : pb < w.heap.size := HPB.out
    have HBC0 := Lib.hid hbc0
    have HKC := Lib.hid hkc
    have HMC := Lib.hid hmc
    have HOC := Lib.hid hoc
    have HQC := Lib.hid hqc
    have HROW := Lib.hid hrow
    have HREC2 := Lib.hid hrec
    clear hbc hbc0 hkc hmc hoc hqc hsc hrow hrec m0 m1 m2 m3 m4 m5 m6 m7 s0 x0 x1 x2 x3 x4 x5 x6 x7 hsblt5 hpblt hlt0 hlt1 hlt2 hlt5 hR
    by_cases g1 : (Ln.at' ps i).fin = 0
    · have g1b : ((Ln.at' ps i).fin == 0) = true := beq_iff_eq.2 g1
      by_cases g2 : m.next < n.next
      · have g2b : decide (m.next < n.next) = true := decide_eq_true g2
        have HK : Hid (Ln.putK k (Ln.at' ps i) m n i = ⟨k.set ||| 1 <<< i, k.lsns.set i m.next⟩) := Lib.hid (by unfold Ln.putK; rw [if_pos ⟨g1, g2⟩])
        have HOK9 := Lib.hid (HOK.out.put hi12 HNX.out)
        have ei := Qu.blk_cell HKC.out (i + 1)
        have efi := Qu.blk_frozen HKC.out (1 + i)
        have ei2 : wc.cell? ⟨w.heap.size + 1, 1 + i, none⟩ = some (.int .i64 (k.lsns.getD i 0)) := by rw [Qu.blk_cell HKC.out, ← HE.out, Nat.add_comm 1 i]; exact Ln.kc_get HOK.out i hi12
        clear ei
        go_wp2_with fail
        (refine wp_region_still_tail 6 (by kernel_rfl) (by kernel_rfl) ?_; simp only [List.take_succ_cons, List.take_zero, List.drop_succ_cons, List.drop_zero]; (iterate 6 ((with_reducible refine Ln.still_want (by kernel_rfl) (fun K hK => ?_)); go_simp; refine hK _ ?_; clear hK K)); with_reducible refine wpStill_nil ?_)
        go_wp2_with fail
        obtain ⟨L, hL⟩ : ∃ L : Ln.Key, L = ⟨k.set ||| 1 <<< i, k.lsns.set i m.next⟩ := ⟨_, rfl⟩
        have hok9 : Ln.KOk L := by rw [hL]; exact HOK9.out
        have hbW : Below w.heap.size w ((wc.setCell ⟨w.heap.size + 1, 0, none⟩ (Value.int IntKind.u64 ((k.set ||| 1 <<< i : Nat) : Int))).setCell ⟨w.heap.size + 1, 1 + i, none⟩ (Value.int IntKind.i64 m.next)) := Ln.below_set (Ln.below_set HBC0.out (by omega) 0 _) (by omega) (1 + i) _
        have hk9 : ((wc.setCell ⟨w.heap.size + 1, 0, none⟩ (Value.int IntKind.u64 ((k.set ||| 1 <<< i : Nat) : Int))).setCell ⟨w.heap.size + 1, 1 + i, none⟩ (Value.int IntKind.i64 m.next)).heap[w.heap.size + 1]? = some (Obj.cells (Ln.kc L) 104) := by rw [hL]; have h := Qu.blk_set (Qu.blk_set HKC.out 0 (Value.int IntKind.u64 ((k.set ||| 1 <<< i : Nat) : Int))) (1 + i) (Value.int IntKind.i64 m.next); rw [← HE.out, Ln.kc_put] at h; exact h
        have ho9 : ∀ j, j ≠ w.heap.size + 1 → ((wc.setCell ⟨w.heap.size + 1, 0, none⟩ (Value.int IntKind.u64 ((k.set ||| 1 <<< i : Nat) : Int))).setCell ⟨w.heap.size + 1, 1 + i, none⟩ (Value.int IntKind.i64 m.next)).heap[j]? = wc.heap[j]? := fun j hj => by rw [Below.heap_setCell _ _ _ _ (show j ≠ _ from hj), Below.heap_setCell _ _ _ _ (show j ≠ _ from hj)]
        have hLK : Ln.putK k (Ln.at' ps i) m n i = L := by rw [hL]; exact HK.out
        have hrec9 : ok = true → Ln.Recs 0 ((wc.setCell ⟨w.heap.size + 1, 0, none⟩ (Value.int IntKind.u64 ((k.set ||| 1 <<< i : Nat) : Int))).setCell ⟨w.heap.size + 1, 1 + i, none⟩ (Value.int IntKind.i64 m.next)) (.slice A8 l8 c8) n.recs := fun h => (HREC2.out h).one HKC.out (by decide) ho9
        generalize ((wc.setCell ⟨w.heap.size + 1, 0, none⟩ (Value.int IntKind.u64 ((k.set ||| 1 <<< i : Nat) : Int))).setCell ⟨w.heap.size + 1, 1 + i, none⟩ (Value.int IntKind.i64 m.next)) = w9 at hbW hk9 ho9 hrec9 ⊢
        obtain ⟨b0, b1, b2, b3, b4, b5, b6, b7, b8, b9, b10, b11, heb, _⟩ := Ln.kc_lit hok9
        have hr9 : w9.heap[R]? = _ := (ho9 R (by omega)).trans HROW.out
        have hm9 : w9.heap[w.heap.size + 1 + 1]? = _ := (ho9 _ (by omega)).trans HOC.out
        have hq9 : w9.heap[w.heap.size + 1 + 1 + 1]? = _ := (ho9 _ (by omega)).trans HQC.out
        have hk92 := hk9
        rw [heb] at hk92
        have hlt9r := Qu.blk_lt hr9
        have hlt9q := Qu.blk_lt hq9
        have hlt9k := Qu.blk_lt hk9
        have hlt9m := Qu.blk_lt hm9
        have k0 : w9.cell? ⟨w.heap.size + 1, 0, none⟩ = some (Value.int IntKind.u64 (L.set : Int)) := Qu.blk_cell hk92 0
        have k1 : w9.cell? ⟨w.heap.size + 1, 1, none⟩ = some (Value.int IntKind.i64 b0) := Qu.blk_cell hk92 1
        have k2 : w9.cell? ⟨w.heap.size + 1, 2, none⟩ = some (Value.int IntKind.i64 b1) := Qu.blk_cell hk92 2
        have k3 : w9.cell? ⟨w.heap.size + 1, 3, none⟩ = some (Value.int IntKind.i64 b2) := Qu.blk_cell hk92 3
        have k4 : w9.cell? ⟨w.heap.size + 1, 4, none⟩ = some (Value.int IntKind.i64 b3) := Qu.blk_cell hk92 4
        have k5 : w9.cell? ⟨w.heap.size + 1, 5, none⟩ = some (Value.int IntKind.i64 b4) := Qu.blk_cell hk92 5
        have k6 : w9.cell? ⟨w.heap.size + 1, 6, none⟩ = some (Value.int IntKind.i64 b5) := Qu.blk_cell hk92 6
        have k7 : w9.cell? ⟨w.heap.size + 1, 7, none⟩ = some (Value.int IntKind.i64 b6) := Qu.blk_cell hk92 7
        have k8 : w9.cell? ⟨w.heap.size + 1, 8, none⟩ = some (Value.int IntKind.i64 b7) := Qu.blk_cell hk92 8
        have k9 : w9.cell? ⟨w.heap.size + 1, 9, none⟩ = some (Value.int IntKind.i64 b8) := Qu.blk_cell hk92 9
        have k10 : w9.cell? ⟨w.heap.size + 1, 10, none⟩ = some (Value.int IntKind.i64 b9) := Qu.blk_cell hk92 10
        have k11 : w9.cell? ⟨w.heap.size + 1, 11, none⟩ = some (Value.int IntKind.i64 b10) := Qu.blk_cell hk92 11
        have k12 : w9.cell? ⟨w.heap.size + 1, 12, none⟩ = some (Value.int IntKind.i64 b11) := Qu.blk_cell hk92 12
        have r0 : w9.cell? ⟨R, 0, none⟩ = some (Value.int IntKind.i64 n.base) := Qu.blk_cell hr9 0
        have r1 : w9.cell? ⟨R, 1, none⟩ = some (Value.int IntKind.i64 n.first) := Qu.blk_cell hr9 1
        have r2 : w9.cell? ⟨R, 2, none⟩ = some (Value.int IntKind.i64 n.durable) := Qu.blk_cell hr9 2
        have r3 : w9.cell? ⟨R, 3, none⟩ = some (Value.int IntKind.i64 n.next) := Qu.blk_cell hr9 3
        have r4 : w9.cell? ⟨R, 4, none⟩ = some (Value.int IntKind.i64 n.limit) := Qu.blk_cell hr9 4
        have r5 : w9.cell? ⟨R, 5, none⟩ = some (Value.slice A8 l8 c8) := Qu.blk_cell hr9 5
        have r6 : w9.cell? ⟨R, 6, none⟩ = some (Value.bool n.failed) := Qu.blk_cell hr9 6
        have r7 : w9.cell? ⟨R, 7, none⟩ = some (Value.bool n.closed) := Qu.blk_cell hr9 7
        have o0 : w9.cell? ⟨w.heap.size + 1 + 1, 0, none⟩ = some (Value.int IntKind.i64 0) := Qu.blk_cell hm9 0
        have o1 : w9.cell? ⟨w.heap.size + 1 + 1, 1, none⟩ = some (Value.int IntKind.i64 0) := Qu.blk_cell hm9 1
        have o2 : w9.cell? ⟨w.heap.size + 1 + 1, 2, none⟩ = some (Value.int IntKind.i64 0) := Qu.blk_cell hm9 2
        have o3 : w9.cell? ⟨w.heap.size + 1 + 1, 3, none⟩ = some (Value.int IntKind.i64 0) := Qu.blk_cell hm9 3
        have o4 : w9.cell? ⟨w.heap.size + 1 + 1, 4, none⟩ = some (Value.int IntKind.i64 0) := Qu.blk_cell hm9 4
        have o5 : w9.cell? ⟨w.heap.size + 1 + 1, 5, none⟩ = some (Value.slice none 0 0) := Qu.blk_cell hm9 5
        have o6 : w9.cell? ⟨w.heap.size + 1 + 1, 6, none⟩ = some (Value.bool false) := Qu.blk_cell hm9 6
        have o7 : w9.cell? ⟨w.heap.size + 1 + 1, 7, none⟩ = some (Value.bool false) := Qu.blk_cell hm9 7
        have q0 : w9.cell? ⟨w.heap.size + 1 + 1 + 1, 0, none⟩ = some (Value.int IntKind.u64 0) := Qu.blk_cell hq9 0
        have q1 : w9.cell? ⟨w.heap.size + 1 + 1 + 1, 1, none⟩ = some (Value.int IntKind.i64 0) := Qu.blk_cell hq9 1
        have q2 : w9.cell? ⟨w.heap.size + 1 + 1 + 1, 2, none⟩ = some (Value.int IntKind.i64 0) := Qu.blk_cell hq9 2
        have q3 : w9.cell? ⟨w.heap.size + 1 + 1 + 1, 3, none⟩ = some (Value.int IntKind.i64 0) := Qu.blk_cell hq9 3
        have q4 : w9.cell? ⟨w.heap.size + 1 + 1 + 1, 4, none⟩ = some (Value.int IntKind.i64 0) := Qu.blk_cell hq9 4
        have q5 : w9.cell? ⟨w.heap.size + 1 + 1 + 1, 5, none⟩ = some (Value.int IntKind.i64 0) := Qu.blk_cell hq9 5
        have q6 : w9.cell? ⟨w.heap.size + 1 + 1 + 1, 6, none⟩ = some (Value.int IntKind.i64 0) := Qu.blk_cell hq9 6
        have q7 : w9.cell? ⟨w.heap.size + 1 + 1 + 1, 7, none⟩ = some (Value.int IntKind.i64 0) := Qu.blk_cell hq9 7
        have q8 : w9.cell? ⟨w.heap.size + 1 + 1 + 1, 8, none⟩ = some (Value.int IntKind.i64 0) := Qu.blk_cell hq9 8
        have q9 : w9.cell? ⟨w.heap.size + 1 + 1 + 1, 9, none⟩ = some (Value.int IntKind.i64 0) := Qu.blk_cell hq9 9
        have q10 : w9.cell? ⟨w.heap.size + 1 + 1 + 1, 10, none⟩ = some (Value.int IntKind.i64 0) := Qu.blk_cell hq9 10
        have q11 : w9.cell? ⟨w.heap.size + 1 + 1 + 1, 11, none⟩ = some (Value.int IntKind.i64 0) := Qu.blk_cell hq9 11
        have q12 : w9.cell? ⟨w.heap.size + 1 + 1 + 1, 12, none⟩ = some (Value.int IntKind.i64 0) := Qu.blk_cell hq9 12
        have of0 := Qu.blk_frozen hm9 0
        have of1 := Qu.blk_frozen hm9 1
        have of2 := Qu.blk_frozen hm9 2
        have of3 := Qu.blk_frozen hm9 3
        have of4 := Qu.blk_frozen hm9 4
        have of5 := Qu.blk_frozen hm9 5
        have of6 := Qu.blk_frozen hm9 6
        have of7 := Qu.blk_frozen hm9 7
        have qf0 := Qu.blk_frozen hq9 0
        have qf1 := Qu.blk_frozen hq9 1
        have qf2 := Qu.blk_frozen hq9 2
        have qf3 := Qu.blk_frozen hq9 3
        have qf4 := Qu.blk_frozen hq9 4
        have qf5 := Qu.blk_frozen hq9 5
        have qf6 := Qu.blk_frozen hq9 6
        have qf7 := Qu.blk_frozen hq9 7
        have qf8 := Qu.blk_frozen hq9 8
        have qf9 := Qu.blk_frozen hq9 9
        have qf10 := Qu.blk_frozen hq9 10
        have qf11 := Qu.blk_frozen hq9 11
        have qf12 := Qu.blk_frozen hq9 12
        have HBW := Lib.hid hbW
        have HEB := Lib.hid heb
        have HM9 := Lib.hid hm9
        have HQ9 := Lib.hid hq9
        have HLK := Lib.hid hLK
        have HREC9 := Lib.hid hrec9
        clear hbW hk9 ho9 hrec9 hok9 heb hr9 hm9 hq9 hk92 hL hLK e0 ef0 s0c m3c r3c hor ei2 efi
        go_region
        all_goals
          clear k0 k1 k2 k3 k4 k5 k6 k7 k8 k9 k10 k11 k12 r0 r1 r2 r3 r4 r5 r6 r7 o0 o1 o2 o3 o4 o5 o6 o7 q0 q1 q2 q3 q4 q5 q6 q7 q8 q9 q10 q11 q12 of0 of1 of2 of3 of4 of5 of6 of7 qf0 qf1 qf2 qf3 qf4 qf5 qf6 qf7 qf8 qf9 qf10 qf11 qf12
          go_wp2_with fail
          have htr := Ln.two_rows (by omega) (Value.int IntKind.i64 n.base) (Value.int IntKind.i64 n.first) (Value.int IntKind.i64 n.durable) (Value.int IntKind.i64 n.next) (Value.int IntKind.i64 n.limit) (Value.slice A8 l8 c8) (Value.bool n.failed) (Value.bool n.closed) (Value.int IntKind.u64 (L.set : Int)) (Value.int IntKind.i64 b0) (Value.int IntKind.i64 b1) (Value.int IntKind.i64 b2) (Value.int IntKind.i64 b3) (Value.int IntKind.i64 b4) (Value.int IntKind.i64 b5) (Value.int IntKind.i64 b6) (Value.int IntKind.i64 b7) (Value.int IntKind.i64 b8) (Value.int IntKind.i64 b9) (Value.int IntKind.i64 b10) (Value.int IntKind.i64 b11) HM9.out HQ9.out
          have hot := Ln.two_other (w5 := w9) (b := w.heap.size + 1 + 1) (c := w.heap.size + 1 + 1 + 1) (Value.int IntKind.i64 n.base) (Value.int IntKind.i64 n.first) (Value.int IntKind.i64 n.durable) (Value.int IntKind.i64 n.next) (Value.int IntKind.i64 n.limit) (Value.slice A8 l8 c8) (Value.bool n.failed) (Value.bool n.closed) (Value.int IntKind.u64 (L.set : Int)) (Value.int IntKind.i64 b0) (Value.int IntKind.i64 b1) (Value.int IntKind.i64 b2) (Value.int IntKind.i64 b3) (Value.int IntKind.i64 b4) (Value.int IntKind.i64 b5) (Value.int IntKind.i64 b6) (Value.int IntKind.i64 b7) (Value.int IntKind.i64 b8) (Value.int IntKind.i64 b9) (Value.int IntKind.i64 b10) (Value.int IntKind.i64 b11)
          generalize (((((((((((((((((((((w9.setCell ⟨w.heap.size + 1 + 1, 0, none⟩ (Value.int IntKind.i64 n.base)).setCell ⟨w.heap.size + 1 + 1, 1, none⟩ (Value.int IntKind.i64 n.first)).setCell ⟨w.heap.size + 1 + 1, 2, none⟩ (Value.int IntKind.i64 n.durable)).setCell ⟨w.heap.size + 1 + 1, 3, none⟩ (Value.int IntKind.i64 n.next)).setCell ⟨w.heap.size + 1 + 1, 4, none⟩ (Value.int IntKind.i64 n.limit)).setCell ⟨w.heap.size + 1 + 1, 5, none⟩ (Value.slice A8 l8 c8)).setCell ⟨w.heap.size + 1 + 1, 6, none⟩ (Value.bool n.failed)).setCell ⟨w.heap.size + 1 + 1, 7, none⟩ (Value.bool n.closed)).setCell ⟨w.heap.size + 1 + 1 + 1, 0, none⟩ (Value.int IntKind.u64 (L.set : Int))).setCell ⟨w.heap.size + 1 + 1 + 1, 1, none⟩ (Value.int IntKind.i64 b0)).setCell ⟨w.heap.size + 1 + 1 + 1, 2, none⟩ (Value.int IntKind.i64 b1)).setCell ⟨w.heap.size + 1 + 1 + 1, 3, none⟩ (Value.int IntKind.i64 b2)).setCell ⟨w.heap.size + 1 + 1 + 1, 4, none⟩ (Value.int IntKind.i64 b3)).setCell ⟨w.heap.size + 1 + 1 + 1, 5, none⟩ (Value.int IntKind.i64 b4)).setCell ⟨w.heap.size + 1 + 1 + 1, 6, none⟩ (Value.int IntKind.i64 b5)).setCell ⟨w.heap.size + 1 + 1 + 1, 7, none⟩ (Value.int IntKind.i64 b6)).setCell ⟨w.heap.size + 1 + 1 + 1, 8, none⟩ (Value.int IntKind.i64 b7)).setCell ⟨w.heap.size + 1 + 1 + 1, 9, none⟩ (Value.int IntKind.i64 b8)).setCell ⟨w.heap.size + 1 + 1 + 1, 10, none⟩ (Value.int IntKind.i64 b9)).setCell ⟨w.heap.size + 1 + 1 + 1, 11, none⟩ (Value.int IntKind.i64 b10)).setCell ⟨w.heap.size + 1 + 1 + 1, 12, none⟩ (Value.int IntKind.i64 b11)) = W at htr hot ⊢
          obtain ⟨hr8, hr9, hrb⟩ := htr
          have hbF := hrb w.heap.size w HBW.out (by omega) (by omega)
          have hrF : ok = true → Ln.Recs 0 W.drew.drew (.slice A8 l8 c8) n.recs := fun h => Ln.recs_two (HREC9.out h) HM9.out HQ9.out hot
          have o0 : W.cell? ⟨w.heap.size + 1 + 1, 0, none⟩ = some (Value.int IntKind.i64 n.base) := Qu.blk_cell hr8 0
          have o1 : W.cell? ⟨w.heap.size + 1 + 1, 1, none⟩ = some (Value.int IntKind.i64 n.first) := Qu.blk_cell hr8 1
          have o2 : W.cell? ⟨w.heap.size + 1 + 1, 2, none⟩ = some (Value.int IntKind.i64 n.durable) := Qu.blk_cell hr8 2
          have o3 : W.cell? ⟨w.heap.size + 1 + 1, 3, none⟩ = some (Value.int IntKind.i64 n.next) := Qu.blk_cell hr8 3
          have o4 : W.cell? ⟨w.heap.size + 1 + 1, 4, none⟩ = some (Value.int IntKind.i64 n.limit) := Qu.blk_cell hr8 4
          have o5 : W.cell? ⟨w.heap.size + 1 + 1, 5, none⟩ = some (Value.slice A8 l8 c8) := Qu.blk_cell hr8 5
          have o6 : W.cell? ⟨w.heap.size + 1 + 1, 6, none⟩ = some (Value.bool n.failed) := Qu.blk_cell hr8 6
          have o7 : W.cell? ⟨w.heap.size + 1 + 1, 7, none⟩ = some (Value.bool n.closed) := Qu.blk_cell hr8 7
          have q0 : W.cell? ⟨w.heap.size + 1 + 1 + 1, 0, none⟩ = some (Value.int IntKind.u64 (L.set : Int)) := Qu.blk_cell hr9 0
          have q1 : W.cell? ⟨w.heap.size + 1 + 1 + 1, 1, none⟩ = some (Value.int IntKind.i64 b0) := Qu.blk_cell hr9 1
          have q2 : W.cell? ⟨w.heap.size + 1 + 1 + 1, 2, none⟩ = some (Value.int IntKind.i64 b1) := Qu.blk_cell hr9 2
          have q3 : W.cell? ⟨w.heap.size + 1 + 1 + 1, 3, none⟩ = some (Value.int IntKind.i64 b2) := Qu.blk_cell hr9 3
          have q4 : W.cell? ⟨w.heap.size + 1 + 1 + 1, 4, none⟩ = some (Value.int IntKind.i64 b3) := Qu.blk_cell hr9 4
          have q5 : W.cell? ⟨w.heap.size + 1 + 1 + 1, 5, none⟩ = some (Value.int IntKind.i64 b4) := Qu.blk_cell hr9 5
          have q6 : W.cell? ⟨w.heap.size + 1 + 1 + 1, 6, none⟩ = some (Value.int IntKind.i64 b5) := Qu.blk_cell hr9 6
          have q7 : W.cell? ⟨w.heap.size + 1 + 1 + 1, 7, none⟩ = some (Value.int IntKind.i64 b6) := Qu.blk_cell hr9 7
          have q8 : W.cell? ⟨w.heap.size + 1 + 1 + 1, 8, none⟩ = some (Value.int IntKind.i64 b7) := Qu.blk_cell hr9 8
          have q9 : W.cell? ⟨w.heap.size + 1 + 1 + 1, 9, none⟩ = some (Value.int IntKind.i64 b8) := Qu.blk_cell hr9 9
          have q10 : W.cell? ⟨w.heap.size + 1 + 1 + 1, 10, none⟩ = some (Value.int IntKind.i64 b9) := Qu.blk_cell hr9 10
          have q11 : W.cell? ⟨w.heap.size + 1 + 1 + 1, 11, none⟩ = some (Value.int IntKind.i64 b10) := Qu.blk_cell hr9 11
          have q12 : W.cell? ⟨w.heap.size + 1 + 1 + 1, 12, none⟩ = some (Value.int IntKind.i64 b11) := Qu.blk_cell hr9 12
          clear hrb hr8 hr9 hot
          refine bodyPost_ret (v := .tuple #[.agg #[Value.int IntKind.i64 n.base, Value.int IntKind.i64 n.first, Value.int IntKind.i64 n.durable, Value.int IntKind.i64 n.next, Value.int IntKind.i64 n.limit, Value.slice A8 l8 c8, Value.bool n.failed, Value.bool n.closed], .agg #[Value.int IntKind.u64 (L.set : Int), Value.int IntKind.i64 b0, Value.int IntKind.i64 b1, Value.int IntKind.i64 b2, Value.int IntKind.i64 b3, Value.int IntKind.i64 b4, Value.int IntKind.i64 b5, Value.int IntKind.i64 b6, Value.int IntKind.i64 b7, Value.int IntKind.i64 b8, Value.int IntKind.i64 b9, Value.int IntKind.i64 b10, Value.int IntKind.i64 b11], .bool ok]) (by simp [results, Try.results62, go_sem, asAddr, o0, o1, o2, o3, o4, o5, o6, o7, q0, q1, q2, q3, q4, q5, q6, q7, q8, q9, q10, q11, q12]) rfl ⟨hbF.drew.drew, A8, l8, c8, by rw [HLK.out, HEB.out], hrF⟩

      · have g2b : decide (m.next < n.next) = false := decide_eq_false g2
        have HK : Hid (Ln.putK k (Ln.at' ps i) m n i = ⟨k.set ||| 1 <<< i, k.lsns⟩) := Lib.hid (by unfold Ln.putK; rw [if_neg (fun h => g2 h.2)])
        have g2' : n.next ≤ m.next := by omega
        have HOK9 := Lib.hid (HOK.out.or hi12)
        clear g2
        go_wp2_with fail
        (refine wp_region_still_tail 6 (by kernel_rfl) (by kernel_rfl) ?_; simp only [List.take_succ_cons, List.take_zero, List.drop_succ_cons, List.drop_zero]; (iterate 6 ((with_reducible refine Ln.still_want (by kernel_rfl) (fun K hK => ?_)); go_simp; refine hK _ ?_; clear hK K)); with_reducible refine wpStill_nil ?_)
        go_wp2_with fail
        obtain ⟨L, hL⟩ : ∃ L : Ln.Key, L = ⟨k.set ||| 1 <<< i, k.lsns⟩ := ⟨_, rfl⟩
        have hok9 : Ln.KOk L := by rw [hL]; exact HOK9.out
        have hbW : Below w.heap.size w (wc.setCell ⟨w.heap.size + 1, 0, none⟩ (Value.int IntKind.u64 ((k.set ||| 1 <<< i : Nat) : Int))) := Ln.below_set HBC0.out (by omega) 0 _
        have hk9 : (wc.setCell ⟨w.heap.size + 1, 0, none⟩ (Value.int IntKind.u64 ((k.set ||| 1 <<< i : Nat) : Int))).heap[w.heap.size + 1]? = some (Obj.cells (Ln.kc L) 104) := by rw [hL]; have h := Qu.blk_set HKC.out 0 (Value.int IntKind.u64 ((k.set ||| 1 <<< i : Nat) : Int)); rw [← HE.out, Ln.kc_set] at h; exact h
        have ho9 : ∀ j, j ≠ w.heap.size + 1 → (wc.setCell ⟨w.heap.size + 1, 0, none⟩ (Value.int IntKind.u64 ((k.set ||| 1 <<< i : Nat) : Int))).heap[j]? = wc.heap[j]? := fun j hj => Below.heap_setCell _ _ _ _ (show j ≠ _ from hj)
        have hLK : Ln.putK k (Ln.at' ps i) m n i = L := by rw [hL]; exact HK.out
        have hrec9 : ok = true → Ln.Recs 0 (wc.setCell ⟨w.heap.size + 1, 0, none⟩ (Value.int IntKind.u64 ((k.set ||| 1 <<< i : Nat) : Int))) (.slice A8 l8 c8) n.recs := fun h => (HREC2.out h).one HKC.out (by decide) ho9
        generalize (wc.setCell ⟨w.heap.size + 1, 0, none⟩ (Value.int IntKind.u64 ((k.set ||| 1 <<< i : Nat) : Int))) = w9 at hbW hk9 ho9 hrec9 ⊢
        obtain ⟨b0, b1, b2, b3, b4, b5, b6, b7, b8, b9, b10, b11, heb, _⟩ := Ln.kc_lit hok9
        have hr9 : w9.heap[R]? = _ := (ho9 R (by omega)).trans HROW.out
        have hm9 : w9.heap[w.heap.size + 1 + 1]? = _ := (ho9 _ (by omega)).trans HOC.out
        have hq9 : w9.heap[w.heap.size + 1 + 1 + 1]? = _ := (ho9 _ (by omega)).trans HQC.out
        have hk92 := hk9
        rw [heb] at hk92
        have hlt9r := Qu.blk_lt hr9
        have hlt9q := Qu.blk_lt hq9
        have hlt9k := Qu.blk_lt hk9
        have hlt9m := Qu.blk_lt hm9
        have k0 : w9.cell? ⟨w.heap.size + 1, 0, none⟩ = some (Value.int IntKind.u64 (L.set : Int)) := Qu.blk_cell hk92 0
        have k1 : w9.cell? ⟨w.heap.size + 1, 1, none⟩ = some (Value.int IntKind.i64 b0) := Qu.blk_cell hk92 1
        have k2 : w9.cell? ⟨w.heap.size + 1, 2, none⟩ = some (Value.int IntKind.i64 b1) := Qu.blk_cell hk92 2
        have k3 : w9.cell? ⟨w.heap.size + 1, 3, none⟩ = some (Value.int IntKind.i64 b2) := Qu.blk_cell hk92 3
        have k4 : w9.cell? ⟨w.heap.size + 1, 4, none⟩ = some (Value.int IntKind.i64 b3) := Qu.blk_cell hk92 4
        have k5 : w9.cell? ⟨w.heap.size + 1, 5, none⟩ = some (Value.int IntKind.i64 b4) := Qu.blk_cell hk92 5
        have k6 : w9.cell? ⟨w.heap.size + 1, 6, none⟩ = some (Value.int IntKind.i64 b5) := Qu.blk_cell hk92 6
        have k7 : w9.cell? ⟨w.heap.size + 1, 7, none⟩ = some (Value.int IntKind.i64 b6) := Qu.blk_cell hk92 7
        have k8 : w9.cell? ⟨w.heap.size + 1, 8, none⟩ = some (Value.int IntKind.i64 b7) := Qu.blk_cell hk92 8
        have k9 : w9.cell? ⟨w.heap.size + 1, 9, none⟩ = some (Value.int IntKind.i64 b8) := Qu.blk_cell hk92 9
        have k10 : w9.cell? ⟨w.heap.size + 1, 10, none⟩ = some (Value.int IntKind.i64 b9) := Qu.blk_cell hk92 10
        have k11 : w9.cell? ⟨w.heap.size + 1, 11, none⟩ = some (Value.int IntKind.i64 b10) := Qu.blk_cell hk92 11
        have k12 : w9.cell? ⟨w.heap.size + 1, 12, none⟩ = some (Value.int IntKind.i64 b11) := Qu.blk_cell hk92 12
        have r0 : w9.cell? ⟨R, 0, none⟩ = some (Value.int IntKind.i64 n.base) := Qu.blk_cell hr9 0
        have r1 : w9.cell? ⟨R, 1, none⟩ = some (Value.int IntKind.i64 n.first) := Qu.blk_cell hr9 1
        have r2 : w9.cell? ⟨R, 2, none⟩ = some (Value.int IntKind.i64 n.durable) := Qu.blk_cell hr9 2
        have r3 : w9.cell? ⟨R, 3, none⟩ = some (Value.int IntKind.i64 n.next) := Qu.blk_cell hr9 3
        have r4 : w9.cell? ⟨R, 4, none⟩ = some (Value.int IntKind.i64 n.limit) := Qu.blk_cell hr9 4
        have r5 : w9.cell? ⟨R, 5, none⟩ = some (Value.slice A8 l8 c8) := Qu.blk_cell hr9 5
        have r6 : w9.cell? ⟨R, 6, none⟩ = some (Value.bool n.failed) := Qu.blk_cell hr9 6
        have r7 : w9.cell? ⟨R, 7, none⟩ = some (Value.bool n.closed) := Qu.blk_cell hr9 7
        have o0 : w9.cell? ⟨w.heap.size + 1 + 1, 0, none⟩ = some (Value.int IntKind.i64 0) := Qu.blk_cell hm9 0
        have o1 : w9.cell? ⟨w.heap.size + 1 + 1, 1, none⟩ = some (Value.int IntKind.i64 0) := Qu.blk_cell hm9 1
        have o2 : w9.cell? ⟨w.heap.size + 1 + 1, 2, none⟩ = some (Value.int IntKind.i64 0) := Qu.blk_cell hm9 2
        have o3 : w9.cell? ⟨w.heap.size + 1 + 1, 3, none⟩ = some (Value.int IntKind.i64 0) := Qu.blk_cell hm9 3
        have o4 : w9.cell? ⟨w.heap.size + 1 + 1, 4, none⟩ = some (Value.int IntKind.i64 0) := Qu.blk_cell hm9 4
        have o5 : w9.cell? ⟨w.heap.size + 1 + 1, 5, none⟩ = some (Value.slice none 0 0) := Qu.blk_cell hm9 5
        have o6 : w9.cell? ⟨w.heap.size + 1 + 1, 6, none⟩ = some (Value.bool false) := Qu.blk_cell hm9 6
        have o7 : w9.cell? ⟨w.heap.size + 1 + 1, 7, none⟩ = some (Value.bool false) := Qu.blk_cell hm9 7
        have q0 : w9.cell? ⟨w.heap.size + 1 + 1 + 1, 0, none⟩ = some (Value.int IntKind.u64 0) := Qu.blk_cell hq9 0
        have q1 : w9.cell? ⟨w.heap.size + 1 + 1 + 1, 1, none⟩ = some (Value.int IntKind.i64 0) := Qu.blk_cell hq9 1
        have q2 : w9.cell? ⟨w.heap.size + 1 + 1 + 1, 2, none⟩ = some (Value.int IntKind.i64 0) := Qu.blk_cell hq9 2
        have q3 : w9.cell? ⟨w.heap.size + 1 + 1 + 1, 3, none⟩ = some (Value.int IntKind.i64 0) := Qu.blk_cell hq9 3
        have q4 : w9.cell? ⟨w.heap.size + 1 + 1 + 1, 4, none⟩ = some (Value.int IntKind.i64 0) := Qu.blk_cell hq9 4
        have q5 : w9.cell? ⟨w.heap.size + 1 + 1 + 1, 5, none⟩ = some (Value.int IntKind.i64 0) := Qu.blk_cell hq9 5
        have q6 : w9.cell? ⟨w.heap.size + 1 + 1 + 1, 6, none⟩ = some (Value.int IntKind.i64 0) := Qu.blk_cell hq9 6
        have q7 : w9.cell? ⟨w.heap.size + 1 + 1 + 1, 7, none⟩ = some (Value.int IntKind.i64 0) := Qu.blk_cell hq9 7
        have q8 : w9.cell? ⟨w.heap.size + 1 + 1 + 1, 8, none⟩ = some (Value.int IntKind.i64 0) := Qu.blk_cell hq9 8
        have q9 : w9.cell? ⟨w.heap.size + 1 + 1 + 1, 9, none⟩ = some (Value.int IntKind.i64 0) := Qu.blk_cell hq9 9
        have q10 : w9.cell? ⟨w.heap.size + 1 + 1 + 1, 10, none⟩ = some (Value.int IntKind.i64 0) := Qu.blk_cell hq9 10
        have q11 : w9.cell? ⟨w.heap.size + 1 + 1 + 1, 11, none⟩ = some (Value.int IntKind.i64 0) := Qu.blk_cell hq9 11
        have q12 : w9.cell? ⟨w.heap.size + 1 + 1 + 1, 12, none⟩ = some (Value.int IntKind.i64 0) := Qu.blk_cell hq9 12
        have of0 := Qu.blk_frozen hm9 0
        have of1 := Qu.blk_frozen hm9 1
        have of2 := Qu.blk_frozen hm9 2
        have of3 := Qu.blk_frozen hm9 3
        have of4 := Qu.blk_frozen hm9 4
        have of5 := Qu.blk_frozen hm9 5
        have of6 := Qu.blk_frozen hm9 6
        have of7 := Qu.blk_frozen hm9 7
        have qf0 := Qu.blk_frozen hq9 0
        have qf1 := Qu.blk_frozen hq9 1
        have qf2 := Qu.blk_frozen hq9 2
        have qf3 := Qu.blk_frozen hq9 3
        have qf4 := Qu.blk_frozen hq9 4
        have qf5 := Qu.blk_frozen hq9 5
        have qf6 := Qu.blk_frozen hq9 6
        have qf7 := Qu.blk_frozen hq9 7
        have qf8 := Qu.blk_frozen hq9 8
        have qf9 := Qu.blk_frozen hq9 9
        have qf10 := Qu.blk_frozen hq9 10
        have qf11 := Qu.blk_frozen hq9 11
        have qf12 := Qu.blk_frozen hq9 12
        have HBW := Lib.hid hbW
        have HEB := Lib.hid heb
        have HM9 := Lib.hid hm9
        have HQ9 := Lib.hid hq9
        have HLK := Lib.hid hLK
        have HREC9 := Lib.hid hrec9
        clear hbW hk9 ho9 hrec9 hok9 heb hr9 hm9 hq9 hk92 hL hLK e0 ef0 s0c m3c r3c hor
        go_region
        all_goals
          clear k0 k1 k2 k3 k4 k5 k6 k7 k8 k9 k10 k11 k12 r0 r1 r2 r3 r4 r5 r6 r7 o0 o1 o2 o3 o4 o5 o6 o7 q0 q1 q2 q3 q4 q5 q6 q7 q8 q9 q10 q11 q12 of0 of1 of2 of3 of4 of5 of6 of7 qf0 qf1 qf2 qf3 qf4 qf5 qf6 qf7 qf8 qf9 qf10 qf11 qf12
          go_wp2_with fail
          have htr := Ln.two_rows (by omega) (Value.int IntKind.i64 n.base) (Value.int IntKind.i64 n.first) (Value.int IntKind.i64 n.durable) (Value.int IntKind.i64 n.next) (Value.int IntKind.i64 n.limit) (Value.slice A8 l8 c8) (Value.bool n.failed) (Value.bool n.closed) (Value.int IntKind.u64 (L.set : Int)) (Value.int IntKind.i64 b0) (Value.int IntKind.i64 b1) (Value.int IntKind.i64 b2) (Value.int IntKind.i64 b3) (Value.int IntKind.i64 b4) (Value.int IntKind.i64 b5) (Value.int IntKind.i64 b6) (Value.int IntKind.i64 b7) (Value.int IntKind.i64 b8) (Value.int IntKind.i64 b9) (Value.int IntKind.i64 b10) (Value.int IntKind.i64 b11) HM9.out HQ9.out
          have hot := Ln.two_other (w5 := w9) (b := w.heap.size + 1 + 1) (c := w.heap.size + 1 + 1 + 1) (Value.int IntKind.i64 n.base) (Value.int IntKind.i64 n.first) (Value.int IntKind.i64 n.durable) (Value.int IntKind.i64 n.next) (Value.int IntKind.i64 n.limit) (Value.slice A8 l8 c8) (Value.bool n.failed) (Value.bool n.closed) (Value.int IntKind.u64 (L.set : Int)) (Value.int IntKind.i64 b0) (Value.int IntKind.i64 b1) (Value.int IntKind.i64 b2) (Value.int IntKind.i64 b3) (Value.int IntKind.i64 b4) (Value.int IntKind.i64 b5) (Value.int IntKind.i64 b6) (Value.int IntKind.i64 b7) (Value.int IntKind.i64 b8) (Value.int IntKind.i64 b9) (Value.int IntKind.i64 b10) (Value.int IntKind.i64 b11)
          generalize (((((((((((((((((((((w9.setCell ⟨w.heap.size + 1 + 1, 0, none⟩ (Value.int IntKind.i64 n.base)).setCell ⟨w.heap.size + 1 + 1, 1, none⟩ (Value.int IntKind.i64 n.first)).setCell ⟨w.heap.size + 1 + 1, 2, none⟩ (Value.int IntKind.i64 n.durable)).setCell ⟨w.heap.size + 1 + 1, 3, none⟩ (Value.int IntKind.i64 n.next)).setCell ⟨w.heap.size + 1 + 1, 4, none⟩ (Value.int IntKind.i64 n.limit)).setCell ⟨w.heap.size + 1 + 1, 5, none⟩ (Value.slice A8 l8 c8)).setCell ⟨w.heap.size + 1 + 1, 6, none⟩ (Value.bool n.failed)).setCell ⟨w.heap.size + 1 + 1, 7, none⟩ (Value.bool n.closed)).setCell ⟨w.heap.size + 1 + 1 + 1, 0, none⟩ (Value.int IntKind.u64 (L.set : Int))).setCell ⟨w.heap.size + 1 + 1 + 1, 1, none⟩ (Value.int IntKind.i64 b0)).setCell ⟨w.heap.size + 1 + 1 + 1, 2, none⟩ (Value.int IntKind.i64 b1)).setCell ⟨w.heap.size + 1 + 1 + 1, 3, none⟩ (Value.int IntKind.i64 b2)).setCell ⟨w.heap.size + 1 + 1 + 1, 4, none⟩ (Value.int IntKind.i64 b3)).setCell ⟨w.heap.size + 1 + 1 + 1, 5, none⟩ (Value.int IntKind.i64 b4)).setCell ⟨w.heap.size + 1 + 1 + 1, 6, none⟩ (Value.int IntKind.i64 b5)).setCell ⟨w.heap.size + 1 + 1 + 1, 7, none⟩ (Value.int IntKind.i64 b6)).setCell ⟨w.heap.size + 1 + 1 + 1, 8, none⟩ (Value.int IntKind.i64 b7)).setCell ⟨w.heap.size + 1 + 1 + 1, 9, none⟩ (Value.int IntKind.i64 b8)).setCell ⟨w.heap.size + 1 + 1 + 1, 10, none⟩ (Value.int IntKind.i64 b9)).setCell ⟨w.heap.size + 1 + 1 + 1, 11, none⟩ (Value.int IntKind.i64 b10)).setCell ⟨w.heap.size + 1 + 1 + 1, 12, none⟩ (Value.int IntKind.i64 b11)) = W at htr hot ⊢
          obtain ⟨hr8, hr9, hrb⟩ := htr
          have hbF := hrb w.heap.size w HBW.out (by omega) (by omega)
          have hrF : ok = true → Ln.Recs 0 W.drew.drew (.slice A8 l8 c8) n.recs := fun h => Ln.recs_two (HREC9.out h) HM9.out HQ9.out hot
          have o0 : W.cell? ⟨w.heap.size + 1 + 1, 0, none⟩ = some (Value.int IntKind.i64 n.base) := Qu.blk_cell hr8 0
          have o1 : W.cell? ⟨w.heap.size + 1 + 1, 1, none⟩ = some (Value.int IntKind.i64 n.first) := Qu.blk_cell hr8 1
          have o2 : W.cell? ⟨w.heap.size + 1 + 1, 2, none⟩ = some (Value.int IntKind.i64 n.durable) := Qu.blk_cell hr8 2
          have o3 : W.cell? ⟨w.heap.size + 1 + 1, 3, none⟩ = some (Value.int IntKind.i64 n.next) := Qu.blk_cell hr8 3
          have o4 : W.cell? ⟨w.heap.size + 1 + 1, 4, none⟩ = some (Value.int IntKind.i64 n.limit) := Qu.blk_cell hr8 4
          have o5 : W.cell? ⟨w.heap.size + 1 + 1, 5, none⟩ = some (Value.slice A8 l8 c8) := Qu.blk_cell hr8 5
          have o6 : W.cell? ⟨w.heap.size + 1 + 1, 6, none⟩ = some (Value.bool n.failed) := Qu.blk_cell hr8 6
          have o7 : W.cell? ⟨w.heap.size + 1 + 1, 7, none⟩ = some (Value.bool n.closed) := Qu.blk_cell hr8 7
          have q0 : W.cell? ⟨w.heap.size + 1 + 1 + 1, 0, none⟩ = some (Value.int IntKind.u64 (L.set : Int)) := Qu.blk_cell hr9 0
          have q1 : W.cell? ⟨w.heap.size + 1 + 1 + 1, 1, none⟩ = some (Value.int IntKind.i64 b0) := Qu.blk_cell hr9 1
          have q2 : W.cell? ⟨w.heap.size + 1 + 1 + 1, 2, none⟩ = some (Value.int IntKind.i64 b1) := Qu.blk_cell hr9 2
          have q3 : W.cell? ⟨w.heap.size + 1 + 1 + 1, 3, none⟩ = some (Value.int IntKind.i64 b2) := Qu.blk_cell hr9 3
          have q4 : W.cell? ⟨w.heap.size + 1 + 1 + 1, 4, none⟩ = some (Value.int IntKind.i64 b3) := Qu.blk_cell hr9 4
          have q5 : W.cell? ⟨w.heap.size + 1 + 1 + 1, 5, none⟩ = some (Value.int IntKind.i64 b4) := Qu.blk_cell hr9 5
          have q6 : W.cell? ⟨w.heap.size + 1 + 1 + 1, 6, none⟩ = some (Value.int IntKind.i64 b5) := Qu.blk_cell hr9 6
          have q7 : W.cell? ⟨w.heap.size + 1 + 1 + 1, 7, none⟩ = some (Value.int IntKind.i64 b6) := Qu.blk_cell hr9 7
          have q8 : W.cell? ⟨w.heap.size + 1 + 1 + 1, 8, none⟩ = some (Value.int IntKind.i64 b7) := Qu.blk_cell hr9 8
          have q9 : W.cell? ⟨w.heap.size + 1 + 1 + 1, 9, none⟩ = some (Value.int IntKind.i64 b8) := Qu.blk_cell hr9 9
          have q10 : W.cell? ⟨w.heap.size + 1 + 1 + 1, 10, none⟩ = some (Value.int IntKind.i64 b9) := Qu.blk_cell hr9 10
          have q11 : W.cell? ⟨w.heap.size + 1 + 1 + 1, 11, none⟩ = some (Value.int IntKind.i64 b10) := Qu.blk_cell hr9 11
          have q12 : W.cell? ⟨w.heap.size + 1 + 1 + 1, 12, none⟩ = some (Value.int IntKind.i64 b11) := Qu.blk_cell hr9 12
          clear hrb hr8 hr9 hot
          refine bodyPost_ret (v := .tuple #[.agg #[Value.int IntKind.i64 n.base, Value.int IntKind.i64 n.first, Value.int IntKind.i64 n.durable, Value.int IntKind.i64 n.next, Value.int IntKind.i64 n.limit, Value.slice A8 l8 c8, Value.bool n.failed, Value.bool n.closed], .agg #[Value.int IntKind.u64 (L.set : Int), Value.int IntKind.i64 b0, Value.int IntKind.i64 b1, Value.int IntKind.i64 b2, Value.int IntKind.i64 b3, Value.int IntKind.i64 b4, Value.int IntKind.i64 b5, Value.int IntKind.i64 b6, Value.int IntKind.i64 b7, Value.int IntKind.i64 b8, Value.int IntKind.i64 b9, Value.int IntKind.i64 b10, Value.int IntKind.i64 b11], .bool ok]) (by simp [results, Try.results62, go_sem, asAddr, o0, o1, o2, o3, o4, o5, o6, o7, q0, q1, q2, q3, q4, q5, q6, q7, q8, q9, q10, q11, q12]) rfl ⟨hbF.drew.drew, A8, l8, c8, by rw [HLK.out, HEB.out], hrF⟩

    · have g1b : ((Ln.at' ps i).fin == 0) = false := beq_eq_false_iff_ne.2 g1
      have HK : Hid (Ln.putK k (Ln.at' ps i) m n i = ⟨k.set ||| 1 <<< i, k.lsns⟩) := Lib.hid (by unfold Ln.putK; rw [if_neg (fun h => g1 h.1)])
      have HOK9 := Lib.hid (HOK.out.or hi12)
      clear g1
      go_wp2_with fail
      (refine wp_region_still_tail 6 (by kernel_rfl) (by kernel_rfl) ?_; simp only [List.take_succ_cons, List.take_zero, List.drop_succ_cons, List.drop_zero]; (iterate 6 ((with_reducible refine Ln.still_want (by kernel_rfl) (fun K hK => ?_)); go_simp; refine hK _ ?_; clear hK K)); with_reducible refine wpStill_nil ?_)
      go_wp2_with fail
      obtain ⟨L, hL⟩ : ∃ L : Ln.Key, L = ⟨k.set ||| 1 <<< i, k.lsns⟩ := ⟨_, rfl⟩
      have hok9 : Ln.KOk L := by rw [hL]; exact HOK9.out
      have hbW : Below w.heap.size w (wc.setCell ⟨w.heap.size + 1, 0, none⟩ (Value.int IntKind.u64 ((k.set ||| 1 <<< i : Nat) : Int))) := Ln.below_set HBC0.out (by omega) 0 _
      have hk9 : (wc.setCell ⟨w.heap.size + 1, 0, none⟩ (Value.int IntKind.u64 ((k.set ||| 1 <<< i : Nat) : Int))).heap[w.heap.size + 1]? = some (Obj.cells (Ln.kc L) 104) := by rw [hL]; have h := Qu.blk_set HKC.out 0 (Value.int IntKind.u64 ((k.set ||| 1 <<< i : Nat) : Int)); rw [← HE.out, Ln.kc_set] at h; exact h
      have ho9 : ∀ j, j ≠ w.heap.size + 1 → (wc.setCell ⟨w.heap.size + 1, 0, none⟩ (Value.int IntKind.u64 ((k.set ||| 1 <<< i : Nat) : Int))).heap[j]? = wc.heap[j]? := fun j hj => Below.heap_setCell _ _ _ _ (show j ≠ _ from hj)
      have hLK : Ln.putK k (Ln.at' ps i) m n i = L := by rw [hL]; exact HK.out
      have hrec9 : ok = true → Ln.Recs 0 (wc.setCell ⟨w.heap.size + 1, 0, none⟩ (Value.int IntKind.u64 ((k.set ||| 1 <<< i : Nat) : Int))) (.slice A8 l8 c8) n.recs := fun h => (HREC2.out h).one HKC.out (by decide) ho9
      generalize (wc.setCell ⟨w.heap.size + 1, 0, none⟩ (Value.int IntKind.u64 ((k.set ||| 1 <<< i : Nat) : Int))) = w9 at hbW hk9 ho9 hrec9 ⊢
      obtain ⟨b0, b1, b2, b3, b4, b5, b6, b7, b8, b9, b10, b11, heb, _⟩ := Ln.kc_lit hok9
      have hr9 : w9.heap[R]? = _ := (ho9 R (by omega)).trans HROW.out
      have hm9 : w9.heap[w.heap.size + 1 + 1]? = _ := (ho9 _ (by omega)).trans HOC.out
      have hq9 : w9.heap[w.heap.size + 1 + 1 + 1]? = _ := (ho9 _ (by omega)).trans HQC.out
      have hk92 := hk9
      rw [heb] at hk92
      have hlt9r := Qu.blk_lt hr9
      have hlt9q := Qu.blk_lt hq9
      have hlt9k := Qu.blk_lt hk9
      have hlt9m := Qu.blk_lt hm9
      have k0 : w9.cell? ⟨w.heap.size + 1, 0, none⟩ = some (Value.int IntKind.u64 (L.set : Int)) := Qu.blk_cell hk92 0
      have k1 : w9.cell? ⟨w.heap.size + 1, 1, none⟩ = some (Value.int IntKind.i64 b0) := Qu.blk_cell hk92 1
      have k2 : w9.cell? ⟨w.heap.size + 1, 2, none⟩ = some (Value.int IntKind.i64 b1) := Qu.blk_cell hk92 2
      have k3 : w9.cell? ⟨w.heap.size + 1, 3, none⟩ = some (Value.int IntKind.i64 b2) := Qu.blk_cell hk92 3
      have k4 : w9.cell? ⟨w.heap.size + 1, 4, none⟩ = some (Value.int IntKind.i64 b3) := Qu.blk_cell hk92 4
      have k5 : w9.cell? ⟨w.heap.size + 1, 5, none⟩ = some (Value.int IntKind.i64 b4) := Qu.blk_cell hk92 5
      have k6 : w9.cell? ⟨w.heap.size + 1, 6, none⟩ = some (Value.int IntKind.i64 b5) := Qu.blk_cell hk92 6
      have k7 : w9.cell? ⟨w.heap.size + 1, 7, none⟩ = some (Value.int IntKind.i64 b6) := Qu.blk_cell hk92 7
      have k8 : w9.cell? ⟨w.heap.size + 1, 8, none⟩ = some (Value.int IntKind.i64 b7) := Qu.blk_cell hk92 8
      have k9 : w9.cell? ⟨w.heap.size + 1, 9, none⟩ = some (Value.int IntKind.i64 b8) := Qu.blk_cell hk92 9
      have k10 : w9.cell? ⟨w.heap.size + 1, 10, none⟩ = some (Value.int IntKind.i64 b9) := Qu.blk_cell hk92 10
      have k11 : w9.cell? ⟨w.heap.size + 1, 11, none⟩ = some (Value.int IntKind.i64 b10) := Qu.blk_cell hk92 11
      have k12 : w9.cell? ⟨w.heap.size + 1, 12, none⟩ = some (Value.int IntKind.i64 b11) := Qu.blk_cell hk92 12
      have r0 : w9.cell? ⟨R, 0, none⟩ = some (Value.int IntKind.i64 n.base) := Qu.blk_cell hr9 0
      have r1 : w9.cell? ⟨R, 1, none⟩ = some (Value.int IntKind.i64 n.first) := Qu.blk_cell hr9 1
      have r2 : w9.cell? ⟨R, 2, none⟩ = some (Value.int IntKind.i64 n.durable) := Qu.blk_cell hr9 2
      have r3 : w9.cell? ⟨R, 3, none⟩ = some (Value.int IntKind.i64 n.next) := Qu.blk_cell hr9 3
      have r4 : w9.cell? ⟨R, 4, none⟩ = some (Value.int IntKind.i64 n.limit) := Qu.blk_cell hr9 4
      have r5 : w9.cell? ⟨R, 5, none⟩ = some (Value.slice A8 l8 c8) := Qu.blk_cell hr9 5
      have r6 : w9.cell? ⟨R, 6, none⟩ = some (Value.bool n.failed) := Qu.blk_cell hr9 6
      have r7 : w9.cell? ⟨R, 7, none⟩ = some (Value.bool n.closed) := Qu.blk_cell hr9 7
      have o0 : w9.cell? ⟨w.heap.size + 1 + 1, 0, none⟩ = some (Value.int IntKind.i64 0) := Qu.blk_cell hm9 0
      have o1 : w9.cell? ⟨w.heap.size + 1 + 1, 1, none⟩ = some (Value.int IntKind.i64 0) := Qu.blk_cell hm9 1
      have o2 : w9.cell? ⟨w.heap.size + 1 + 1, 2, none⟩ = some (Value.int IntKind.i64 0) := Qu.blk_cell hm9 2
      have o3 : w9.cell? ⟨w.heap.size + 1 + 1, 3, none⟩ = some (Value.int IntKind.i64 0) := Qu.blk_cell hm9 3
      have o4 : w9.cell? ⟨w.heap.size + 1 + 1, 4, none⟩ = some (Value.int IntKind.i64 0) := Qu.blk_cell hm9 4
      have o5 : w9.cell? ⟨w.heap.size + 1 + 1, 5, none⟩ = some (Value.slice none 0 0) := Qu.blk_cell hm9 5
      have o6 : w9.cell? ⟨w.heap.size + 1 + 1, 6, none⟩ = some (Value.bool false) := Qu.blk_cell hm9 6
      have o7 : w9.cell? ⟨w.heap.size + 1 + 1, 7, none⟩ = some (Value.bool false) := Qu.blk_cell hm9 7
      have q0 : w9.cell? ⟨w.heap.size + 1 + 1 + 1, 0, none⟩ = some (Value.int IntKind.u64 0) := Qu.blk_cell hq9 0
      have q1 : w9.cell? ⟨w.heap.size + 1 + 1 + 1, 1, none⟩ = some (Value.int IntKind.i64 0) := Qu.blk_cell hq9 1
      have q2 : w9.cell? ⟨w.heap.size + 1 + 1 + 1, 2, none⟩ = some (Value.int IntKind.i64 0) := Qu.blk_cell hq9 2
      have q3 : w9.cell? ⟨w.heap.size + 1 + 1 + 1, 3, none⟩ = some (Value.int IntKind.i64 0) := Qu.blk_cell hq9 3
      have q4 : w9.cell? ⟨w.heap.size + 1 + 1 + 1, 4, none⟩ = some (Value.int IntKind.i64 0) := Qu.blk_cell hq9 4
      have q5 : w9.cell? ⟨w.heap.size + 1 + 1 + 1, 5, none⟩ = some (Value.int IntKind.i64 0) := Qu.blk_cell hq9 5
      have q6 : w9.cell? ⟨w.heap.size + 1 + 1 + 1, 6, none⟩ = some (Value.int IntKind.i64 0) := Qu.blk_cell hq9 6
      have q7 : w9.cell? ⟨w.heap.size + 1 + 1 + 1, 7, none⟩ = some (Value.int IntKind.i64 0) := Qu.blk_cell hq9 7
      have q8 : w9.cell? ⟨w.heap.size + 1 + 1 + 1, 8, none⟩ = some (Value.int IntKind.i64 0) := Qu.blk_cell hq9 8
      have q9 : w9.cell? ⟨w.heap.size + 1 + 1 + 1, 9, none⟩ = some (Value.int IntKind.i64 0) := Qu.blk_cell hq9 9
      have q10 : w9.cell? ⟨w.heap.size + 1 + 1 + 1, 10, none⟩ = some (Value.int IntKind.i64 0) := Qu.blk_cell hq9 10
      have q11 : w9.cell? ⟨w.heap.size + 1 + 1 + 1, 11, none⟩ = some (Value.int IntKind.i64 0) := Qu.blk_cell hq9 11
      have q12 : w9.cell? ⟨w.heap.size + 1 + 1 + 1, 12, none⟩ = some (Value.int IntKind.i64 0) := Qu.blk_cell hq9 12
      have of0 := Qu.blk_frozen hm9 0
      have of1 := Qu.blk_frozen hm9 1
      have of2 := Qu.blk_frozen hm9 2
      have of3 := Qu.blk_frozen hm9 3
      have of4 := Qu.blk_frozen hm9 4
      have of5 := Qu.blk_frozen hm9 5
      have of6 := Qu.blk_frozen hm9 6
      have of7 := Qu.blk_frozen hm9 7
      have qf0 := Qu.blk_frozen hq9 0
      have qf1 := Qu.blk_frozen hq9 1
      have qf2 := Qu.blk_frozen hq9 2
      have qf3 := Qu.blk_frozen hq9 3
      have qf4 := Qu.blk_frozen hq9 4
      have qf5 := Qu.blk_frozen hq9 5
      have qf6 := Qu.blk_frozen hq9 6
      have qf7 := Qu.blk_frozen hq9 7
      have qf8 := Qu.blk_frozen hq9 8
      have qf9 := Qu.blk_frozen hq9 9
      have qf10 := Qu.blk_frozen hq9 10
      have qf11 := Qu.blk_frozen hq9 11
      have qf12 := Qu.blk_frozen hq9 12
      have HBW := Lib.hid hbW
      have HEB := Lib.hid heb
      have HM9 := Lib.hid hm9
      have HQ9 := Lib.hid hq9
      have HLK := Lib.hid hLK
      have HREC9 := Lib.hid hrec9
      clear hbW hk9 ho9 hrec9 hok9 heb hr9 hm9 hq9 hk92 hL hLK e0 ef0 s0c m3c r3c hor
      go_region
      all_goals
        clear k0 k1 k2 k3 k4 k5 k6 k7 k8 k9 k10 k11 k12 r0 r1 r2 r3 r4 r5 r6 r7 o0 o1 o2 o3 o4 o5 o6 o7 q0 q1 q2 q3 q4 q5 q6 q7 q8 q9 q10 q11 q12 of0 of1 of2 of3 of4 of5 of6 of7 qf0 qf1 qf2 qf3 qf4 qf5 qf6 qf7 qf8 qf9 qf10 qf11 qf12
        go_wp2_with fail
        have htr := Ln.two_rows (by omega) (Value.int IntKind.i64 n.base) (Value.int IntKind.i64 n.first) (Value.int IntKind.i64 n.durable) (Value.int IntKind.i64 n.next) (Value.int IntKind.i64 n.limit) (Value.slice A8 l8 c8) (Value.bool n.failed) (Value.bool n.closed) (Value.int IntKind.u64 (L.set : Int)) (Value.int IntKind.i64 b0) (Value.int IntKind.i64 b1) (Value.int IntKind.i64 b2) (Value.int IntKind.i64 b3) (Value.int IntKind.i64 b4) (Value.int IntKind.i64 b5) (Value.int IntKind.i64 b6) (Value.int IntKind.i64 b7) (Value.int IntKind.i64 b8) (Value.int IntKind.i64 b9) (Value.int IntKind.i64 b10) (Value.int IntKind.i64 b11) HM9.out HQ9.out
        have hot := Ln.two_other (w5 := w9) (b := w.heap.size + 1 + 1) (c := w.heap.size + 1 + 1 + 1) (Value.int IntKind.i64 n.base) (Value.int IntKind.i64 n.first) (Value.int IntKind.i64 n.durable) (Value.int IntKind.i64 n.next) (Value.int IntKind.i64 n.limit) (Value.slice A8 l8 c8) (Value.bool n.failed) (Value.bool n.closed) (Value.int IntKind.u64 (L.set : Int)) (Value.int IntKind.i64 b0) (Value.int IntKind.i64 b1) (Value.int IntKind.i64 b2) (Value.int IntKind.i64 b3) (Value.int IntKind.i64 b4) (Value.int IntKind.i64 b5) (Value.int IntKind.i64 b6) (Value.int IntKind.i64 b7) (Value.int IntKind.i64 b8) (Value.int IntKind.i64 b9) (Value.int IntKind.i64 b10) (Value.int IntKind.i64 b11)
        generalize (((((((((((((((((((((w9.setCell ⟨w.heap.size + 1 + 1, 0, none⟩ (Value.int IntKind.i64 n.base)).setCell ⟨w.heap.size + 1 + 1, 1, none⟩ (Value.int IntKind.i64 n.first)).setCell ⟨w.heap.size + 1 + 1, 2, none⟩ (Value.int IntKind.i64 n.durable)).setCell ⟨w.heap.size + 1 + 1, 3, none⟩ (Value.int IntKind.i64 n.next)).setCell ⟨w.heap.size + 1 + 1, 4, none⟩ (Value.int IntKind.i64 n.limit)).setCell ⟨w.heap.size + 1 + 1, 5, none⟩ (Value.slice A8 l8 c8)).setCell ⟨w.heap.size + 1 + 1, 6, none⟩ (Value.bool n.failed)).setCell ⟨w.heap.size + 1 + 1, 7, none⟩ (Value.bool n.closed)).setCell ⟨w.heap.size + 1 + 1 + 1, 0, none⟩ (Value.int IntKind.u64 (L.set : Int))).setCell ⟨w.heap.size + 1 + 1 + 1, 1, none⟩ (Value.int IntKind.i64 b0)).setCell ⟨w.heap.size + 1 + 1 + 1, 2, none⟩ (Value.int IntKind.i64 b1)).setCell ⟨w.heap.size + 1 + 1 + 1, 3, none⟩ (Value.int IntKind.i64 b2)).setCell ⟨w.heap.size + 1 + 1 + 1, 4, none⟩ (Value.int IntKind.i64 b3)).setCell ⟨w.heap.size + 1 + 1 + 1, 5, none⟩ (Value.int IntKind.i64 b4)).setCell ⟨w.heap.size + 1 + 1 + 1, 6, none⟩ (Value.int IntKind.i64 b5)).setCell ⟨w.heap.size + 1 + 1 + 1, 7, none⟩ (Value.int IntKind.i64 b6)).setCell ⟨w.heap.size + 1 + 1 + 1, 8, none⟩ (Value.int IntKind.i64 b7)).setCell ⟨w.heap.size + 1 + 1 + 1, 9, none⟩ (Value.int IntKind.i64 b8)).setCell ⟨w.heap.size + 1 + 1 + 1, 10, none⟩ (Value.int IntKind.i64 b9)).setCell ⟨w.heap.size + 1 + 1 + 1, 11, none⟩ (Value.int IntKind.i64 b10)).setCell ⟨w.heap.size + 1 + 1 + 1, 12, none⟩ (Value.int IntKind.i64 b11)) = W at htr hot ⊢
        obtain ⟨hr8, hr9, hrb⟩ := htr
        have hbF := hrb w.heap.size w HBW.out (by omega) (by omega)
        have hrF : ok = true → Ln.Recs 0 W.drew.drew (.slice A8 l8 c8) n.recs := fun h => Ln.recs_two (HREC9.out h) HM9.out HQ9.out hot
        have o0 : W.cell? ⟨w.heap.size + 1 + 1, 0, none⟩ = some (Value.int IntKind.i64 n.base) := Qu.blk_cell hr8 0
        have o1 : W.cell? ⟨w.heap.size + 1 + 1, 1, none⟩ = some (Value.int IntKind.i64 n.first) := Qu.blk_cell hr8 1
        have o2 : W.cell? ⟨w.heap.size + 1 + 1, 2, none⟩ = some (Value.int IntKind.i64 n.durable) := Qu.blk_cell hr8 2
        have o3 : W.cell? ⟨w.heap.size + 1 + 1, 3, none⟩ = some (Value.int IntKind.i64 n.next) := Qu.blk_cell hr8 3
        have o4 : W.cell? ⟨w.heap.size + 1 + 1, 4, none⟩ = some (Value.int IntKind.i64 n.limit) := Qu.blk_cell hr8 4
        have o5 : W.cell? ⟨w.heap.size + 1 + 1, 5, none⟩ = some (Value.slice A8 l8 c8) := Qu.blk_cell hr8 5
        have o6 : W.cell? ⟨w.heap.size + 1 + 1, 6, none⟩ = some (Value.bool n.failed) := Qu.blk_cell hr8 6
        have o7 : W.cell? ⟨w.heap.size + 1 + 1, 7, none⟩ = some (Value.bool n.closed) := Qu.blk_cell hr8 7
        have q0 : W.cell? ⟨w.heap.size + 1 + 1 + 1, 0, none⟩ = some (Value.int IntKind.u64 (L.set : Int)) := Qu.blk_cell hr9 0
        have q1 : W.cell? ⟨w.heap.size + 1 + 1 + 1, 1, none⟩ = some (Value.int IntKind.i64 b0) := Qu.blk_cell hr9 1
        have q2 : W.cell? ⟨w.heap.size + 1 + 1 + 1, 2, none⟩ = some (Value.int IntKind.i64 b1) := Qu.blk_cell hr9 2
        have q3 : W.cell? ⟨w.heap.size + 1 + 1 + 1, 3, none⟩ = some (Value.int IntKind.i64 b2) := Qu.blk_cell hr9 3
        have q4 : W.cell? ⟨w.heap.size + 1 + 1 + 1, 4, none⟩ = some (Value.int IntKind.i64 b3) := Qu.blk_cell hr9 4
        have q5 : W.cell? ⟨w.heap.size + 1 + 1 + 1, 5, none⟩ = some (Value.int IntKind.i64 b4) := Qu.blk_cell hr9 5
        have q6 : W.cell? ⟨w.heap.size + 1 + 1 + 1, 6, none⟩ = some (Value.int IntKind.i64 b5) := Qu.blk_cell hr9 6
        have q7 : W.cell? ⟨w.heap.size + 1 + 1 + 1, 7, none⟩ = some (Value.int IntKind.i64 b6) := Qu.blk_cell hr9 7
        have q8 : W.cell? ⟨w.heap.size + 1 + 1 + 1, 8, none⟩ = some (Value.int IntKind.i64 b7) := Qu.blk_cell hr9 8
        have q9 : W.cell? ⟨w.heap.size + 1 + 1 + 1, 9, none⟩ = some (Value.int IntKind.i64 b8) := Qu.blk_cell hr9 9
        have q10 : W.cell? ⟨w.heap.size + 1 + 1 + 1, 10, none⟩ = some (Value.int IntKind.i64 b9) := Qu.blk_cell hr9 10
        have q11 : W.cell? ⟨w.heap.size + 1 + 1 + 1, 11, none⟩ = some (Value.int IntKind.i64 b10) := Qu.blk_cell hr9 11
        have q12 : W.cell? ⟨w.heap.size + 1 + 1 + 1, 12, none⟩ = some (Value.int IntKind.i64 b11) := Qu.blk_cell hr9 12
        clear hrb hr8 hr9 hot
        refine bodyPost_ret (v := .tuple #[.agg #[Value.int IntKind.i64 n.base, Value.int IntKind.i64 n.first, Value.int IntKind.i64 n.durable, Value.int IntKind.i64 n.next, Value.int IntKind.i64 n.limit, Value.slice A8 l8 c8, Value.bool n.failed, Value.bool n.closed], .agg #[Value.int IntKind.u64 (L.set : Int), Value.int IntKind.i64 b0, Value.int IntKind.i64 b1, Value.int IntKind.i64 b2, Value.int IntKind.i64 b3, Value.int IntKind.i64 b4, Value.int IntKind.i64 b5, Value.int IntKind.i64 b6, Value.int IntKind.i64 b7, Value.int IntKind.i64 b8, Value.int IntKind.i64 b9, Value.int IntKind.i64 b10, Value.int IntKind.i64 b11], .bool ok]) (by simp [results, Try.results62, go_sem, asAddr, o0, o1, o2, o3, o4, o5, o6, o7, q0, q1, q2, q3, q4, q5, q6, q7, q8, q9, q10, q11, q12]) rfl ⟨hbF.drew.drew, A8, l8, c8, by rw [HLK.out, HEB.out], hrF⟩


end Go.Proofs.Ytgdeoodihhcdjaa
