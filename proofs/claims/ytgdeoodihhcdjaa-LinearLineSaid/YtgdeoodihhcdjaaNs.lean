/- The contract of Legal. -/
import Derived.Test.YtgdeoodihhcdjaaNr
import Derived.Deep.DeepCutAuto
namespace Go.Proofs.Ytgdeoodihhcdjaa
open Go.RowKit
set_option linter.unusedVariables false
set_option linter.unusedSimpArgs false


theorem Try.info4 : (Try.prog.info? 4).map (fun i => (i.zero, i.size, i.bytes)) = some (some (.bool false), 1, 1) := by kernel_rfl
/-- An order in memory. -/
def Ln.Ord (w : World) (V : Value) (order : List Int) : Prop :=
  (∃ A cp, V = .slice A 0 cp ∧ order = []) ∨ ∃ b o cp, V = .slice (some ⟨b, o, none⟩) order.length cp ∧ order.length ≤ cp ∧ cp ≤ 9223372036854775807 ∧ b < w.heap.size ∧ ∀ j, j < order.length → w.cell? ⟨b, o + j, none⟩ = some (.int .i64 (order.getD j 0))
theorem Ln.Ord.slice {w : World} {V : Value} {order : List Int} (h : Ln.Ord w V order) : ∃ A cp, V = .slice A order.length cp ∧ order.length ≤ 9223372036854775807 := by
  rcases h with ⟨A, cp, rfl, rfl⟩ | ⟨b, o, cp, rfl, h1, h2, _⟩
  · exact ⟨A, cp, rfl, by simp⟩
  · exact ⟨_, _, rfl, by omega⟩
def Ln.bools (xs : List Bool) : Array Value := (xs.map Value.bool).toArray
theorem Ln.bools_get (xs : List Bool) (i : Nat) (h : i < xs.length) : (Ln.bools xs)[i]? = some (.bool (xs.getD i false)) := by
  simp [Ln.bools, h, List.getD_eq_getElem?_getD]
theorem Ln.bools_set (xs : List Bool) (i : Nat) : (Ln.bools xs).setIfInBounds i (.bool true) = Ln.bools (xs.set i true) := by
  simp [Ln.bools, List.map_set]
theorem Ln.bools_make (n : Nat) : madeCells #[Value.bool false] n = Ln.bools (List.replicate n false) := by
  refine Array.ext_getElem? fun j => ?_
  by_cases hj : j < n
  · simp [madeCells, Ln.bools, hj, Nat.mod_one]
  · rw [Array.getElem?_eq_none (by rw [size_madeCells]; omega), Array.getElem?_eq_none (by simp [Ln.bools]; omega)]
theorem Ln.count_set (xs : List Bool) (i : Nat) (h : i < xs.length) (hf : xs.getD i false = false) : (xs.set i true).count true = xs.count true + 1 := by
  induction xs generalizing i with
  | nil => simp at h
  | cons x xs ih =>
    cases i with
    | zero =>
      have hx : x = false := by simpa using hf
      subst hx
      simp
    | succ i =>
      have := ih i (by simpa using h) (by simpa using hf)
      simp only [List.set_cons_succ, List.count_cons, this]
      omega
/-- Legal's answer behind its loop. -/
def Ln.legalE (ps : List Ln.Past) : Option (List Bool) → Bool
  | none => false
  | some ins => (List.range ps.length).all fun i => decide ((Ln.at' ps i).fin = 0) || ins.getD i false
theorem Ln.legalF_eq {base : Int} {ps : List Ln.Past} {order : List Int} (hb : 1 ≤ base) (ht : Ln.timelyF ps = true) : Ln.legalF base ps order = Ln.legalE ps (Ln.legalLoop ps order (Ln.start base) (List.replicate ps.length false)) := by
  unfold Ln.legalF
  rw [if_neg (by rw [ht]; simp; omega)]
  cases Ln.legalLoop ps order (Ln.start base) (List.replicate ps.length false) <;> rfl
structure Ln.LegSt (w wr : World) (ib mb : Nat) (ps : List Ln.Past) (m : Ln.Mod) (ins : List Bool) : Prop where
  low : Below w.heap.size w wr
  md : ∃ A8 c8, wr.heap[mb]? = some (.cells #[Value.int IntKind.i64 m.base, Value.int IntKind.i64 m.first, Value.int IntKind.i64 m.durable, Value.int IntKind.i64 m.next, Value.int IntKind.i64 m.limit, Value.slice A8 m.recs.length c8, Value.bool m.failed, Value.bool m.closed] 71 (0, 0)) ∧ Ln.Recs 0 wr (.slice A8 m.recs.length c8) m.recs
  mo : Ln.MOk m (ins.count true)
  il : ins.length = ps.length
  ic : wr.heap[ib]? = some (.cells (Ln.bools ins) 4 (0, 0))
def Ln.LegRel (w : World) (ib mb : Nat) (ps : List Ln.Past) (order : List Int) (B : Bool) (gk : Nat) (iv : Value) (wr : World) : Prop :=
  ∃ (j : Nat) (m : Ln.Mod) (ins : List Bool), j ≤ order.length ∧ gk = order.length - j ∧ iv = .int .i64 j ∧ Ln.LegSt w wr ib mb ps m ins ∧ B = Ln.legalE ps (Ln.legalLoop ps (order.drop j) m ins)
def Ln.SeenRel (wr : World) (ps : List Ln.Past) (ins : List Bool) (i : Nat) (gk : Nat) (kv : Value) (wi : World) : Prop :=
  ∃ k : Nat, k ≤ ps.length ∧ gk = ps.length - k ∧ kv = .int .i64 k ∧ Below wr.heap.size wr wi ∧ (List.range k).any (fun k => Ln.aheadF (Ln.at' ps k) (Ln.at' ps i) && !(ins.getD k false)) = false
def Ln.FinRel (wr : World) (ps : List Ln.Past) (ins : List Bool) (gk : Nat) (kv : Value) (wi : World) : Prop :=
  ∃ k : Nat, k ≤ ps.length ∧ gk = ps.length - k ∧ kv = .int .i64 k ∧ Below wr.heap.size wr wi ∧ (List.range k).all (fun i => decide ((Ln.at' ps i).fin = 0) || ins.getD i false) = true
theorem Ln.unb {w w8 : World} (h : Below w.drew.heap.size w.drew w8) : Below w.heap.size w w8 := ⟨h.os, h.tape, h.output, h.size, h.block⟩
theorem Ln.LegSt.below {w wr w1 : World} {ib mb : Nat} {ps : List Ln.Past} {m : Ln.Mod} {ins : List Bool} (h : Ln.LegSt w wr ib mb ps m ins) (hb : Below wr.heap.size wr w1) : Ln.LegSt w w1 ib mb ps m ins := by
  obtain ⟨h1, ⟨A8, c8, h2, h3⟩, h4, h5, h6⟩ := h
  exact ⟨h1.trans (hb.mono h1.size), ⟨A8, c8, Qu.blk_below h2 hb, h3.below hb⟩, h4, h5, Qu.blk_below h6 hb⟩
set_option maxHeartbeats 40000000 in
set_option maxRecDepth 100000 in
theorem legal_any (base : Int) (A : Option Addr) (cp : Nat) (ps : List Ln.Past) (OV : Value) (order : List Int) (w : World) (hb : Ln.I64 base) (hp : Ln.Pasts w A cp ps) (hlen : ps.length ≤ 100) (ho : Ln.Ord w OV order) :
    Calls Try.prog 28 #[.int .i64 base, .slice A ps.length cp, OV] w fun e w' => e = .returned (.bool (Ln.legalF base ps order)) ∧ Below w.heap.size w w' := by
  obtain ⟨Ao, co, rfl, hol⟩ := ho.slice
  have HO := Lib.hid ho
  have HP := Lib.hid hp
  have hnew := fun w5 => new_any base w5
  by_cases hb1 : base < 1
  · have hF : Ln.newF base = none := by unfold Ln.newF; rw [if_pos hb1]
    rw [hF] at hnew
    simp only [Ln.cells, Ln.zeroM] at hnew
    have HNEW := Lib.hid hnew
    have HF : Ln.legalF base ps order = false := by unfold Ln.legalF; rw [if_pos (.inl hb1)]
    rw [HF]
    clear hnew hF hp ho HF
    go_enter Try.func28, Try.ntmps28
    go_wp2_with (go_at_call 30; refine (HNEW.out _).mono ?_; rintro e w2 ⟨hb2, rfl⟩; have HB2 := Lib.hid hb2; clear hb2)
    go_ret
    exact ⟨rfl, HB2.out.alloc HB2.out.size _⟩
  · have hF : Ln.newF base = some (Ln.start base) := by unfold Ln.newF; rw [if_neg (by omega)]; rfl
    rw [hF] at hnew
    simp only [Ln.cells, Ln.start] at hnew
    have HNEW := Lib.hid hnew
    have htm := fun (W : World) (h : Below w.heap.size w W) => timely_any A cp ps W (HP.out.keep h)
    clear hnew hF hp ho
    cases ht : Ln.timelyF ps with
    | false =>
      rw [ht] at htm
      have HT := Lib.hid htm
      have HF : Ln.legalF base ps order = false := by unfold Ln.legalF; rw [if_pos (.inr ht)]
      rw [HF]
      clear htm HF ht
      go_enter Try.func28, Try.ntmps28
      go_wp2_with (first
        | (go_at_call 30; refine (HNEW.out _).mono ?_; rintro e w2 ⟨hb2, rfl⟩; have HB2 := Lib.hid (hb2.alloc hb2.size (Obj.cells #[Value.int IntKind.i64 base, Value.int IntKind.i64 base, Value.int IntKind.i64 base, Value.int IntKind.i64 base, Value.int IntKind.i64 9223372036854775807, Value.slice none 0 0, Value.bool false, Value.bool false] 71)); clear hb2)
        | (go_at_call 51; refine (HT.out _ HB2.out).mono ?_; rintro e w5 ⟨rfl, hb5⟩; have HB5 := Lib.hid (HB2.out.trans (hb5.mono HB2.out.size)); clear hb5))
      go_ret
      exact ⟨rfl, HB5.out⟩
    | true =>
      rw [ht] at htm
      have HT := Lib.hid htm
      rw [Ln.legalF_eq (by omega) ht]
      clear htm ht
      go_enter Try.func28, Try.ntmps28
      go_wp2_with (first
        | (go_at_call 30; refine (HNEW.out _).mono ?_; rintro e w2 ⟨hb2, rfl⟩; have hblk2 := heap_alloc_new w2 (Obj.cells #[Value.int IntKind.i64 base, Value.int IntKind.i64 base, Value.int IntKind.i64 base, Value.int IntKind.i64 base, Value.int IntKind.i64 9223372036854775807, Value.slice none 0 0, Value.bool false, Value.bool false] 71); have HBLK2 := Lib.hid hblk2; have HB2 := Lib.hid (hb2.alloc hb2.size (Obj.cells #[Value.int IntKind.i64 base, Value.int IntKind.i64 base, Value.int IntKind.i64 base, Value.int IntKind.i64 base, Value.int IntKind.i64 9223372036854775807, Value.slice none 0 0, Value.bool false, Value.bool false] 71)); have hz2 := hb2.size; clear hb2 hblk2)
        | (go_at_call 51; refine (HT.out _ HB2.out).mono ?_; rintro e w5 ⟨rfl, hb5⟩; have hblk5 := Qu.blk_below HBLK2.out hb5; have hlt5 := Qu.blk_lt hblk5; have HBLK5 := Lib.hid hblk5; have HB5 := Lib.hid (HB2.out.trans (hb5.mono HB2.out.size)); clear hb5 hblk5)
        | (refine Qu.wpList_make _ rfl (.tmp 30) (.tmp 30) 109 rfl 4 (.bool false) 1 1 Try.underlying109 Try.info4 .i64 .i64 ps.length ps.length ps.length rfl rfl rfl rfl (by omega) (by omega) ?_))
      have hb6 := HB5.out.alloc HB5.out.size (Obj.cells (madeCells #[Value.bool false] ps.length) 4)
      have hi6 := heap_alloc_new w5 (Obj.cells (madeCells #[Value.bool false] ps.length) 4)
      have hm6 := Qu.blk_alloc HBLK5.out (Obj.cells (madeCells #[Value.bool false] ps.length) 4)
      generalize w5.alloc (Obj.cells (madeCells #[Value.bool false] ps.length) 4) = w6 at hb6 hi6 hm6 ⊢
      rw [Ln.bools_make] at hi6
      have HS6 : Hid (Ln.LegSt w w6 w5.heap.size w2.heap.size ps (Ln.start base) (List.replicate ps.length false)) := Lib.hid ⟨hb6, ⟨none, 0, hm6, Ln.recs_nil _⟩, by
        have h : (List.replicate ps.length false).count true = 0 := List.count_eq_zero.2 (fun h => by have := List.eq_of_mem_replicate h; cases this)
        rw [h]
        exact Ln.mok_start (by omega) hb.2, by simp, hi6⟩
      clear hb6 hi6 hm6
      go_loopg [34] order.length (fun gk iv wr => Ln.LegRel w w5.heap.size w2.heap.size ps order (Ln.legalE ps (Ln.legalLoop ps order (Ln.start base) (List.replicate ps.length false))) gk iv wr)
      case atStart => exact ⟨0, _, _, by omega, by omega, rfl, HS6.out, rfl⟩
      case round =>
        obtain ⟨j, m, ins, hj, rfl, rfl, hst, hB⟩ := hrel
        have HST := Lib.hid hst
        obtain ⟨hlow, ⟨A8, c8, hmd, hrc⟩, hmo, hil, hic⟩ := hst
        by_cases hlt : j < order.length
        · rcases HO.out with ⟨_, _, _, h⟩ | ⟨b, o, co2, hV, hc1, hc2, hblt, hcell⟩
          · rw [h] at hlt; simp at hlt
          injection hV with hA _ hC
          subst hA
          subst hC
          have hij := (hlow.cell (p := ⟨b, o + j, none⟩) hblt).trans (hcell j hlt)
          have hdrop : order.drop j = order.getD j 0 :: order.drop (j + 1) := by
            rw [List.drop_eq_getElem_cons hlt, List.getD_eq_getElem?_getD, List.getElem?_eq_getElem hlt]
            rfl
          rw [hdrop] at hB
          generalize order.getD j 0 = i at hij hB
          simp only [Ln.legalLoop] at hB
          have hblt2 : b < wr.heap.size := Nat.lt_of_lt_of_le hblt hlow.size
          have hmlt := Qu.blk_lt hmd
          have hilt := Qu.blk_lt hic
          have HLOW := Lib.hid hlow
          have HMD := Lib.hid hmd
          have HRC := Lib.hid hrc
          have HMO := Lib.hid hmo
          have HIC := Lib.hid hic
          have HB1 := Lib.hid hb
          clear hcell hdrop hblt hlow hmd hrc hmo hb
          by_cases h1 : i < 0
          · rw [if_pos (.inl h1)] at hB
            have HB := Lib.hid hB
            have h1b : decide (i < 0) = true := decide_eq_true h1
            clear hB hic
            go_wp2_with fail
            go_ret
            exact ⟨by rw [HB.out]; rfl, HLOW.out⟩
          obtain ⟨i', rfl⟩ := Int.eq_ofNat_of_zero_le (by omega : 0 ≤ i)
          by_cases h2 : ps.length ≤ i'
          · rw [if_pos (.inr (by omega))] at hB
            have HB := Lib.hid hB
            clear hB hic
            go_wp2_with fail
            go_ret
            exact ⟨by rw [HB.out]; rfl, HLOW.out⟩
          have hi : i' < ps.length := by omega
          rw [if_neg (by omega), Int.toNat_natCast] at hB
          have hins := (Qu.blk_cell hic i').trans (Ln.bools_get ins i' (by omega))
          clear hic
          cases hbi : ins.getD i' false with
          | true =>
            rw [if_pos hbi] at hB
            rw [hbi] at hins
            have HB := Lib.hid hB
            clear hB
            go_wp2_with fail
            go_ret
            exact ⟨by rw [HB.out]; rfl, HLOW.out⟩
          | false =>
            rw [if_neg (by rw [hbi]; decide)] at hB
            rw [hbi] at hins
            have HBI := Lib.hid hbi
            have HB := Lib.hid hB
            clear hB hbi
            go_wp2_with fail
            obtain ⟨wo, hwo⟩ : ∃ wo : World, wo = wr := ⟨_, rfl⟩
            subst hwo
            go_loopg [54] ps.length (fun gk kv wi => Ln.SeenRel wo ps ins i' gk kv wi)
            case atStart => exact ⟨0, by omega, by omega, rfl, Below.refl _ _, rfl⟩
            case round =>
              obtain ⟨k, hk, rfl, rfl, hbw, hany⟩ := hrel
              by_cases hltk : k < ps.length
              · obtain ⟨pb, po, cd, rd, rfl, hpk⟩ := (HP.out.keep (HLOW.out.trans (hbw.mono HLOW.out.size))).2.2 k hltk
                obtain ⟨pb2, po2, cd2, rd2, hA2, hpi⟩ := (HP.out.keep (HLOW.out.trans (hbw.mono HLOW.out.size))).2.2 i' hi
                injection hA2 with hA2
                injection hA2 with hA3 hA4 _
                subst hA3
                subst hA4
                obtain ⟨x0, x1, x2, x3, x4, x5, x6, x7, xc, xr⟩ := hpk
                obtain ⟨z0, z1, z2, z3, z4, z5, z6, z7, zc, zr⟩ := hpi
                have hpblt : pb < wr.heap.size := World.block_lt_of_cell? wr _ x0
                obtain ⟨Ac, cc, rfl⟩ := xc.slice
                obtain ⟨Ar, cr, rfl⟩ := xr.slice
                obtain ⟨Ac2, cc2, rfl⟩ := zc.slice
                obtain ⟨Ar2, cr2, rfl⟩ := zr.slice
                have hah := fun W => ahead_any (Ln.at' ps k) (Ln.at' ps i') (.slice Ac (Ln.u8s (Ln.at' ps k).call.data).length cc) (.slice Ar (Ln.u8s (Ln.at' ps k).res.data).length cr) (.slice Ac2 (Ln.u8s (Ln.at' ps i').call.data).length cc2) (.slice Ar2 (Ln.u8s (Ln.at' ps i').res.data).length cr2) W
                have hick : wr.heap[w5.heap.size]? = _ := Qu.blk_below HIC.out hbw
                have hkin := (Qu.blk_cell hick k).trans (Ln.bools_get ins k (by omega))
                have hilt2 := Qu.blk_lt hick
                have HBW := Lib.hid hbw
                have HANY := Lib.hid hany
                have HICK := Lib.hid hick
                clear xc xr zc zr hbw hany hick
                have hor2 : (List.range (k + 1)).any (fun k => Ln.aheadF (Ln.at' ps k) (Ln.at' ps i') && !(ins.getD k false)) = (Ln.aheadF (Ln.at' ps k) (Ln.at' ps i') && !(ins.getD k false)) := by
                  rw [List.range_succ, List.any_append, HANY.out]
                  simp
                cases hav : Ln.aheadF (Ln.at' ps k) (Ln.at' ps i') with
                | false =>
                  simp only [hav] at hah
                  have HAH := Lib.hid hah
                  have HOR := Lib.hid (hor2.trans (by rw [hav]; rfl : _ = false))
                  have HKIN := Lib.hid (Ln.bools_get ins k (by omega))
                  clear hor2 hav hkin hah
                  go_wp2_with fail
                  (first | go_region_with (go_at_call 52; refine (HAH.out _).mono ?_; rintro e w8 ⟨rfl, hb8⟩; have hb38 := (Ln.below_alloc _ wr (Nat.le_refl _) (Obj.cells #[Value.int IntKind.i64 (Ln.at' ps k).call.kind, Value.int IntKind.i64 (Ln.at' ps k).call.lsn, Value.slice Ac (Ln.u8s (Ln.at' ps k).call.data).length cc, Value.int IntKind.i64 (Ln.at' ps k).res.err, Value.int IntKind.i64 (Ln.at' ps k).res.lsn, Value.slice Ar (Ln.u8s (Ln.at' ps k).res.data).length cr, Value.int IntKind.i64 (Ln.at' ps k).beg, Value.int IntKind.i64 (Ln.at' ps k).fin] 66)).trans ((Ln.unb hb8).mono (by simp)); have hkin8 := (Qu.blk_cell (Qu.blk_below HICK.out hb38) k).trans HKIN.out; have hilt8 := Qu.blk_lt (Qu.blk_below HICK.out hb38); have HB38 := Lib.hid hb38; clear hb8 hb38) | fail "no way")
                  all_goals
                    go_wp2_with fail
                    go_roundg (ps.length - (k + 1))
                    case measure => omega
                    case rel => exact ⟨k + 1, by omega, rfl, by go_num, (HBW.out.trans (HB38.out.mono HBW.out.size)), HOR.out⟩
                | true =>
                  simp only [hav] at hah
                  have HAH := Lib.hid hah
                  clear hah
                  cases hbk : ins.getD k false with
                  | true =>
                    have HOR := Lib.hid (hor2.trans (by rw [hav, hbk]; rfl : _ = false))
                    have HKIN := Lib.hid ((Ln.bools_get ins k (by omega)).trans (by rw [hbk] : _ = some (Value.bool true)))
                    clear hor2 hav hkin hbk
                    go_wp2_with fail
                    (first | go_region_with (go_at_call 52; refine (HAH.out _).mono ?_; rintro e w8 ⟨rfl, hb8⟩; have hb38 := (Ln.below_alloc _ wr (Nat.le_refl _) (Obj.cells #[Value.int IntKind.i64 (Ln.at' ps k).call.kind, Value.int IntKind.i64 (Ln.at' ps k).call.lsn, Value.slice Ac (Ln.u8s (Ln.at' ps k).call.data).length cc, Value.int IntKind.i64 (Ln.at' ps k).res.err, Value.int IntKind.i64 (Ln.at' ps k).res.lsn, Value.slice Ar (Ln.u8s (Ln.at' ps k).res.data).length cr, Value.int IntKind.i64 (Ln.at' ps k).beg, Value.int IntKind.i64 (Ln.at' ps k).fin] 66)).trans ((Ln.unb hb8).mono (by simp)); have hkin8 := (Qu.blk_cell (Qu.blk_below HICK.out hb38) k).trans HKIN.out; have hilt8 := Qu.blk_lt (Qu.blk_below HICK.out hb38); have HB38 := Lib.hid hb38; clear hb8 hb38) | fail "no way")
                    all_goals
                      go_wp2_with fail
                      go_roundg (ps.length - (k + 1))
                      case measure => omega
                      case rel => exact ⟨k + 1, by omega, rfl, by go_num, (HBW.out.trans (HB38.out.mono HBW.out.size)), HOR.out⟩
                  | false =>
                    have hany2 := hor2.trans (by rw [hav, hbk]; rfl : _ = true)
                    have hall : (List.range ps.length).any (fun k => Ln.aheadF (Ln.at' ps k) (Ln.at' ps i') && !(ins.getD k false)) = true := by
                      rw [List.any_eq_true]
                      exact ⟨k, List.mem_range.2 hltk, by rw [hav, hbk]; rfl⟩
                    have hB2 := HB.out
                    rw [if_pos hall] at hB2
                    have HB2 := Lib.hid hB2
                    have HKIN := Lib.hid ((Ln.bools_get ins k (by omega)).trans (by rw [hbk] : _ = some (Value.bool false)))
                    clear hor2 hav hkin hbk hany2 hall hB2
                    go_wp2_with fail
                    (first | go_region_with (go_at_call 52; refine (HAH.out _).mono ?_; rintro e w8 ⟨rfl, hb8⟩; have hb38 := (Ln.below_alloc _ wr (Nat.le_refl _) (Obj.cells #[Value.int IntKind.i64 (Ln.at' ps k).call.kind, Value.int IntKind.i64 (Ln.at' ps k).call.lsn, Value.slice Ac (Ln.u8s (Ln.at' ps k).call.data).length cc, Value.int IntKind.i64 (Ln.at' ps k).res.err, Value.int IntKind.i64 (Ln.at' ps k).res.lsn, Value.slice Ar (Ln.u8s (Ln.at' ps k).res.data).length cr, Value.int IntKind.i64 (Ln.at' ps k).beg, Value.int IntKind.i64 (Ln.at' ps k).fin] 66)).trans ((Ln.unb hb8).mono (by simp)); have hkin8 := (Qu.blk_cell (Qu.blk_below HICK.out hb38) k).trans HKIN.out; have hilt8 := Qu.blk_lt (Qu.blk_below HICK.out hb38); have HB38 := Lib.hid hb38; clear hb8 hb38) | fail "no way")
                    all_goals
                      go_wp2_with fail
                      go_ret
                      exact ⟨by rw [HB2.out]; rfl, HLOW.out.trans ((HBW.out.trans (HB38.out.mono HBW.out.size)).mono HLOW.out.size)⟩
              · have hke : k = ps.length := by omega
                rw [hke] at hany
                have hB2 := HB.out
                rw [if_neg (by rw [hany]; decide)] at hB2
                have hicr : wr.heap[w5.heap.size]? = _ := Qu.blk_below HIC.out hbw
                have hmdr : wr.heap[w2.heap.size]? = _ := Qu.blk_below HMD.out hbw
                have hrcr := HRC.out.below hbw
                have hlowr := HLOW.out.trans (hbw.mono HLOW.out.size)
                have hc1 := (Qu.blk_cell hicr i').trans (Ln.bools_get ins i' (by omega))
                have hf1 := Qu.blk_frozen hicr i'
                have hl1 := Qu.blk_lt hicr
                have HICR := Lib.hid hicr
                have HMDR := Lib.hid hmdr
                have HRCR := Lib.hid hrcr
                have HLOWR := Lib.hid hlowr
                have HSZ := Lib.hid (⟨hz2, hlt5⟩ : w.heap.size ≤ w2.heap.size ∧ w2.heap.size < w5.heap.size)
                clear hbw hany hicr hmdr hrcr hlowr hke
                go_wp2_with fail
                have hlowb : Below w.heap.size w (wr.setCell ⟨w5.heap.size, i', none⟩ (.bool true)) := Ln.below_set HLOWR.out (by have := HSZ.out; omega) i' _
                have hicb : (wr.setCell ⟨w5.heap.size, i', none⟩ (.bool true)).heap[w5.heap.size]? = some (.cells (Ln.bools (ins.set i' true)) 4 (0, 0)) := by rw [Qu.blk_set HICR.out, Ln.bools_set]
                have hmdb : (wr.setCell ⟨w5.heap.size, i', none⟩ (.bool true)).heap[w2.heap.size]? = some (.cells #[Value.int IntKind.i64 m.base, Value.int IntKind.i64 m.first, Value.int IntKind.i64 m.durable, Value.int IntKind.i64 m.next, Value.int IntKind.i64 m.limit, Value.slice A8 m.recs.length c8, Value.bool m.failed, Value.bool m.closed] 71 (0, 0)) := (Below.heap_setCell _ _ _ _ (show w2.heap.size ≠ w5.heap.size by have := HSZ.out; omega)).trans HMDR.out
                have hrcb : Ln.Recs 0 (wr.setCell ⟨w5.heap.size, i', none⟩ (.bool true)) (.slice A8 m.recs.length c8) m.recs := HRCR.out.one HICR.out (by decide) (fun q hq => Below.heap_setCell _ _ _ _ (show q ≠ _ from hq))
                generalize wr.setCell ⟨w5.heap.size, i', none⟩ (.bool true) = wb at hlowb hicb hmdb hrcb ⊢
                obtain ⟨pb2, po2, cd2, rd2, rfl, hpi⟩ := (HP.out.keep hlowb).2.2 i' hi
                have hstp := fun (W : World) (h : Below wb.heap.size wb W) => (step_any (.agg #[Value.int IntKind.i64 m.base, Value.int IntKind.i64 m.first, Value.int IntKind.i64 m.durable, Value.int IntKind.i64 m.next, Value.int IntKind.i64 m.limit, Value.slice A8 m.recs.length c8, Value.bool m.failed, Value.bool m.closed]) m (Ln.at' ps i') cd2 rd2 W ⟨_, rfl, hrcb.below h⟩ (HMO.out.wf (Nat.le_trans (List.count_le_length) (by rw [hil]; omega))) HMO.out.dt (hpi.hc.keep h) (hpi.hr.keep h)).mono (fun e w' h => h.two)
                obtain ⟨z0, z1, z2, z3, z4, z5, z6, z7, zc, zr⟩ := hpi
                have hpblt : pb2 < wb.heap.size := World.block_lt_of_cell? wb _ z0
                obtain ⟨Ac2, cc2, rfl⟩ := zc.slice
                obtain ⟨Ar2, cr2, rfl⟩ := zr.slice
                have hmblt := Qu.blk_lt hmdb
                have m0 : wb.cell? ⟨w2.heap.size, 0, none⟩ = some (Value.int IntKind.i64 m.base) := Qu.blk_cell hmdb 0
                have m1 : wb.cell? ⟨w2.heap.size, 1, none⟩ = some (Value.int IntKind.i64 m.first) := Qu.blk_cell hmdb 1
                have m2 : wb.cell? ⟨w2.heap.size, 2, none⟩ = some (Value.int IntKind.i64 m.durable) := Qu.blk_cell hmdb 2
                have m3 : wb.cell? ⟨w2.heap.size, 3, none⟩ = some (Value.int IntKind.i64 m.next) := Qu.blk_cell hmdb 3
                have m4 : wb.cell? ⟨w2.heap.size, 4, none⟩ = some (Value.int IntKind.i64 m.limit) := Qu.blk_cell hmdb 4
                have m5 : wb.cell? ⟨w2.heap.size, 5, none⟩ = some (Value.slice A8 m.recs.length c8) := Qu.blk_cell hmdb 5
                have m6 : wb.cell? ⟨w2.heap.size, 6, none⟩ = some (Value.bool m.failed) := Qu.blk_cell hmdb 6
                have m7 : wb.cell? ⟨w2.heap.size, 7, none⟩ = some (Value.bool m.closed) := Qu.blk_cell hmdb 7
                have HLOWB := Lib.hid hlowb
                have HICB := Lib.hid hicb
                have HMDB := Lib.hid hmdb
                have hcount := Ln.count_set ins i' (by omega) HBI.out
                have HCNT := Lib.hid hcount
                clear hcount hlowb hicb hmdb hrcb zc zr hc1 hf1 hl1
                cases hst : Ln.stepF m (Ln.at' ps i') with
                | none =>
                  rw [hst] at hB2 hstp
                  have HB2 := Lib.hid hB2
                  simp only [Option.getD_none, Option.isSome_none] at hstp
                  generalize Ln.zeroM = n at hstp
                  have HSTEP := Lib.hid hstp
                  clear hB2 hstp hst
                  (first | go_region_with (go_at_call 53; refine (HSTEP.out _ (Below.refl _ _).drew).mono ?_; rintro e w8 ⟨hb8, A9, l9, c9, rfl, hr9⟩; have hb8 := Ln.unb hb8; have hm8 := Qu.blk_below HMDB.out hb8; have y0 : w8.cell? ⟨w2.heap.size, 0, none⟩ = some (Value.int IntKind.i64 m.base) := Qu.blk_cell hm8 0; have yf0 := Qu.blk_frozen hm8 0; have y1 : w8.cell? ⟨w2.heap.size, 1, none⟩ = some (Value.int IntKind.i64 m.first) := Qu.blk_cell hm8 1; have yf1 := Qu.blk_frozen hm8 1; have y2 : w8.cell? ⟨w2.heap.size, 2, none⟩ = some (Value.int IntKind.i64 m.durable) := Qu.blk_cell hm8 2; have yf2 := Qu.blk_frozen hm8 2; have y3 : w8.cell? ⟨w2.heap.size, 3, none⟩ = some (Value.int IntKind.i64 m.next) := Qu.blk_cell hm8 3; have yf3 := Qu.blk_frozen hm8 3; have y4 : w8.cell? ⟨w2.heap.size, 4, none⟩ = some (Value.int IntKind.i64 m.limit) := Qu.blk_cell hm8 4; have yf4 := Qu.blk_frozen hm8 4; have y5 : w8.cell? ⟨w2.heap.size, 5, none⟩ = some (Value.slice A8 m.recs.length c8) := Qu.blk_cell hm8 5; have yf5 := Qu.blk_frozen hm8 5; have y6 : w8.cell? ⟨w2.heap.size, 6, none⟩ = some (Value.bool m.failed) := Qu.blk_cell hm8 6; have yf6 := Qu.blk_frozen hm8 6; have y7 : w8.cell? ⟨w2.heap.size, 7, none⟩ = some (Value.bool m.closed) := Qu.blk_cell hm8 7; have yf7 := Qu.blk_frozen hm8 7; have ylt := Qu.blk_lt hm8; have HM8 := Lib.hid hm8; have HB8 := Lib.hid hb8; have HR9 := Lib.hid hr9; clear hb8 hm8 hr9) | fail "no way")
                  all_goals
                    go_wp2_with fail
                    have hrow := Ln.row8 (w := w8) (b := w2.heap.size) (Value.int IntKind.i64 n.base) (Value.int IntKind.i64 n.first) (Value.int IntKind.i64 n.durable) (Value.int IntKind.i64 n.next) (Value.int IntKind.i64 n.limit) (Value.slice A9 l9 c9) (Value.bool n.failed) (Value.bool n.closed) HM8.out
                    generalize ((((((((w8.setCell ⟨w2.heap.size, 0, none⟩ (Value.int IntKind.i64 n.base)).setCell ⟨w2.heap.size, 1, none⟩ (Value.int IntKind.i64 n.first)).setCell ⟨w2.heap.size, 2, none⟩ (Value.int IntKind.i64 n.durable)).setCell ⟨w2.heap.size, 3, none⟩ (Value.int IntKind.i64 n.next)).setCell ⟨w2.heap.size, 4, none⟩ (Value.int IntKind.i64 n.limit)).setCell ⟨w2.heap.size, 5, none⟩ (Value.slice A9 l9 c9)).setCell ⟨w2.heap.size, 6, none⟩ (Value.bool n.failed)).setCell ⟨w2.heap.size, 7, none⟩ (Value.bool n.closed)) = wz at hrow ⊢
                    obtain ⟨hr1, hr2, hr3⟩ := hrow
                    have hlowz := hr3 w.heap.size w (HLOWB.out.trans (HB8.out.mono HLOWB.out.size)) HSZ.out.1
                    go_ret
                    exact ⟨by rw [HB2.out]; rfl, hlowz⟩
                | some n =>
                  rw [hst] at hB2 hstp
                  have HMO2 := Lib.hid (HMO.out.step hst)
                  have HB2 := Lib.hid hB2
                  simp only [Option.getD_some, Option.isSome_some] at hstp
                  have HSTEP := Lib.hid hstp
                  clear hB2 hstp hst
                  (first | go_region_with (go_at_call 53; refine (HSTEP.out _ (Below.refl _ _).drew).mono ?_; rintro e w8 ⟨hb8, A9, l9, c9, rfl, hr9⟩; have hb8 := Ln.unb hb8; have hm8 := Qu.blk_below HMDB.out hb8; have y0 : w8.cell? ⟨w2.heap.size, 0, none⟩ = some (Value.int IntKind.i64 m.base) := Qu.blk_cell hm8 0; have yf0 := Qu.blk_frozen hm8 0; have y1 : w8.cell? ⟨w2.heap.size, 1, none⟩ = some (Value.int IntKind.i64 m.first) := Qu.blk_cell hm8 1; have yf1 := Qu.blk_frozen hm8 1; have y2 : w8.cell? ⟨w2.heap.size, 2, none⟩ = some (Value.int IntKind.i64 m.durable) := Qu.blk_cell hm8 2; have yf2 := Qu.blk_frozen hm8 2; have y3 : w8.cell? ⟨w2.heap.size, 3, none⟩ = some (Value.int IntKind.i64 m.next) := Qu.blk_cell hm8 3; have yf3 := Qu.blk_frozen hm8 3; have y4 : w8.cell? ⟨w2.heap.size, 4, none⟩ = some (Value.int IntKind.i64 m.limit) := Qu.blk_cell hm8 4; have yf4 := Qu.blk_frozen hm8 4; have y5 : w8.cell? ⟨w2.heap.size, 5, none⟩ = some (Value.slice A8 m.recs.length c8) := Qu.blk_cell hm8 5; have yf5 := Qu.blk_frozen hm8 5; have y6 : w8.cell? ⟨w2.heap.size, 6, none⟩ = some (Value.bool m.failed) := Qu.blk_cell hm8 6; have yf6 := Qu.blk_frozen hm8 6; have y7 : w8.cell? ⟨w2.heap.size, 7, none⟩ = some (Value.bool m.closed) := Qu.blk_cell hm8 7; have yf7 := Qu.blk_frozen hm8 7; have ylt := Qu.blk_lt hm8; have HM8 := Lib.hid hm8; have HB8 := Lib.hid hb8; have HR9 := Lib.hid hr9; clear hb8 hm8 hr9) | fail "no way")
                  all_goals
                    go_wp2_with fail
                    have hrow := Ln.row8 (w := w8) (b := w2.heap.size) (Value.int IntKind.i64 n.base) (Value.int IntKind.i64 n.first) (Value.int IntKind.i64 n.durable) (Value.int IntKind.i64 n.next) (Value.int IntKind.i64 n.limit) (Value.slice A9 l9 c9) (Value.bool n.failed) (Value.bool n.closed) HM8.out
                    generalize ((((((((w8.setCell ⟨w2.heap.size, 0, none⟩ (Value.int IntKind.i64 n.base)).setCell ⟨w2.heap.size, 1, none⟩ (Value.int IntKind.i64 n.first)).setCell ⟨w2.heap.size, 2, none⟩ (Value.int IntKind.i64 n.durable)).setCell ⟨w2.heap.size, 3, none⟩ (Value.int IntKind.i64 n.next)).setCell ⟨w2.heap.size, 4, none⟩ (Value.int IntKind.i64 n.limit)).setCell ⟨w2.heap.size, 5, none⟩ (Value.slice A9 l9 c9)).setCell ⟨w2.heap.size, 6, none⟩ (Value.bool n.failed)).setCell ⟨w2.heap.size, 7, none⟩ (Value.bool n.closed)) = wz at hrow ⊢
                    obtain ⟨hr1, hr2, hr3⟩ := hrow
                    have hlowz := hr3 w.heap.size w (HLOWB.out.trans (HB8.out.mono HLOWB.out.size)) HSZ.out.1
                    have hr9 := HR9.out trivial
                    obtain ⟨Aq, cq, hq⟩ := hr9.slice
                    injection hq with _ hq _
                    subst hq
                    have hrz := hr9.one HM8.out (by decide) hr2
                    have hiz := (hr2 w5.heap.size (by have := HSZ.out; omega)).trans (Qu.blk_below HICB.out HB8.out)
                    have HLZ := Lib.hid hlowz
                    have HRZ := Lib.hid hrz
                    have HIZ := Lib.hid hiz
                    have HR1 := Lib.hid hr1
                    clear hr1 hr2 hr3 hlowz hrz hiz hr9
                    go_roundg (order.length - (j + 1))
                    case measure => omega
                    case rel => exact ⟨j + 1, n, ins.set i' true, by omega, rfl, by go_num, ⟨HLZ.out, ⟨_, _, HR1.out, HRZ.out⟩, by rw [HCNT.out]; exact HMO2.out, by rw [List.length_set]; exact hil, HIZ.out⟩, HB2.out⟩
        · have hje : j = order.length := by omega
          subst hje
          rw [List.drop_length] at hB
          have hB2 : Ln.legalE ps (Ln.legalLoop ps order (Ln.start base) (List.replicate ps.length false)) = Ln.legalE ps (some ins) := hB
          have HB := Lib.hid hB2
          have HLOW := Lib.hid hlow
          have HIC := Lib.hid hic
          clear hB hB2 hlow hmd hrc hmo hic hb
          obtain ⟨wo, hwo⟩ : ∃ wo : World, wo = wr := ⟨_, rfl⟩
          subst hwo
          go_wp2_with fail
          go_loopg [90] ps.length (fun gk kv wi => Ln.FinRel wo ps ins gk kv wi)
          case atStart => exact ⟨0, by omega, by omega, rfl, Below.refl _ _, rfl⟩
          case round =>
            obtain ⟨k, hk, rfl, rfl, hbw, hall⟩ := hrel
            by_cases hltk : k < ps.length
            · obtain ⟨pb, po, cd, rd, rfl, hpk⟩ := (HP.out.keep (HLOW.out.trans (hbw.mono HLOW.out.size))).2.2 k hltk
              obtain ⟨x0, x1, x2, x3, x4, x5, x6, x7, xc, xr⟩ := hpk
              have hpblt : pb < wr.heap.size := World.block_lt_of_cell? wr _ x0
              obtain ⟨Ac, cc, rfl⟩ := xc.slice
              obtain ⟨Ar, cr, rfl⟩ := xr.slice
              have hick : wr.heap[w5.heap.size]? = _ := Qu.blk_below HIC.out hbw
              have hkin := (Qu.blk_cell hick k).trans (Ln.bools_get ins k (by omega))
              have hilt2 := Qu.blk_lt hick
              have hall2 : (List.range (k + 1)).all (fun i => decide ((Ln.at' ps i).fin = 0) || ins.getD i false) = (decide ((Ln.at' ps k).fin = 0) || ins.getD k false) := by
                rw [List.range_succ, List.all_append, hall]
                simp
              have HBW := Lib.hid hbw
              clear xc xr hbw hick hall
              by_cases hf : (Ln.at' ps k).fin = 0
              · have hfb : ((Ln.at' ps k).fin != 0) = false := by rw [hf]; rfl
                rw [hf] at x7
                have HF := Lib.hid hf
                clear hf hfb
                go_wp2_with fail
                go_roundg (ps.length - (k + 1))
                case measure => omega
                case rel => exact ⟨k + 1, by omega, rfl, by go_num, HBW.out.alloc HBW.out.size _, by rw [hall2]; rw [HF.out]; rfl⟩
              · have hfb : ((Ln.at' ps k).fin != 0) = true := bne_iff_ne.2 hf
                cases hbk : ins.getD k false with
                | true =>
                  rw [hbk] at hkin
                  have HBK := Lib.hid hbk
                  have hfd : decide ((Ln.at' ps k).fin = 0) = false := decide_eq_false hf
                  have HFD := Lib.hid hfd
                  clear hbk hfd
                  go_wp2_with fail
                  go_roundg (ps.length - (k + 1))
                  case measure => omega
                  case rel => exact ⟨k + 1, by omega, rfl, by go_num, HBW.out.alloc HBW.out.size _, by rw [hall2]; rw [HFD.out, HBK.out]; rfl⟩
                | false =>
                  rw [hbk] at hkin
                  have hno : Ln.legalE ps (some ins) = false := by
                    show (List.range ps.length).all _ = false
                    rw [List.all_eq_false]
                    exact ⟨k, List.mem_range.2 hltk, by rw [hbk]; simpa using hf⟩
                  have HNO := Lib.hid hno
                  clear hbk hno hall2
                  go_wp2_with fail
                  go_ret
                  exact ⟨by rw [HB.out, HNO.out]; rfl, HLOW.out.trans ((HBW.out.alloc HBW.out.size _).mono HLOW.out.size)⟩
            · have hke : k = ps.length := by omega
              rw [hke] at hall
              have hyes : Ln.legalE ps (some ins) = true := hall
              have HYES := Lib.hid hyes
              have HBW := Lib.hid hbw
              clear hall hyes hbw hke
              go_wp2_with fail
              go_ret
              exact ⟨by rw [HB.out, HYES.out]; rfl, HLOW.out.trans (HBW.out.mono HLOW.out.size)⟩

end Go.Proofs.Ytgdeoodihhcdjaa
