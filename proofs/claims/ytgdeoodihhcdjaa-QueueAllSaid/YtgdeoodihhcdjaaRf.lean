/- The reference's Leave. -/
import Derived.Test.YtgdeoodihhcdjaaRe
import Derived.Deep.AppendSrc
namespace Go.Proofs.Ytgdeoodihhcdjaa
open Go.RowKit
set_option linter.unusedVariables false
set_option linter.unusedSimpArgs false

theorem Qu.getD_take (ys : List (Int × Int)) (i j : Nat) (h : j < i) : (ys.take i).getD j (0, 0) = ys.getD j (0, 0) := by
  simp [List.getD_eq_getElem?_getD, List.getElem?_take_of_lt h]
theorem Qu.getD_drop (ys : List (Int × Int)) (k j : Nat) : (ys.drop k).getD j (0, 0) = ys.getD (k + j) (0, 0) := by
  simp [List.getD_eq_getElem?_getD, List.getElem?_drop]
theorem Qu.Line.holds {w : World} {lb off cap : Nat} {ys : List (Int × Int)} {LB : Option Nat} (h : Qu.Line w (.slice (some ⟨lb, off, none⟩) ys.length cap) ys LB) :
    ∀ j u, (Qu.enc ys)[j]? = some u → w.cell? ((⟨lb, off, none⟩ : Addr).add j) = some u := by
  rcases h with ⟨h, _, _⟩ | ⟨lb', off', cap', arr, hl, h, hcap, hcm, hlb, hoff, hrd⟩
  · cases h
  simp at h
  obtain ⟨⟨rfl, rfl⟩, rfl⟩ := h
  intro j u hj
  rw [Addr.add_lit, Qu.blk_cell hlb]
  have hjl : j < ys.length * 2 := by rw [← Qu.enc_length]; exact (List.getElem?_eq_some_iff.1 hj).1
  obtain ⟨r0, r1⟩ := hrd (j / 2) (by omega)
  obtain ⟨e0, e1⟩ := Qu.enc_get ys (j / 2) (by omega)
  by_cases hp : j % 2 = 0
  · have ej : j / 2 * 2 = j := by omega
    rw [ej] at r0 e0
    rw [r0, ← e0, hj]
  · have ej : j / 2 * 2 + 1 = j := by omega
    rw [ej] at e1
    rw [show off + j = off + j / 2 * 2 + 1 from by omega, r1, ← e1, hj]
theorem Qu.Line.upto {w : World} {lb off cap : Nat} {ys : List (Int × Int)} {LB : Option Nat} (h : Qu.Line w (.slice (some ⟨lb, off, none⟩) ys.length cap) ys LB) (i : Nat) (hi : i ≤ ys.length) :
    Qu.Line w (.slice (some ⟨lb, off, none⟩) i i) (ys.take i) LB := by
  rcases h with ⟨h, _, _⟩ | ⟨lb', off', cap', arr, hl, h, hcap, hcm, hlb, hoff, hrd⟩
  · cases h
  simp at h
  obtain ⟨⟨rfl, rfl⟩, rfl⟩ := h
  have hlen : (ys.take i).length = i := by simp; omega
  refine .inr ⟨lb, off, i, arr, hl, by rw [hlen], by omega, by omega, hlb, by omega, fun j hj => ?_⟩
  rw [hlen] at hj
  rw [Qu.getD_take ys i j hj]
  exact hrd j (by omega)
theorem Qu.Line.from {w : World} {lb off cap : Nat} {ys : List (Int × Int)} {LB : Option Nat} (h : Qu.Line w (.slice (some ⟨lb, off, none⟩) ys.length cap) ys LB) (k : Nat) (hk : k ≤ ys.length) :
    Qu.Line w (.slice (some ⟨lb, off + k * 2, none⟩) (ys.length - k) (cap - k)) (ys.drop k) LB ∧ (cap = k → Qu.Line w (.slice (some ⟨lb, off, none⟩) 0 0) (ys.drop k) LB) := by
  rcases h with ⟨h, _, _⟩ | ⟨lb', off', cap', arr, hl, h, hcap, hcm, hlb, hoff, hrd⟩
  · cases h
  simp at h
  obtain ⟨⟨rfl, rfl⟩, rfl⟩ := h
  constructor
  · refine .inr ⟨lb, off + k * 2, cap - k, arr, hl, by simp, by simp; omega, by omega, hlb, by omega, fun j hj => ?_⟩
    simp at hj
    rw [Qu.getD_drop]
    rw [show off + k * 2 + j * 2 = off + (k + j) * 2 from by omega]
    exact hrd (k + j) (by omega)
  · rintro rfl
    have : ys.drop cap = [] := List.drop_eq_nil_of_le (by omega)
    rw [this]
    exact .inr ⟨lb, off, 0, arr, hl, rfl, Nat.le_refl _, by omega, hlb, by omega, fun j hj => by simp at hj⟩

theorem Qu.run_append_two {P : Program} (w : World) (t ty : TypeId) (ht : P.underlying t = some (.slice 38))
    (hinfo : (P.info? 38).map (fun i => (i.zero, i.size, i.bytes)) = some (some (.agg #[.int .i64 0, .int .i64 0]), 2, 16))
    (lb off n : Nat) (zs1 zs2 : List (Int × Int)) (LB LB2 : Option Nat) (V2 : Value) (hn1 : zs1.length = n) (h1 : Qu.Line w (.slice (some ⟨lb, off, none⟩) n n) zs1 LB) (h2 : Qu.Line w V2 zs2 LB2) (hn : zs1.length + zs2.length ≤ 100000) :
    ∃ V' w' LB', (Builtin.append_ #[t, t] ty #[.slice (some ⟨lb, off, none⟩) n n, V2]).run P w = .ok V' w' ∧ Qu.Line w' V' (zs1 ++ zs2) LB' ∧ Below w.heap.size w w' ∧ (LB' = LB ∨ ∃ i, LB' = some i ∧ w.heap.size ≤ i) := by
  subst hn1
  obtain ⟨i0, hi, hz0, hz1, hz2⟩ := info_parts hinfo
  rcases h2 with ⟨rfl, rfl, rfl⟩ | ⟨lb2, off2, cap2, arr, rfl, rfl, hcap, hcm, hlb, hoff, hrd⟩
  · have hrun := run_append_room_src (P := P) w t t ty 38 i0 ht hi lb off zs1.length zs1.length (.slice none 0 0) 0 [] (Src.ofNil w ht 0) (by omega) (by simp) (by simp)
    exact ⟨_, w, LB, hrun, by simpa using h1, Below.refl _ _, .inl rfl⟩
  · have hl2 : Qu.Line w (.slice (some ⟨lb2, off2, none⟩) zs2.length cap2) zs2 (some lb2) := .inr ⟨lb2, off2, cap2, arr, rfl, rfl, hcap, hcm, hlb, hoff, hrd⟩
    rcases Nat.eq_zero_or_pos zs2.length with h0 | h0
    · have hz : zs2 = [] := List.eq_nil_of_length_eq_zero h0
      subst hz
      have hrun := run_append_room_src (P := P) w t t ty 38 i0 ht hi lb off zs1.length zs1.length (.slice (some ⟨lb2, off2, none⟩) 0 cap2) 0 [] (Src.ofSlice w ht ⟨lb2, off2, none⟩ 0 cap2 [] (by simp) (by simp) (by simp)) (by omega) (by simp) (by simp)
      exact ⟨_, w, LB, hrun, by simpa using h1, Below.refl _ _, .inl rfl⟩
    · obtain ⟨v', w', hrun, hown, hgr⟩ := run_append_arg_grows (P := P) w t ty 38 i0 _ 2 16 ht hi hz0 hz1 hz2 rfl (by decide) ⟨lb, off, none⟩ zs1.length zs1.length (Qu.enc zs1) (Qu.enc_length zs1) h1.holds ⟨lb2, off2, none⟩ zs2.length cap2 (Qu.enc zs2) (Qu.enc_length zs2) hl2.holds (by omega) (by unfold maxLen; omega) (by omega)
      have henc : Qu.enc zs1 ++ Qu.enc zs2 = Qu.enc (zs1 ++ zs2) := by simp [Qu.enc]
      rw [henc] at hown
      obtain ⟨gb, hgb, hl⟩ := Qu.Line.of_own (ys := zs1 ++ zs2) hown (by omega)
      exact ⟨v', w', some gb, hrun, hl, (Below.refl _ _).grown hgr (Nat.le_refl _) (fun k hk => by cases hk), .inr ⟨gb, rfl, hgb⟩⟩
theorem Qu.step_append_two {P : Program} {ops : Array Oper} {o : Oper} {a : Act} {w : World} {K : Act → World → Prop} {Q : Exit → Act → World → Prop} {E : Prop} (hgd : o.guard = none) (s x : Operand) (t : TypeId)
    (ho : o.op = .call { callee := .builtin .append, args := #[s, x], argTypes := #[t, t] }) (ht : P.underlying t = some (.slice 38))
    (hinfo : (P.info? 38).map (fun i => (i.zero, i.size, i.bytes)) = some (some (.agg #[.int .i64 0, .int .i64 0]), 2, 16))
    (lb off n : Nat) (zs1 zs2 : List (Int × Int)) (LB LB2 : Option Nat) (V2 : Value) (hn1 : zs1.length = n) (hs : a.eval s = .slice (some ⟨lb, off, none⟩) n n) (hx : a.eval x = V2) (h1 : Qu.Line w (.slice (some ⟨lb, off, none⟩) n n) zs1 LB) (h2 : Qu.Line w V2 zs2 LB2) (hn : zs1.length + zs2.length ≤ 100000)
    (h : ∀ V' w' LB', Qu.Line w' V' (zs1 ++ zs2) LB' → Below w.heap.size w w' → (LB' = LB ∨ ∃ i, LB' = some i ∧ w.heap.size ≤ i) → K (a.put o.dst V') w') :
    if Region.wanted o (yielded ops a.tmps) = true then Oper.wp P o a w K Q else E := by
  have hw : Region.wanted o (yielded ops a.tmps) = true := by simp [Region.wanted, hgd]
  rw [if_pos hw]
  obtain ⟨V', w', LB', hrun, h1, h2, h3⟩ := Qu.run_append_two (P := P) w t o.type ht hinfo lb off n zs1 zs2 LB LB2 V2 hn1 h1 h2 hn
  unfold Oper.wp
  simp [execOp, ho, resolve, invoke, builtin, hs, hx, hrun, Result.andThen]
  exact h V' w' LB' h1 h2 h3

/-- The one at place i stands first among those with that number. -/
def Qu.First (ys : List (Int × Int)) (id : Int) (i : Nat) : Prop := i < ys.length ∧ (ys.getD i (0, 0)).1 = id ∧ ∀ j, j < i → (ys.getD j (0, 0)).1 ≠ id

set_option maxRecDepth 100000 in
theorem rleave_no (rb c : Nat) (b : Int) (xs ys : List (Int × Int)) (B1 B2 : Option Nat) (id : Int) (w : World) (hat : Qu.RAt w rb c b xs ys B1 B2) (hy : ys.length ≤ 2000) (hno : ∀ j, j < ys.length → (ys.getD j (0, 0)).1 ≠ id) :
    Calls Try.prog 20 #[.pointer (some ⟨rb, 0, none⟩), .int .i64 id] w fun e w' => e = .returned (.tuple #[.slice none 0 0, .int .i64 6]) ∧ w = w' := by
  obtain ⟨V1, V2, hblk, hl1, hl2, hne⟩ := hat
  obtain ⟨c0, c1, c2, c3⟩ := Qu.cells4 hblk
  have hrb := Qu.blk_lt hblk
  obtain ⟨A2, cp2, rfl⟩ := hl2.slice
  have HL2 := Lib.hid hl2
  have HNO := Lib.hid hno
  clear hblk hl1 hl2 hne hno c0 c1 c2
  go_enter Try.func20, Try.ntmps20
  go_wp2
  go_loopg [6] ys.length (fun gk s6 wx => ∃ t : Nat, t ≤ ys.length ∧ gk = ys.length - t ∧ s6 = .int .i64 t ∧ wx = w)
  case atStart => exact ⟨0, by omega, by omega, rfl, rfl⟩
  case round =>
    obtain ⟨t, ht, rfl, rfl, rfl⟩ := hrel
    by_cases htl : t < ys.length
    · obtain ⟨lb, off, cap, hv, hlt, x0, x1⟩ := HL2.out.get htl
      obtain ⟨s4, hs4⟩ : ∃ s4, (ys.getD t (0, 0)).1 = s4 := ⟨_, rfl⟩
      have hne4 : s4 ≠ id := hs4 ▸ HNO.out t htl
      rw [hs4] at x0
      injection hv with hv1 _ hv3
      subst hv1
      subst hv3
      have he2 : (s4 == id) = false := by simpa using hne4
      clear hs4 x1 hne4
      go_wp2
      go_roundg (ys.length - (t + 1))
      case measure => omega
      case rel => exact ⟨t + 1, by omega, rfl, by go_num, rfl⟩
    · have htl2 : t = ys.length := by omega
      have HT := Lib.hid htl2
      clear htl2
      go_wp2
      go_ret2
      exact ⟨rfl, rfl⟩

theorem Qu.came_from {w wx w2 : World} {rb c : Nat} {b : Int} {B1 B2 D2 : Option Nat} {F : List (Int × Int) × List (Int × Int) × Int × List Int} {v : Value} (hB1 : ∀ i, B1 = some i → i < w.heap.size) (hf : Qu.Fr (fun i => i = rb ∨ B1 = some i ∨ B2 = some i) w wx) (hD2 : D2 = B2 ∨ ∀ i, D2 = some i → w.heap.size ≤ i)
    (h : Qu.Came wx rb c b B1 D2 F v w2) : Qu.Came w rb c b B1 B2 F v w2 := by
  obtain ⟨C1, C2, h1, h2, h3, h4, h5⟩ := h
  refine ⟨C1, C2, h1, Qu.own_base h2 hf.size, hf.trans h3 ?_, h4.imp_right (fun h i hi => Nat.le_trans hf.size (h i hi)), ?_⟩
  · rintro i hi (h | h | h)
    · exact .inl h
    · exact .inr (.inl h)
    · rcases hD2 with h1 | h1
      · exact .inr (.inr (h1 ▸ h))
      · have := h1 i h; omega
  · rcases h5 with h | h
    · rw [h]; exact hD2
    · exact .inr (fun i hi => Nat.le_trans hf.size (h i hi))

theorem Qu.leave_ne {w : World} {V1 V2 : Value} {xs ys : List (Int × Int)} {B1 B2 D2 : Option Nat} (h1 : Qu.Line w V1 xs B1) (h2 : Qu.Line w V2 ys B2) (hne : ∀ i, B1 = some i → B2 ≠ some i) (hD : D2 = B2 ∨ ∃ i, D2 = some i ∧ w.heap.size ≤ i) : ∀ i, B1 = some i → D2 ≠ some i := by
  intro i hi h
  rcases hD with hD | ⟨j, hD, hj⟩
  · exact hne i hi (hD ▸ h)
  · rw [hD] at h; injection h with h; have := h1.lt i hi; omega
set_option maxHeartbeats 1000000 in
set_option maxRecDepth 100000 in
theorem rleave_yes (rb c : Nat) (b : Int) (xs ys : List (Int × Int)) (B1 B2 : Option Nat) (id : Int) (i : Nat) (w : World) (hc : c ≤ 1024) (hb0 : 0 ≤ b ∧ b ≤ 17000000)
    (hat : Qu.RAt w rb c b xs ys B1 B2) (hx : xs.length ≤ c) (hu : Qu.sum xs ≤ b) (hpx : ∀ p ∈ xs, 0 ≤ p.2) (hp : ∀ p ∈ ys, 0 ≤ p.2 ∧ p.2 ≤ b) (hy : ys.length ≤ 2000) (hF : Qu.First ys id i) :
    Calls Try.prog 20 #[.pointer (some ⟨rb, 0, none⟩), .int .i64 id] w fun e w' => ∃ v, e = .returned (.tuple #[v, .int .i64 0]) ∧ Qu.Came w rb c b B1 B2 (Qu.enterF c b xs (ys.take i ++ ys.drop (i + 1)) (Qu.sum xs)) v w' := by
  have hps : ∀ p ∈ ys.take i ++ ys.drop (i + 1), 0 ≤ p.2 ∧ p.2 ≤ b := fun p hp' => hp p (by
    rcases List.mem_append.1 hp' with h | h
    · exact List.mem_of_mem_take h
    · exact List.mem_of_mem_drop h)
  have hlen : (ys.take i ++ ys.drop (i + 1)).length ≤ 2000 := by simp; omega
  have hcome := fun (D2 : Option Nat) (w1 : World) (hat1 : Qu.RAt w1 rb c b xs (ys.take i ++ ys.drop (i + 1)) B1 D2) => come_any rb c b xs _ B1 D2 w1 hc hb0 hat1 hx hu hpx hps hlen
  obtain ⟨V1, V2, hblk, hl1, hl2, hne⟩ := hat
  obtain ⟨c0, c1, c2, c3⟩ := Qu.cells4 hblk
  have hrb := Qu.blk_lt hblk
  obtain ⟨hi, hid, hbef⟩ := hF
  obtain ⟨lb, off, cp2, hv, hlt, x0, x1⟩ := hl2.get hi
  subst hv
  have hcm : ys.length ≤ cp2 ∧ cp2 ≤ 9223372036854775807 := by
    rcases hl2 with ⟨h, _, _⟩ | ⟨lb', off', cap', arr, hl, h, hcap, hcm, r⟩
    · cases h
    · simp at h; unfold maxLen at hcm; omega
  obtain ⟨hcm1, hcm2⟩ := hcm
  have HL1 := Lib.hid hl1
  have HL2 := Lib.hid hl2
  have HNE := Lib.hid hne
  have HBEF := Lib.hid hbef
  have HCOME := Lib.hid hcome
  have HBLK := Lib.hid hblk
  have HX0 := Lib.hid x0
  have HID := Lib.hid hid
  clear hblk hl1 hl2 hne hbef hcome hpx hp hps hlen c0 c1 c2 x0 x1 hid hu hb0
  go_enter Try.func20, Try.ntmps20
  go_wp2
  go_loopg [6] ys.length (fun gk s6 wx => ∃ t : Nat, t ≤ i ∧ gk = ys.length - t ∧ s6 = .int .i64 t ∧ wx = w)
  case atStart => exact ⟨0, by omega, by omega, rfl, rfl⟩
  case round =>
    obtain ⟨t, ht, rfl, rfl, rfl⟩ := hrel
    by_cases hti : t < i
    · obtain ⟨lb', off', cap, hv, hlt', x0, x1⟩ := HL2.out.get (j := t) (by omega)
      obtain ⟨s4, hs4⟩ : ∃ s4, (ys.getD t (0, 0)).1 = s4 := ⟨_, rfl⟩
      have hne4 : s4 ≠ id := hs4 ▸ HBEF.out t hti
      rw [hs4] at x0
      injection hv with hv1 _ hv3
      injection hv1 with hv1
      injection hv1 with hv1 hv2
      subst hv1 hv2 hv3
      have he2 : (s4 == id) = false := by simpa using hne4
      clear hs4 x1 hne4
      go_wp2
      go_roundg (ys.length - (t + 1))
      case measure => omega
      case rel => exact ⟨t + 1, by omega, rfl, by go_num, rfl⟩
    · obtain rfl : t = i := by omega
      clear hti ht
      have x0 := HX0.out
      rw [HID.out] at x0
      have hid0 : (id == id) = true := beq_self_eq_true id
      have hT1 := HL2.out.upto t (by omega)
      have HT1 := Lib.hid hT1
      clear hT1
      have hi1 : (t : Int) ≤ (t : Int) + 1 := by omega
      have hi2 : t ≤ cp2 := by omega
      have hi3 : t + 1 ≤ cp2 := by omega
      have hi4 : t + 1 ≤ ys.length := by omega
      have hw : IntKind.i64.wrap ((t : Int) + 1) = (t : Int) + 1 := by rw [IntKind.wrap_i64]; omega
      have hi5 : (0 : Int) ≤ (t : Int) + 1 := by omega
      have hi6 : (t : Int) + 1 ≤ (ys.length : Int) := by omega
      by_cases hc1 : cp2 = t + 1
      · have hT2 := (HL2.out.from (t + 1) (by omega)).2 hc1
        have HT2 := Lib.hid hT2
        have hn : ys.length = t + 1 := by omega
        clear hT2
        clear hid0
        go_wp2
        go_region_law (refine Qu.step_append_two rfl (.tmp 33) (.tmp 40) 31 rfl Try.underlying31 Try.info38 lb off t (ys.take t) (ys.drop (t + 1)) B2 B2 _ (by rw [List.length_take]; omega) rfl rfl (HT1.out) (HT2.out) (by rw [List.length_take, List.length_drop]; omega) ?_; intro V w3 D2 hl3 hb3 hD2; obtain ⟨A3, cp3, rfl⟩ := hl3.slice; obtain ⟨n3, hn3⟩ : ∃ n3, (ys.take t ++ ys.drop (t + 1)).length = n3 := ⟨_, rfl⟩; rw [hn3] at hl3 ⊢; have hblk3 := Qu.blk_below (w := { wr with drawn := wr.drawn + 1 }) HBLK.out hb3; have f3 := Qu.blk_frozen hblk3 3; have e3 := (Qu.cells4 hblk3).2.2.2; have hrb3 := Qu.blk_lt hblk3; have HB3 := Lib.hid hb3; have HL3 := Lib.hid hl3; have HD2 := Lib.hid hD2; have HBLK3 := Lib.hid hblk3; clear hb3 hl3 hD2 hblk3 hn3)
        all_goals
          go_wp2_with (go_at_call 42; refine (HCOME.out D2 _ (Qu.RAt.set3 HBLK3.out (HL1.out.keep (w' := w3) (fun i hi => HB3.out.block i (HL1.out.lt i hi))) HL3.out (Qu.leave_ne HL1.out HL2.out HNE.out HD2.out))).mono ?_; rintro e w5 ⟨v, rfl, hcame⟩)
          go_ret2
          exact ⟨v, rfl, Qu.came_from HL1.out.lt (((Qu.Fr.of_below (S := fun i => i = rb ∨ B1 = some i ∨ B2 = some i) (w := wr) ⟨HB3.out.os, HB3.out.tape, HB3.out.output, HB3.out.size, HB3.out.block⟩)).setCell (p := ⟨rb, 3, none⟩) (fun _ => .inl rfl) _) (HD2.out.imp_right (fun ⟨i, h, hi⟩ j hj => by rw [h] at hj; injection hj with hj; subst hj; exact hi)) hcame⟩
      · have hT2 := (HL2.out.from (t + 1) (by omega)).1
        have HT2 := Lib.hid hT2
        clear hT2
        clear hid0
        go_wp2
        go_region_law (refine Qu.step_append_two rfl (.tmp 33) (.tmp 40) 31 rfl Try.underlying31 Try.info38 lb off t (ys.take t) (ys.drop (t + 1)) B2 B2 _ (by rw [List.length_take]; omega) rfl rfl (HT1.out) (HT2.out) (by rw [List.length_take, List.length_drop]; omega) ?_; intro V w3 D2 hl3 hb3 hD2; obtain ⟨A3, cp3, rfl⟩ := hl3.slice; obtain ⟨n3, hn3⟩ : ∃ n3, (ys.take t ++ ys.drop (t + 1)).length = n3 := ⟨_, rfl⟩; rw [hn3] at hl3 ⊢; have hblk3 := Qu.blk_below (w := { wr with drawn := wr.drawn + 1 }) HBLK.out hb3; have f3 := Qu.blk_frozen hblk3 3; have e3 := (Qu.cells4 hblk3).2.2.2; have hrb3 := Qu.blk_lt hblk3; have HB3 := Lib.hid hb3; have HL3 := Lib.hid hl3; have HD2 := Lib.hid hD2; have HBLK3 := Lib.hid hblk3; clear hb3 hl3 hD2 hblk3 hn3)
        all_goals
          go_wp2_with (go_at_call 42; refine (HCOME.out D2 _ (Qu.RAt.set3 HBLK3.out (HL1.out.keep (w' := w3) (fun i hi => HB3.out.block i (HL1.out.lt i hi))) HL3.out (Qu.leave_ne HL1.out HL2.out HNE.out HD2.out))).mono ?_; rintro e w5 ⟨v, rfl, hcame⟩)
          go_ret2
          exact ⟨v, rfl, Qu.came_from HL1.out.lt (((Qu.Fr.of_below (S := fun i => i = rb ∨ B1 = some i ∨ B2 = some i) (w := wr) ⟨HB3.out.os, HB3.out.tape, HB3.out.output, HB3.out.size, HB3.out.block⟩)).setCell (p := ⟨rb, 3, none⟩) (fun _ => .inl rfl) _) (HD2.out.imp_right (fun ⟨i, h, hi⟩ j hj => by rw [h] at hj; injection hj with hj; subst hj; exact hi)) hcame⟩
end Go.Proofs.Ytgdeoodihhcdjaa
