/- Leave: Delete. -/
import Derived.Test.YtgdeoodihhcdjaaRi
namespace Go.Proofs.Ytgdeoodihhcdjaa
open Go.RowKit
set_option linter.unusedVariables false
set_option linter.unusedSimpArgs false

def Qu.setL : Array Value → Nat → List Value → Array Value
  | a, _, [] => a
  | a, o, v :: vs => Qu.setL (a.setIfInBounds o v) (o + 1) vs
theorem Qu.setL_size : ∀ (vs : List Value) (a : Array Value) (o : Nat), (Qu.setL a o vs).size = a.size
  | [], a, o => rfl
  | v :: vs, a, o => by rw [Qu.setL, Qu.setL_size vs]; simp
theorem Qu.setL_out : ∀ (vs : List Value) (a : Array Value) (o j : Nat), (j < o ∨ o + vs.length ≤ j) → (Qu.setL a o vs)[j]? = a[j]?
  | [], a, o, j, h => rfl
  | v :: vs, a, o, j, h => by
    rw [Qu.setL, Qu.setL_out vs _ _ _ (by simp at h; omega), Array.getElem?_setIfInBounds_ne (by simp at h; omega)]
theorem Qu.setL_in : ∀ (vs : List Value) (a : Array Value) (o k : Nat), k < vs.length → o + vs.length ≤ a.size → (Qu.setL a o vs)[o + k]? = vs[k]?
  | [], a, o, k, h, _ => by simp at h
  | v :: vs, a, o, 0, h, hs => by
    simp at hs
    rw [Qu.setL, Qu.setL_out vs _ _ _ (by omega), Nat.add_zero, Array.getElem?_setIfInBounds_self_of_lt (by omega)]
    rfl
  | v :: vs, a, o, k + 1, h, hs => by
    simp at h hs
    rw [Qu.setL, show o + (k + 1) = (o + 1) + k from by omega, Qu.setL_in vs _ _ _ h (by simp; omega)]
    rfl
theorem Qu.blk_setL {t : TypeId} {g : Nat} : ∀ (vs : List Value) (o : Nat) (arr : Array Value) (w : World), w.heap[g]? = some (.cells arr t (0, 0)) → (w.setCells g o vs).heap[g]? = some (.cells (Qu.setL arr o vs) t (0, 0))
  | [], o, arr, w, h => h
  | v :: vs, o, arr, w, h => by
    rw [World.setCells, Qu.setL]
    exact Qu.blk_setL vs (o + 1) _ _ (Qu.blk_set h o v)
theorem Qu.fr_setCells {g : Nat} : ∀ (vs : List Value) (o : Nat) (w0 w : World), Qu.Fr (fun k => k = g) w0 w → Qu.Fr (fun k => k = g) w0 (w.setCells g o vs)
  | [], o, w0, w, h => h
  | v :: vs, o, w0, w, h => by
    rw [World.setCells]
    exact Qu.fr_setCells vs (o + 1) w0 _ (h.setCell (p := ⟨g, o, none⟩) (fun _ => rfl) v)

theorem Qu.step_delete {P : Program} {ops : Array Oper} {o : Oper} {a : Act} {w : World} {K : Act → World → Prop} {Q : Exit → Act → World → Prop} {E : Prop} (hgd : o.guard = none) (s x : Operand) (t : TypeId)
    (ho : o.op = .call { callee := .builtin .append, args := #[s, x], argTypes := #[t, t] }) (ht : P.underlying t = some (.slice 38))
    (hinfo : (P.info? 38).map (fun i => (i.zero, i.size, i.bytes)) = some (some (.agg #[.int .i64 0, .int .i64 0]), 2, 16))
    (g off n cap : Nat) (zs : List (Int × Int)) (arr : Array Value) (LB2 : Option Nat) (V2 : Value) (hs : a.eval s = .slice (some ⟨g, off, none⟩) n cap) (hx : a.eval x = V2) (h2 : Qu.Line w V2 zs LB2) (hblk : w.heap[g]? = some (.cells arr 38 (0, 0))) (hroom : n + zs.length ≤ cap) (hoff : off + cap * 2 ≤ arr.size)
    (h : K (a.put o.dst (.slice (some ⟨g, off, none⟩) (n + zs.length) cap)) (w.setCells g (off + n * 2) (Qu.enc zs))) :
    if Region.wanted o (yielded ops a.tmps) = true then Oper.wp P o a w K Q else E := by
  have hw : Region.wanted o (yielded ops a.tmps) = true := by simp [Region.wanted, hgd]
  rw [if_pos hw]
  obtain ⟨i0, hi, hz0, hz1, hz2⟩ := info_parts hinfo
  have hsrc : Src P i0.size t V2 zs.length (Qu.enc zs) w := by
    rw [hz1]
    rcases h2 with ⟨rfl, rfl, rfl⟩ | ⟨lb2, off2, cap2, arr2, rfl, rfl, hcap, hcm, hlb, hoff2, hrd⟩
    · exact Src.ofNil w ht 0
    · have hl2 : Qu.Line w (.slice (some ⟨lb2, off2, none⟩) zs.length cap2) zs (some lb2) := .inr ⟨lb2, off2, cap2, arr2, rfl, rfl, hcap, hcm, hlb, hoff2, hrd⟩
      exact Src.ofSlice w ht ⟨lb2, off2, none⟩ zs.length cap2 (Qu.enc zs) (Qu.enc_length zs) hl2.holds (by
        intro u hu
        simp [Qu.enc] at hu
        obtain ⟨p, q, hpq, rfl | rfl⟩ := hu <;> rfl)
  have hrun := run_append_room_src (P := P) w t t o.type 38 i0 ht hi g off n cap V2 zs.length (Qu.enc zs) hsrc hroom (fun j hj => by
    rw [Qu.enc_length] at hj
    rw [Qu.blk_cell hblk, Array.getElem?_eq_getElem (by rw [hz1]; omega)]
    rfl) (fun j hj => Qu.blk_frozen hblk _)
  rw [hz1] at hrun
  unfold Oper.wp
  simp [execOp, ho, resolve, invoke, builtin, hs, hx, hrun, Result.andThen]
  exact h

theorem Qu.run_clear_item {P : Program} (w : World) (t ty : TypeId) (ht : P.underlying t = some (.slice 38)) (hinfo : (P.info? 38).map (fun i => (i.zero, i.size, i.bytes)) = some (some (.agg #[.int .i64 0, .int .i64 0]), 2, 16))
    (g o c : Nat) (arr : Array Value) (hblk : w.heap[g]? = some (.cells arr 38 (0, 0))) (hoff : o + 2 ≤ arr.size) :
    (Builtin.clear_ #[t] ty #[.slice (some ⟨g, o, none⟩) 1 c]).run P w = .ok (.tuple #[]) (w.setCells g o [.int .i64 0, .int .i64 0]) := by
  obtain ⟨i0, hi, hz0, hz1, hz2⟩ := info_parts hinfo
  have hst := run_storeCells_cells (P := P) g o [Value.int .i64 0, Value.int .i64 0] 0 w (fun j hj => by
    simp at hj
    rw [Qu.blk_cell hblk, Array.getElem?_eq_getElem (by omega)]
    rfl) (fun j hj => Qu.blk_frozen hblk _) (by simp [Value.oneCell'])
  simp only [Nat.add_zero] at hst
  have hzc : (Builtin.zeroCells (Value.agg #[.int .i64 0, .int .i64 0]).cells 1).toList = [Value.int .i64 0, Value.int .i64 0] := by kernel_rfl
  simp [Builtin.clear_, run_underlying ht, zeroValue, hi, hz0, typeInfo, hzc, hst, Result.andThen]
theorem Qu.wpList_clear_item {P : Program} (w : World) {ops : Array Oper} {rest : List Oper} {o : Oper} {a : Act} {Q : Exit → Act → World → Prop} (hgd : o.guard = none) (x : Operand) (t : TypeId)
    (ho : o.op = .call { callee := .builtin .clear, args := #[x], argTypes := #[t] }) (ht : P.underlying t = some (.slice 38)) (hinfo : (P.info? 38).map (fun i => (i.zero, i.size, i.bytes)) = some (some (.agg #[.int .i64 0, .int .i64 0]), 2, 16))
    (g off c : Nat) (arr : Array Value) (hx : a.eval x = .slice (some ⟨g, off, none⟩) 1 c) (hblk : w.heap[g]? = some (.cells arr 38 (0, 0))) (hoff : off + 2 ≤ arr.size)
    (h : wpList P ops Q rest (a.put o.dst (.tuple #[])) (w.setCells g off [.int .i64 0, .int .i64 0])) : wpList P ops Q (o :: rest) a w := by
  refine wpList_plain hgd fun K hK => ?_
  have hrun := Qu.run_clear_item (P := P) w t o.type ht hinfo g off c arr hblk hoff
  unfold Oper.wp
  simp [execOp, ho, resolve, invoke, builtin, hx, hrun, Result.andThen]
  exact hK _ _ h

theorem Qu.getD_cut (ys : List (Int × Int)) (i j : Nat) (hi : i < ys.length) (hj : j < ys.length - 1) : (ys.take i ++ ys.drop (i + 1)).getD j (0, 0) = if j < i then ys.getD j (0, 0) else ys.getD (j + 1) (0, 0) := by
  by_cases h : j < i
  · rw [if_pos h]
    simp [List.getD_eq_getElem?_getD, List.getElem?_append, h, List.getElem?_take, show j < min i ys.length from by omega, show j < ys.length from by omega]
  · rw [if_neg h]
    simp [List.getD_eq_getElem?_getD, List.getElem?_append, h, show ¬ j < min i ys.length from by omega, List.getElem?_drop]
    rw [show i + 1 + (j - min i ys.length) = j + 1 from by omega]
theorem Qu.delete_line {g off cap : Nat} {ys : List (Int × Int)} {w' : World} {i : Nat} {arr : Array Value} (hi : i < ys.length) (hcap : ys.length ≤ cap) (hcm : cap ≤ maxLen) (hoff : off + cap * 2 ≤ arr.size)
    (hrd : ∀ j, j < ys.length → arr[off + j * 2]? = some (.int .i64 (ys.getD j (0, 0)).1) ∧ arr[off + j * 2 + 1]? = some (.int .i64 (ys.getD j (0, 0)).2))
    (hblk : w'.heap[g]? = some (.cells (Qu.setL (Qu.setL arr (off + i * 2) (Qu.enc (ys.drop (i + 1)))) (off + (ys.length - 1) * 2) [.int .i64 0, .int .i64 0]) 38 (0, 0))) :
    Qu.Line w' (.slice (some ⟨g, off, none⟩) (ys.length - 1) cap) (ys.take i ++ ys.drop (i + 1)) (some g) := by
  have hlen : (ys.take i ++ ys.drop (i + 1)).length = ys.length - 1 := by simp; omega
  have hel : (Qu.enc (ys.drop (i + 1))).length = (ys.length - (i + 1)) * 2 := by rw [Qu.enc_length, List.length_drop]
  refine .inr ⟨g, off, cap, _, rfl, by rw [hlen], by omega, hcm, hblk, by rw [Qu.setL_size, Qu.setL_size]; exact hoff, fun j hj => ?_⟩
  rw [hlen] at hj
  rw [Qu.getD_cut ys i j hi hj]
  have o0 := Qu.setL_out [Value.int .i64 0, Value.int .i64 0] (Qu.setL arr (off + i * 2) (Qu.enc (ys.drop (i + 1)))) (off + (ys.length - 1) * 2) (off + j * 2) (.inl (by omega))
  have o1 := Qu.setL_out [Value.int .i64 0, Value.int .i64 0] (Qu.setL arr (off + i * 2) (Qu.enc (ys.drop (i + 1)))) (off + (ys.length - 1) * 2) (off + j * 2 + 1) (.inl (by omega))
  rw [o0, o1]
  by_cases h : j < i
  · rw [if_pos h, Qu.setL_out (Qu.enc (ys.drop (i + 1))) arr (off + i * 2) (off + j * 2) (.inl (by omega)), Qu.setL_out (Qu.enc (ys.drop (i + 1))) arr (off + i * 2) (off + j * 2 + 1) (.inl (by omega))]
    exact hrd j (by omega)
  · rw [if_neg h]
    obtain ⟨e0, e1⟩ := Qu.enc_get (ys.drop (i + 1)) (j - i) (by simp; omega)
    rw [Qu.getD_drop, show i + 1 + (j - i) = j + 1 from by omega] at e0 e1
    have p0 := Qu.setL_in (Qu.enc (ys.drop (i + 1))) arr (off + i * 2) ((j - i) * 2) (by omega) (by omega)
    have p1 := Qu.setL_in (Qu.enc (ys.drop (i + 1))) arr (off + i * 2) ((j - i) * 2 + 1) (by omega) (by omega)
    rw [show off + i * 2 + (j - i) * 2 = off + j * 2 from by omega] at p0
    rw [show off + i * 2 + ((j - i) * 2 + 1) = off + j * 2 + 1 from by omega] at p1
    rw [p0, p1]
    exact ⟨e0, e1⟩

set_option maxHeartbeats 4000000 in
set_option maxRecDepth 100000 in
theorem delete_any (g off cap n1 : Nat) (ys : List (Int × Int)) (i : Nat) (w : World) (hn : ys.length = n1 + 1) (hl : Qu.Line w (.slice (some ⟨g, off, none⟩) ys.length cap) ys (some g)) (hi : i < ys.length) (hy : ys.length ≤ 2000) :
    Calls Try.prog 45 #[.slice (some ⟨g, off, none⟩) (n1 + 1) cap, .int .i64 i, .int .i64 (i + 1)] w fun e w' => e = .returned (.slice (some ⟨g, off, none⟩) n1 cap) ∧
      Qu.Line w' (.slice (some ⟨g, off, none⟩) n1 cap) (ys.take i ++ ys.drop (i + 1)) (some g) ∧ Qu.Fr (fun k => k = g) w w' := by
  have HL := Lib.hid hl
  have hfrom := hl.from (i + 1) (by omega)
  rcases hl with ⟨h, _, _⟩ | ⟨lb', off', cap', arr, hlb, h, hcap, hcm, hblk, hoff, hrd⟩
  · cases h
  simp at h
  obtain ⟨⟨rfl, rfl⟩, rfl⟩ := h
  clear hlb
  have hdl : i + (ys.drop (i + 1)).length = n1 := by rw [List.length_drop]; omega
  have hend : ∀ w', w'.heap[g]? = some (.cells (Qu.setL (Qu.setL arr (off + i * 2) (Qu.enc (ys.drop (i + 1)))) (off + n1 * 2) [.int .i64 0, .int .i64 0]) 38 (0, 0)) → Qu.Line w' (.slice (some ⟨g, off, none⟩) n1 cap) (ys.take i ++ ys.drop (i + 1)) (some g) := by
    intro w' hb
    have := Qu.delete_line (w' := w') hi hcap hcm hoff hrd (by rw [hn]; exact hb)
    rw [hn] at this
    exact this
  have hcm2 : cap ≤ 9223372036854775807 := by unfold maxLen at hcm; exact hcm
  have HBLK := Lib.hid hblk
  have HEND := Lib.hid hend
  rw [hn] at hfrom hcap hi hy
  rw [Nat.add_sub_add_right] at hfrom
  have hi1 : (i : Int) ≤ (i : Int) + 1 := by omega
  have hi2 : i ≤ cap := by omega
  have hi3 : i + 1 ≤ cap := by omega
  have hi5 : (0 : Int) ≤ (i : Int) + 1 := by omega
  have hi6 : (i : Int) + 1 ≤ (n1 : Int) + 1 := by omega
  have hi7 : (i : Int) + 1 ≤ (cap : Int) := by omega
  have hi8 : i ≤ n1 := by omega
  have hcn : n1 + 1 ≤ cap := hcap
  have hcn2 : (n1 : Int) + 1 ≤ (cap : Int) := by omega
  have hne1 : ((i : Int) == (i : Int) + 1) = false := by rw [beq_eq_false_iff_ne]; omega
  have HT1 := Lib.hid hfrom.1
  have HT2 := Lib.hid hfrom.2
  have HDL := Lib.hid hdl
  clear hblk hrd hcm hend hfrom hdl
  by_cases hc : cap = i + 1
  · subst hc
    obtain rfl : n1 = i := by omega
    have hz := HT2.out rfl
    have HZ := Lib.hid hz
    clear hz
    go_enter Try.func45, Try.ntmps45
    go_upto_region 5 with fail
    go_region_law (refine Qu.step_delete rfl (.tmp 22) (.tmp 25) 31 rfl Try.underlying31 Try.info38 g off n1 (n1 + 1) (ys.drop (n1 + 1)) arr (some g) (.slice (some ⟨g, off, none⟩) 0 0) rfl rfl HZ.out HBLK.out (by have := HDL.out; omega) hoff ?_; rw [HDL.out])
    all_goals
      have hb1 := Qu.blk_setL (Qu.enc (ys.drop (n1 + 1))) (off + n1 * 2) arr w.drew HBLK.out
      have hf1 := Qu.fr_setCells (g := g) (Qu.enc (ys.drop (n1 + 1))) (off + n1 * 2) w w.drew (Qu.Fr.refl _ w).drew
      have hsz : off + n1 * 2 + 2 ≤ (Qu.setL arr (off + n1 * 2) (Qu.enc (ys.drop (n1 + 1)))).size := by rw [Qu.setL_size]; omega
      generalize w.drew.setCells g (off + n1 * 2) (Qu.enc (ys.drop (n1 + 1))) = W1 at hb1 hf1 ⊢
      have HB1 := Lib.hid hb1
      have HF1 := Lib.hid hf1
      have HSZ := Lib.hid hsz
      clear hb1 hf1 hsz
      go_wp2_with (refine Qu.wpList_clear_item _ rfl (.tmp 31) 31 rfl Try.underlying31 Try.info38 g (off + n1 * 2) _ _ rfl HB1.out HSZ.out ?_)
      go_ret
      exact ⟨rfl, HEND.out _ (Qu.blk_setL _ _ _ _ HB1.out), Qu.fr_setCells _ _ _ _ HF1.out⟩
  · go_enter Try.func45, Try.ntmps45
    go_upto_region 5 with fail
    go_region_law (refine Qu.step_delete rfl (.tmp 22) (.tmp 25) 31 rfl Try.underlying31 Try.info38 g off i cap (ys.drop (i + 1)) arr (some g) (.slice (some ⟨g, off + (i + 1) * 2, none⟩) (n1 - i) (cap - (i + 1))) rfl rfl HT1.out HBLK.out (by have := HDL.out; omega) hoff ?_; rw [HDL.out])
    all_goals
      have hb1 := Qu.blk_setL (Qu.enc (ys.drop (i + 1))) (off + i * 2) arr w.drew HBLK.out
      have hf1 := Qu.fr_setCells (g := g) (Qu.enc (ys.drop (i + 1))) (off + i * 2) w w.drew (Qu.Fr.refl _ w).drew
      have hsz : off + n1 * 2 + 2 ≤ (Qu.setL arr (off + i * 2) (Qu.enc (ys.drop (i + 1)))).size := by rw [Qu.setL_size]; omega
      generalize w.drew.setCells g (off + i * 2) (Qu.enc (ys.drop (i + 1))) = W1 at hb1 hf1 ⊢
      have HB1 := Lib.hid hb1
      have HF1 := Lib.hid hf1
      have HSZ := Lib.hid hsz
      clear hb1 hf1 hsz
      go_wp2_with (refine Qu.wpList_clear_item _ rfl (.tmp 31) 31 rfl Try.underlying31 Try.info38 g (off + n1 * 2) _ _ rfl HB1.out HSZ.out ?_)
      go_ret
      exact ⟨rfl, HEND.out _ (Qu.blk_setL _ _ _ _ HB1.out), Qu.fr_setCells _ _ _ _ HF1.out⟩
end Go.Proofs.Ytgdeoodihhcdjaa
