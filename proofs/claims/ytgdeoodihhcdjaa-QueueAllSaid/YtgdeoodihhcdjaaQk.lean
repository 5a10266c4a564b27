/- The contract of Put. -/
import Derived.Test.YtgdeoodihhcdjaaQj
import Derived.ArgAppend
import Derived.Deep.RegionLaw
namespace Go.Proofs.Ytgdeoodihhcdjaa
open Go.RowKit
set_option linter.unusedVariables false
set_option linter.unusedSimpArgs false

theorem there_some' (sb : Nat) (c : Int) (w : World) (hc : w.cell? ⟨sb, 0, none⟩ = some (.int .i64 c)) (hp : 0 < c) : Calls Try.prog 32 #[.pointer (some ⟨sb, 0, none⟩)] w fun e w' => e = .returned (.bool true) ∧ w = w' :=
  (there_some sb c w hc hp).mono fun _ _ h => ⟨h.1, h.2.symm⟩
theorem Qu.add_at (g j : Nat) : (⟨g, 0, none⟩ : Addr).add j = ⟨g, j, none⟩ := by unfold Addr.add; split <;> simp_all
/-- A row of the call's own, as a line. -/
theorem Qu.Line.of_own {w : World} {base n : Nat} {v : Value} {ys : List (Int × Int)} (h : w.ownsRow base 38 2 v n (Qu.enc ys)) (hn : 0 < n) : ∃ g, base ≤ g ∧ Qu.Line w v ys (some g) := by
  obtain ⟨hl, h⟩ := h
  have hyl : ys.length = n := by rw [Qu.enc_length] at hl; omega
  rcases h with ⟨_, h0⟩ | ⟨g, cap, cur, rfl, hb, hg, hnc, hcm, hs, ht⟩
  · omega
  · refine ⟨g, hb, .inr ⟨g, 0, cap, cur, rfl, by rw [hyl], by omega, hcm, hg, by omega, fun j hj => ?_⟩⟩
    obtain ⟨e0, e1⟩ := Qu.enc_get ys j hj
    rw [← ht, List.getElem?_take] at e0 e1
    rw [if_pos (by omega)] at e0 e1
    rw [Array.getElem?_toList] at e0 e1
    rw [Nat.zero_add]
    exact ⟨e0, e1⟩
theorem Qu.cell_setCells {w : World} {lb : Nat} {arr : Array Value} {t : TypeId} (h : w.heap[lb]? = some (.cells arr t (0, 0))) (i : Nat) (u v : Value) : (w.setCells lb i [u, v]).heap[lb]? = some (.cells ((arr.setIfInBounds i u).setIfInBounds (i + 1) v) t (0, 0)) := by
  simp only [World.setCells]
  exact Qu.blk_set (Qu.blk_set h i u) (i + 1) v
theorem Qu.Line.slice {w : World} {V : Value} {ys : List (Int × Int)} {LB : Option Nat} (h : Qu.Line w V ys LB) : ∃ A cp, V = .slice A ys.length cp := by
  rcases h with ⟨h, rfl, _⟩ | ⟨lb, off, cap, arr, _, h, _⟩
  · exact ⟨_, _, h⟩
  · exact ⟨_, _, h⟩
/-- append to the line. -/
theorem Qu.run_append_line {P : Program} (w : World) (t ty : TypeId) (ht : P.underlying t = some (.slice 38))
    (hinfo : (P.info? 38).map (fun i => (i.zero, i.size, i.bytes)) = some (some (.agg #[.int .i64 0, .int .i64 0]), 2, 16))
    (V : Value) (ys : List (Int × Int)) (LB : Option Nat) (hline : Qu.Line w V ys LB) (g : Nat) (px py : Int)
    (hg : w.heap[g]? = some (.cells #[.int .i64 px, .int .i64 py] 38 (0, 0))) (hn : ys.length ≤ 100000) :
    ∃ V' w' LB', (Builtin.append_ #[t, t] ty #[V, .slice (some ⟨g, 0, none⟩) 1 1]).run P w = .ok V' w' ∧ Qu.Line w' V' (ys ++ [(px, py)]) LB' ∧ Qu.Fr (fun i => LB = some i) w w' ∧ (LB' = LB ∨ ∃ i, LB' = some i ∧ w.heap.size ≤ i) := by
  obtain ⟨i0, hi, hz0, hz1, hz2⟩ := info_parts hinfo
  have hcells : ∀ j u, [Value.int .i64 px, Value.int .i64 py][j]? = some u → w.cell? ((⟨g, 0, none⟩ : Addr).add j) = some u := by
    intro j u hj
    rw [Qu.add_at, Qu.blk_cell hg]
    simpa using hj
  have h1c : ∀ u ∈ [Value.int .i64 px, Value.int .i64 py], u.oneCell' = true := by intro u hu; simp at hu; rcases hu with rfl | rfl <;> rfl
  rcases hline with ⟨rfl, rfl, rfl⟩ | ⟨lb, off, cap, arr, rfl, rfl, hcap, hcm, hlb, hoff, hrd⟩
  · obtain ⟨v', w', hrun, hown, hgr, _⟩ := run_append_own (P := P) w w.heap.size t ty 38 i0 _ 2 16 ht hi hz0 hz1 hz2 rfl (by decide) _ 0 [] (World.ownsRow_nil _ _ _ _) ⟨g, 0, none⟩ 1 1 [.int .i64 px, .int .i64 py] rfl hcells h1c (by unfold maxLen; omega) (by omega) (Nat.le_refl _)
    obtain ⟨gb, hgb, hl⟩ := Qu.Line.of_own (ys := [(px, py)]) (by simpa [Qu.enc] using hown) (by omega)
    exact ⟨v', w', some gb, hrun, hl, Qu.Fr.of_grown hgr (fun k hk => by cases hk), .inr ⟨gb, rfl, hgb⟩⟩
  · have holds : ∀ j u, (Qu.enc ys)[j]? = some u → w.cell? ⟨lb, off + j, none⟩ = some u := by
      intro j u hj
      rw [Qu.blk_cell hlb]
      have hjl : j < ys.length * 2 := by rw [← Qu.enc_length]; exact (List.getElem?_eq_some_iff.1 hj).1
      obtain ⟨r0, r1⟩ := hrd (j / 2) (by omega)
      obtain ⟨e0, e1⟩ := Qu.enc_get ys (j / 2) (by omega)
      by_cases hp : j % 2 = 0
      · have ej : j / 2 * 2 = j := by omega
        rw [ej] at r0 e0
        rw [r0, ← e0, hj]
      · have ej : j / 2 * 2 + 1 = j := by omega
        rw [ej] at e1
        rw [show off + j = off + j / 2 * 2 + 1 from by omega, r1, ← e1, hj]
    by_cases hr : ys.length + 1 ≤ cap
    · have hrun := run_append_room_cells (P := P) w t ty 38 i0 ht hi lb off ys.length cap ⟨g, 0, none⟩ 1 1 [.int .i64 px, .int .i64 py] (by rw [hz1]; rfl) hcells h1c hr (fun j hj => by
        rw [Qu.blk_cell hlb, Array.getElem?_eq_getElem (by rw [hz1]; simp at hj; omega)]
        rfl) (fun j hj => Qu.blk_frozen hlb _)
      rw [hz1] at hrun
      refine ⟨_, _, some lb, hrun, .inr ⟨lb, off, cap, _, rfl, by simp, by simpa using hr, hcm, Qu.cell_setCells hlb (off + ys.length * 2) (.int .i64 px) (.int .i64 py), by simpa using hoff, fun j hj => ?_⟩, ?_, .inl rfl⟩
      · simp at hj
        by_cases hjn : j < ys.length
        · obtain ⟨r0, r1⟩ := hrd j hjn
          have e : (ys ++ [(px, py)]).getD j (0, 0) = ys.getD j (0, 0) := by simp [List.getD, List.getElem?_append_left hjn]
          rw [e]
          constructor
          · rw [Array.getElem?_setIfInBounds_ne (by omega), Array.getElem?_setIfInBounds_ne (by omega)]
            exact r0
          · rw [Array.getElem?_setIfInBounds_ne (by omega), Array.getElem?_setIfInBounds_ne (by omega)]
            exact r1
        · have hjn : j = ys.length := by omega
          subst hjn
          have e : (ys ++ [(px, py)]).getD ys.length (0, 0) = (px, py) := by simp [List.getD]
          rw [e]
          constructor
          · rw [Array.getElem?_setIfInBounds_ne (by omega), Array.getElem?_setIfInBounds_self_of_lt (by omega)]
          · rw [Array.getElem?_setIfInBounds_self_of_lt (by simp only [Array.size_setIfInBounds]; omega)]
      · simp only [World.setCells]
        exact ((Qu.Fr.refl (fun i => some lb = some i) w).setCell (p := ⟨lb, off + ys.length * 2, none⟩) (fun _ => rfl) _).setCell (p := ⟨lb, off + ys.length * 2 + 1, none⟩) (fun _ => rfl) _
    · obtain ⟨v', w', hrun, hown, hgr⟩ := run_append_arg_grows (P := P) w t ty 38 i0 _ 2 16 ht hi hz0 hz1 hz2 rfl (by decide) ⟨lb, off, none⟩ ys.length cap (Qu.enc ys) (Qu.enc_length ys) (fun j u hj => by rw [Addr.add_lit]; exact holds j u hj) ⟨g, 0, none⟩ 1 1 [.int .i64 px, .int .i64 py] rfl hcells (by omega) (by unfold maxLen; omega) (by omega)
      obtain ⟨gb, hgb, hl⟩ := Qu.Line.of_own (ys := ys ++ [(px, py)]) (by simpa [Qu.enc] using hown) (by omega)
      exact ⟨v', w', some gb, hrun, hl, Qu.Fr.of_grown hgr (fun k hk => by cases hk), .inr ⟨gb, rfl, hgb⟩⟩
theorem Qu.step_append_line {P : Program} {ops : Array Oper} {o : Oper} {a : Act} {w : World} {K : Act → World → Prop} {Q : Exit → Act → World → Prop} {E : Prop} (hgd : o.guard = none) (s x : Operand) (t : TypeId)
    (ho : o.op = .call { callee := .builtin .append, args := #[s, x], argTypes := #[t, t] }) (ht : P.underlying t = some (.slice 38))
    (hinfo : (P.info? 38).map (fun i => (i.zero, i.size, i.bytes)) = some (some (.agg #[.int .i64 0, .int .i64 0]), 2, 16))
    (V : Value) (ys : List (Int × Int)) (LB : Option Nat) (hs : a.eval s = V) (g : Nat) (px py : Int) (hx : a.eval x = .slice (some ⟨g, 0, none⟩) 1 1) (hline : Qu.Line w V ys LB)
    (hg : w.heap[g]? = some (.cells #[.int .i64 px, .int .i64 py] 38 (0, 0))) (hn : ys.length ≤ 100000)
    (h : ∀ V' w' LB', Qu.Line w' V' (ys ++ [(px, py)]) LB' → Qu.Fr (fun i => LB = some i) w w' → (LB' = LB ∨ ∃ i, LB' = some i ∧ w.heap.size ≤ i) → K (a.put o.dst V') w') :
    if Region.wanted o (yielded ops a.tmps) = true then Oper.wp P o a w K Q else E := by
  have hw : Region.wanted o (yielded ops a.tmps) = true := by simp [Region.wanted, hgd]
  rw [if_pos hw]
  obtain ⟨V', w', LB', hrun, h1, h2, h3⟩ := Qu.run_append_line (P := P) w t o.type ht hinfo V ys LB hline g px py hg hn
  unfold Oper.wp
  simp [execOp, ho, resolve, invoke, builtin, hs, hx, hrun, Result.andThen]
  exact h V' w' LB' h1 h2 h3
/-- What Put comes to: what it answers, who is held, who stands in line. -/
def Qu.putF (c : Nat) (b : Int) (xs ys : List (Int × Int)) (id size : Int) : Bool × Int × List (Int × Int) × List (Int × Int) :=
  if size < 0 then (false, 1, xs, ys)
  else if b < size then (false, 3, xs, ys)
  else if id ∈ (xs ++ ys).map Prod.fst then (false, 7, xs, ys)
  else if 1024 ≤ ys.length then (false, 9, xs, ys)
  else if ys.length = 0 ∧ Qu.roomB xs.length c size b (Qu.sum xs) = true then (true, 0, xs ++ [(id, size)], [])
  else (false, 0, xs, ys ++ [(id, size)])

def Qu.Put (w : World) (sb c : Nat) (b : Int) (mb : Nat) (R LB : Option Nat) (F : Bool × Int × List (Int × Int) × List (Int × Int)) (w' : World) : Prop :=
  ∃ R' LB', Qu.At w' sb c b (Qu.sum F.2.2.1) F.2.2.1 F.2.2.2 (.map (some mb)) R' LB' ∧ Qu.Keys w' mb ((F.2.2.1 ++ F.2.2.2).map Prod.fst) ∧
    Qu.Fr (fun i => i = sb ∨ R = some i ∨ LB = some i ∨ i = mb) w w' ∧ (R' = R ∨ ∃ i, R' = some i ∧ w.heap.size ≤ i) ∧ (LB' = LB ∨ ∃ i, LB' = some i ∧ w.heap.size ≤ i)

/-- Behind Put's append to the line. -/
theorem Qu.put_line_end {w w2 w3 : World} {sb c : Nat} {b : Int} {xs : List (Int × Int)} (ys : List (Int × Int)) {mb k : Nat} {R LB LB3 : Option Nat} {id size : Int} {L V LV : Value} {o : Obj}
    (hk : Qu.Keys w2 mb ((xs ++ ys).map Prod.fst ++ [id])) (hr : Qu.Ring w2 L k xs R) (hl : Qu.Line w2 LV ys LB)
    (hb : w2.heap[sb]? = some (.cells #[.int .i64 c, .int .i64 b, .int .i64 (Qu.sum xs), L, .int .i64 k, .int .i64 xs.length, LV, .map (some mb)] 81 (0, 0))) (hf2 : Qu.Fr (fun i => i = mb) w w2) (hne : ∀ i, R = some i → LB ≠ some i)
    (hb3 : w3.heap[sb]? = some (.cells #[.int .i64 c, .int .i64 b, .int .i64 (Qu.sum xs), L, .int .i64 k, .int .i64 xs.length, LV, .map (some mb)] 81 (0, 0)))
    (hl3 : Qu.Line w3 V (ys ++ [(id, size)]) LB3) (hf3 : Qu.Fr (fun i => LB = some i) (w2.alloc o).drew w3) (hLB3 : LB3 = LB ∨ ∃ i, LB3 = some i ∧ w2.heap.size ≤ i) :
    Ending.returned (.tuple #[.bool false, .int .i64 0]) = Ending.returned (.tuple #[.bool (false, (0 : Int), xs, ys ++ [(id, size)]).1, .int .i64 (false, (0 : Int), xs, ys ++ [(id, size)]).2.1]) ∧ Qu.Put w sb c b mb R LB (false, (0 : Int), xs, ys ++ [(id, size)]) (w3.setCell ⟨sb, 6, none⟩ V) := by
  have hf23 : Qu.Fr (fun i => LB = some i) w2 w3 := (((Qu.Fr.refl (fun i => LB = some i) w2).alloc o).trans (w2 := w3) (S1 := fun i => LB = some i) ⟨hf3.os, hf3.tape, hf3.output, hf3.size, hf3.block⟩ (fun _ _ h => h))
  have hb4 := Qu.blk_set hb3 6 V
  simp only [List.setIfInBounds_toArray, List.set_cons_succ, List.set_cons_zero] at hb4
  have hr3 : Qu.Ring w3 L k xs R := hr.keep (fun i hi => hf23.block i (hr.lt i hi) (fun h => hne i hi h))
  have hk3 := hk.keep (hf23.block mb hk.lt (fun h => by
    rcases hl with ⟨_, _, h0⟩ | ⟨lb, off, cap, arr, h0, _, _, _, h5, _⟩
    · rw [h0] at h; cases h
    · rw [h0] at h; injection h with h; exact hk.ne h5 h))
  refine ⟨rfl, R, LB3, ⟨L, k, V, hb4, hr3.keep (fun i hi => Below.heap_setCell _ _ _ _ (hr3.ne hb3 i hi)), hl3.keep (fun i hi => Below.heap_setCell _ _ _ _ (hl3.ne hb3 i hi)), ?_⟩, ?_, ?_, .inl rfl, ?_⟩
  · intro i hi h
    rcases hLB3 with h0 | ⟨j, h0, hj⟩
    · exact hne i hi (h0 ▸ h)
    · have := hr.lt i hi
      rw [h0] at h; injection h with h; omega
  · have := hk3.keep (w' := w3.setCell ⟨sb, 6, none⟩ V) (Below.heap_setCell _ _ _ _ (fun h => hk3.ne hb3 h.symm))
    simpa using this
  · refine ((hf2.mono (S' := fun i => i = sb ∨ R = some i ∨ LB = some i ∨ i = mb) (fun i _ h => .inr (.inr (.inr h)))).trans hf23 (fun i _ h => .inr (.inr (.inl h)))).setCell (p := ⟨sb, 6, none⟩) (fun _ => .inl rfl) V
  · rcases hLB3 with h0 | ⟨j, h0, hj⟩
    · exact .inl h0
    · exact .inr ⟨j, h0, by have := hf2.size; omega⟩
set_option maxHeartbeats 1000000 in
set_option maxRecDepth 100000 in
theorem put_any (sb c : Nat) (b : Int) (xs ys : List (Int × Int)) (mb : Nat) (R LB : Option Nat) (id size : Int) (w : World) (hc0 : 0 < c) (hc : c ≤ 1024) (hb0 : 0 ≤ b ∧ b ≤ 17000000)
    (hat : Qu.At w sb c b (Qu.sum xs) xs ys (.map (some mb)) R LB) (hk : Qu.Keys w mb ((xs ++ ys).map Prod.fst)) (hx : xs.length ≤ c) (hu : 0 ≤ Qu.sum xs ∧ Qu.sum xs ≤ b) (hy : ys.length ≤ 1024) (h64 : Qu.In64 id) :
    Calls Try.prog 10 #[.pointer (some ⟨sb, 0, none⟩), .int .i64 id, .int .i64 size] w fun e w' => e = .returned (.tuple #[.bool (Qu.putF c b xs ys id size).1, .int .i64 (Qu.putF c b xs ys id size).2.1]) ∧ Qu.Put w sb c b mb R LB (Qu.putF c b xs ys id size) w' := by
  have HAT := Lib.hid hat
  have HK := Lib.hid hk
  obtain ⟨L, k, LV, hb, hr, hl, hne⟩ := hat
  obtain ⟨c0, c1, c2, c3, c4, c5, c6, c7⟩ := Qu.cells8 hb
  obtain ⟨D, hD1, hD2, hD3⟩ := hk
  have hsb := Qu.blk_lt hb
  have hmb := hD1.lt
  have hmne := HK.out.ne hb
  have HB := Lib.hid hb
  have HR := Lib.hid hr
  have HL := Lib.hid hl
  have HNE := Lib.hid hne
  have HD1 := Lib.hid hD1
  have HD2 := Lib.hid hD2
  have HD3 := Lib.hid hD3
  have HWF := Lib.hid (Maps.keyOf_int_mk Try.underlying2 (Qu.In64.wf h64))
  obtain ⟨A, cp, hLV⟩ : ∃ A cp, LV = .slice A ys.length cp := by
    rcases hl with ⟨h, rfl, _⟩ | ⟨lb, off, cap, arr, _, h, _⟩
    · exact ⟨_, _, h⟩
    · exact ⟨_, _, h⟩
  subst hLV
  obtain ⟨hb1, hb2⟩ := hb0
  obtain ⟨hu1, hu2⟩ := hu
  clear hb hr hl hne hD1 hD2 hD3 h64
  unfold Qu.putF
  by_cases h0 : size < 0
  · rw [if_pos h0]
    go_enter Try.func10, Try.ntmps10
    go_wp2_with (go_at_call 32; refine (there_some' sb c _ c0 (by omega)).mono ?_; rintro e w1 ⟨rfl, rfl⟩)
    go_ret2
    exact ⟨rfl, R, LB, HAT.out, HK.out, Qu.Fr.refl _ _, .inl rfl, .inl rfl⟩
  rw [if_neg h0]
  by_cases h1 : b < size
  · rw [if_pos h1]
    go_enter Try.func10, Try.ntmps10
    go_wp2_with (first
      | (go_at_call 32; refine (there_some' sb c _ c0 (by omega)).mono ?_; rintro e w1 ⟨rfl, rfl⟩)
      | (at_lookup; refine wpList_lookup_own_unit _ rfl _ _ 77 rfl 2 82 Qu.law2 Try.underlying77 (Qu.zero82 _) mb _ D rfl HD1.out _ _ rfl HWF.out ?_))
    go_ret2
    exact ⟨rfl, R, LB, HAT.out.below ((Below.refl _ _).alloc (Nat.le_refl _) _), HK.out.keep (Below.heap_alloc _ _ _ hmb), (Qu.Fr.refl _ _).alloc _, .inl rfl, .inl rfl⟩
  rw [if_neg h1]
  have hd1 : decide (b < size) = false := by simpa using h1
  by_cases h2 : id ∈ (xs ++ ys).map Prod.fst
  · rw [if_pos h2]
    have hh : Maps.has D (.int .i64 id) = true := by rw [HD3.out]; exact decide_eq_true h2
    clear h2
    go_enter Try.func10, Try.ntmps10
    go_wp2_with (first
      | (go_at_call 32; refine (there_some' sb c _ c0 (by omega)).mono ?_; rintro e w1 ⟨rfl, rfl⟩)
      | (at_lookup; refine wpList_lookup_own_unit _ rfl _ _ 77 rfl 2 82 Qu.law2 Try.underlying77 (Qu.zero82 _) mb _ D rfl HD1.out _ _ rfl HWF.out ?_))
    go_ret2
    exact ⟨rfl, R, LB, HAT.out.below ((Below.refl _ _).alloc (Nat.le_refl _) _), HK.out.keep (Below.heap_alloc _ _ _ hmb), (Qu.Fr.refl _ _).alloc _, .inl rfl, .inl rfl⟩
  rw [if_neg h2]
  have hh : Maps.has D (.int .i64 id) = false := by rw [HD3.out]; exact decide_eq_false h2
  have H2 := Lib.hid h2
  clear h2
  by_cases h3 : 1024 ≤ ys.length
  · rw [if_pos h3]
    go_enter Try.func10, Try.ntmps10
    go_wp2_with (first
      | (go_at_call 32; refine (there_some' sb c _ c0 (by omega)).mono ?_; rintro e w1 ⟨rfl, rfl⟩)
      | (at_lookup; refine wpList_lookup_own_unit _ rfl _ _ 77 rfl 2 82 Qu.law2 Try.underlying77 (Qu.zero82 _) mb _ D rfl HD1.out _ _ rfl HWF.out ?_))
    go_ret2
    exact ⟨rfl, R, LB, HAT.out.below ((Below.refl _ _).alloc (Nat.le_refl _) _), HK.out.keep (Below.heap_alloc _ _ _ hmb), (Qu.Fr.refl _ _).alloc _, .inl rfl, .inl rfl⟩
  rw [if_neg h3]
  obtain ⟨F, hF⟩ : ∃ F, F = if ys.length = 0 ∧ Qu.roomB xs.length c size b (Qu.sum xs) = true then (true, (0 : Int), xs ++ [(id, size)], ([] : List (Int × Int))) else (false, 0, xs, ys ++ [(id, size)]) := ⟨_, rfl⟩
  rw [← hF]
  have HFF := Lib.hid hF
  clear hF
  have hN : (((xs ++ ys).map Prod.fst).length) < maxLen := by simp; unfold maxLen; omega
  have HN := Lib.hid hN
  clear hN
  go_enter Try.func10, Try.ntmps10
  go_wp2_with (first
      | (go_at_call 32; refine (there_some' sb c _ c0 (by omega)).mono ?_; rintro e w1 ⟨rfl, rfl⟩)
      | (at_lookup; refine wpList_lookup_own_unit _ rfl _ _ 77 rfl 2 82 Qu.law2 Try.underlying77 (Qu.zero82 _) mb _ D rfl HD1.out _ _ rfl HWF.out ?_)
      | (at_mapUpdate; refine wpList_mapUpdate_in _ rfl _ _ _ 77 rfl 2 82 Qu.law2 Try.underlying77 unitElem mb _ D rfl ((HD1.out.alloc _).alloc _) HN.out _ _ _ rfl rfl HWF.out _ [] unitElem_mk ?_))
  intro w1 hown1 hturn1
  have hgr : World.grownBy _ w1 (some mb) := hturn1.grown
  have hsz1 := hgr.size
  simp only [World.size_alloc] at hsz1
  have hfr1 : Qu.Fr (fun i => i = mb) w w1 := (((Qu.Fr.refl (fun i => i = mb) w).alloc _).alloc _).trans (Qu.Fr.of_grown (S := fun i => i = mb) hgr (fun i hi _ => by injection hi with hi; exact hi.symm)) (fun _ _ h => h)
  have hb1' : w1.heap[sb]? = _ := Qu.blk_fr HB.out hfr1 hmne
  have hx1 := Qu.blk_grown (Qu.new_at (W := w.alloc (Obj.cells #[] 82)) (o := Obj.cells #[Value.int IntKind.i64 id, Value.int IntKind.i64 size] 38) rfl) hgr (by simp; omega)
  simp only [World.size_alloc] at hx1
  have hk1 := Qu.Keys.put (w' := w1) HD1.out HD2.out HD3.out id H2.out (by simpa using hown1)
  have hr1 : Qu.Ring w1 L k xs R := HR.out.keep (fun i hi => hfr1.block i (HR.out.lt i hi) (fun h => by
    subst h
    rcases HR.out with ⟨_, _, _, h⟩ | ⟨rb, m, arr, h, _, _, _, _, h5, _⟩
    · rw [h] at hi; cases hi
    · rw [h] at hi; injection hi with hi; exact HK.out.ne h5 hi))
  have hl1 : Qu.Line w1 (.slice A ys.length cp) ys LB := HL.out.keep (fun i hi => hfr1.block i (HL.out.lt i hi) (fun h => by
    subst h
    rcases HL.out with ⟨_, _, h⟩ | ⟨lb, off, cap, arr, h, _, _, _, h5, _⟩
    · rw [h] at hi; cases hi
    · rw [h] at hi; injection hi with hi; exact HK.out.ne h5 hi))
  clear hown1 hturn1 hgr hh c0 c1 c2 c3 c4 c5 c6 c7
  obtain ⟨d0, d1, d2, d3, d4, d5, d6, d7⟩ := Qu.cells8 hb1'
  have x0 := Qu.blk_cell hx1 0
  have x1 := Qu.blk_cell hx1 1
  simp only [List.getElem?_toArray, List.getElem?_cons_succ, List.getElem?_cons_zero] at x0 x1
  have hroom := room_any sb xs.length c id size b (Qu.sum xs) w1 ⟨by omega, by omega⟩ ⟨by omega, by omega⟩ ⟨by omega, by omega⟩ d0 d1 d2 d5
  have HROOM := Lib.hid hroom
  have HB1 := Lib.hid hb1'
  have HX1 := Lib.hid hx1
  have HK1 := Lib.hid hk1
  have HR1 := Lib.hid hr1
  have HL1 := Lib.hid hl1
  have HF1 := Lib.hid hfr1
  have hyb : ((ys.length : Int) == 0) = decide (ys.length = 0) := by
    by_cases h : ys.length = 0
    · rw [decide_eq_true h]; exact beq_iff_eq.2 (by omega)
    · rw [decide_eq_false h]; exact beq_eq_false_iff_ne.2 (by omega)
  clear hb1' hx1 hk1 hr1 hl1 hfr1 hroom
  by_cases h4 : ys.length = 0 ∧ Qu.roomB xs.length c size b (Qu.sum xs) = true
  · have hFF := HFF.out
    rw [if_pos h4] at hFF
    have HF := Lib.hid hFF
    clear hFF
    obtain ⟨h5, h6⟩ := h4
    obtain rfl : ys = [] := List.eq_nil_of_length_eq_zero h5
    have H6 := Lib.hid h6
    clear h6 hyb
    go_wp2_with fail
    refine HROOM.out.mono ?_
    rw [H6.out]
    rintro e w2 ⟨rfl, hb2'⟩
    have hb22 : w2.heap[sb]? = _ := Qu.blk_below HB1.out hb2'
    have hx2 := Qu.blk_below HX1.out hb2'
    have hr2 : Qu.Ring w2 L k xs R := HR1.out.keep (fun i hi => hb2'.block i (HR1.out.lt i hi))
    have hl2 : Qu.Line w2 (.slice A 0 cp) [] LB := HL1.out.keep (fun i hi => hb2'.block i (HL1.out.lt i hi))
    have x0 := Qu.blk_cell hx2 0
    have x1 := Qu.blk_cell hx2 1
    simp only [List.getElem?_toArray, List.getElem?_cons_succ, List.getElem?_cons_zero] at x0 x1
    have HB2 := Lib.hid hb22
    have HR2 := Lib.hid hr2
    have HL2 := Lib.hid hl2
    have HBE := Lib.hid hb2'
    clear hb22 hx2 hr2 hl2 hb2'
    go_wp2_with (go_at_call 34; refine (hold_any sb L k xs R id size (Qu.sum xs) (.int .i64 c) (.int .i64 b) (.slice A 0 cp) (.map (some mb)) w2 (by omega) HB2.out HR2.out ⟨by omega, by omega⟩ ⟨by omega, by omega⟩).mono ?_; rintro e w3 ⟨rfl, hp⟩)
    go_ret2
    obtain ⟨L3, k3, R3, hb3, hr3, hf3, hR3⟩ := hp
    rw [HF.out]
    have hk2 := HK1.out.keep (HBE.out.block mb HK1.out.lt)
    have hmbR : ∀ i, R = some i → i ≠ mb := fun i hi h => by
      subst h
      rcases HR2.out with ⟨_, _, _, h⟩ | ⟨rb, m, arr, h, _, _, _, _, h5, _⟩
      · rw [h] at hi; cases hi
      · rw [h] at hi; injection hi with hi; exact hk2.ne h5 hi
    refine ⟨rfl, R3, LB, ⟨L3, k3, .slice A 0 cp, ?_, hr3, ?_, ?_⟩, ?_, ?_, ?_, .inl rfl⟩
    · rw [Qu.sum_append, Qu.sum_cons, Qu.sum_nil]
      simpa using hb3
    · exact HL2.out.keep (fun i hi => hf3.block i (HL2.out.lt i hi) (by
        rintro (h | h)
        · exact HL2.out.ne HB2.out i hi h
        · exact HNE.out i h hi))
    · intro i hi hl
      rcases hR3 with h | ⟨j, h, hj⟩
      · exact HNE.out i (h ▸ hi) hl
      · have := HL2.out.lt i hl
        rw [h] at hi; injection hi with hi; omega
    · have := hk2.keep (w' := w3) (hf3.block mb hk2.lt (by
        rintro (h | h)
        · exact hmne h.symm
        · exact hmbR mb h rfl))
      simpa using this
    · refine ((HF1.out.mono (S' := fun i => i = sb ∨ R = some i ∨ LB = some i ∨ i = mb) (fun i _ h => .inr (.inr (.inr h)))).trans (S1 := fun _ => False) (Qu.Fr.of_below HBE.out) (fun _ _ h => h.elim)).trans hf3 ?_
      rintro i _ (h | h)
      · exact .inl h
      · exact .inr (.inl h)
    · rcases hR3 with h | ⟨j, h, hj⟩
      · exact .inl h
      · exact .inr ⟨j, h, by have := HF1.out.size; have := HBE.out.size; omega⟩
  · have hFF := HFF.out
    rw [if_neg h4] at hFF
    have HF := Lib.hid hFF
    clear hFF
    by_cases h5 : ys.length = 0
    · have h6 : Qu.roomB xs.length c size b (Qu.sum xs) = false := by
        cases h : Qu.roomB xs.length c size b (Qu.sum xs)
        · rfl
        · exact absurd ⟨h5, h⟩ h4
      have H6 := Lib.hid h6
      obtain rfl : ys = [] := List.eq_nil_of_length_eq_zero h5
      clear h6 h4 hyb h5
      go_wp2_with fail
      refine HROOM.out.mono ?_
      rw [H6.out]
      rintro e w2 ⟨rfl, hb2'⟩
      go_wp2_with fail
      have hb22 : w2.heap[sb]? = _ := Qu.blk_below HB1.out hb2'
      have hx2 := Qu.blk_below HX1.out hb2'
      have hr2 : Qu.Ring w2 L k xs R := HR1.out.keep (fun i hi => hb2'.block i (HR1.out.lt i hi))
      have hl2 : Qu.Line w2 (.slice A ([] : List (Int × Int)).length cp) ([] : List (Int × Int)) LB := HL1.out.keep (fun i hi => hb2'.block i (HL1.out.lt i hi))
      have hk2 := HK1.out.keep (hb2'.block mb HK1.out.lt)
      have hf2 : Qu.Fr (fun i => i = mb) w w2 := HF1.out.trans (S1 := fun _ => False) (Qu.Fr.of_below hb2') (fun _ _ h => h.elim)
      have x0 := Qu.blk_cell hx2 0
      have x1 := Qu.blk_cell hx2 1
      simp only [List.getElem?_toArray, List.getElem?_cons_succ, List.getElem?_cons_zero] at x0 x1
      have c6 := (Qu.cells8 hb22).2.2.2.2.2.2.1
      have hsb2 := Qu.blk_lt hb22
      have HB2 := Lib.hid hb22
      have HR2 := Lib.hid hr2
      have HL2 := Lib.hid hl2
      have HK2 := Lib.hid hk2
      have HF2 := Lib.hid hf2
      clear hb22 hx2 hr2 hl2 hk2 hf2 hb2'
      go_region_law (refine Qu.step_append_line rfl (.tmp 70) (.tmp 72) 31 rfl Try.underlying31 Try.info38 _ ([] : List (Int × Int)) LB rfl w2.heap.size id size rfl (HL2.out.keep (fun i hi => Below.heap_alloc _ _ _ (HL2.out.lt i hi))) (heap_alloc_new _ _) (by first | omega | (simp <;> omega)) ?_; intro V w3 LB3 hl3 hf3 hLB3; obtain ⟨A3, cp3, rfl⟩ := hl3.slice; have hb3' := Qu.blk_fr (Qu.blk_alloc (w := { w2 with drawn := w2.drawn + 1 }) HB2.out _) hf3 (fun h => HL2.out.ne HB2.out sb h rfl); have c6 := (Qu.cells8 hb3').2.2.2.2.2.2.1; have f6 := Qu.blk_frozen hb3' 6; have HB3 := Lib.hid hb3'; have HL3 := Lib.hid hl3; have HF3 := Lib.hid hf3; have HLB3 := Lib.hid hLB3; clear hb3' hl3 hf3 hLB3)
      all_goals
        go_wp2
        go_ret2
        rw [HF.out]
        exact Qu.put_line_end (([] : List (Int × Int))) HK2.out HR2.out HL2.out HB2.out HF2.out HNE.out HB3.out (by simpa using HL3.out) HF3.out (HLB3.out.imp_right (fun ⟨i, h, hi⟩ => ⟨i, h, by simp at hi; omega⟩))
    · rw [decide_eq_false h5] at hyb
      obtain ⟨w2, hw2⟩ : ∃ w2, w2 = w1 := ⟨_, rfl⟩
      have hb2' : Below w1.heap.size w1 w2 := by rw [hw2]; exact Below.refl _ _
      rw [← hw2]
      go_wp2_with fail
      rw [← hw2]
      clear hw2
      have hb22 : w2.heap[sb]? = _ := Qu.blk_below HB1.out hb2'
      have hx2 := Qu.blk_below HX1.out hb2'
      have hr2 : Qu.Ring w2 L k xs R := HR1.out.keep (fun i hi => hb2'.block i (HR1.out.lt i hi))
      have hl2 : Qu.Line w2 (.slice A ys.length cp) ys LB := HL1.out.keep (fun i hi => hb2'.block i (HL1.out.lt i hi))
      have hk2 := HK1.out.keep (hb2'.block mb HK1.out.lt)
      have hf2 : Qu.Fr (fun i => i = mb) w w2 := HF1.out.trans (S1 := fun _ => False) (Qu.Fr.of_below hb2') (fun _ _ h => h.elim)
      have x0 := Qu.blk_cell hx2 0
      have x1 := Qu.blk_cell hx2 1
      simp only [List.getElem?_toArray, List.getElem?_cons_succ, List.getElem?_cons_zero] at x0 x1
      have c6 := (Qu.cells8 hb22).2.2.2.2.2.2.1
      have hsb2 := Qu.blk_lt hb22
      have HB2 := Lib.hid hb22
      have HR2 := Lib.hid hr2
      have HL2 := Lib.hid hl2
      have HK2 := Lib.hid hk2
      have HF2 := Lib.hid hf2
      clear hb22 hx2 hr2 hl2 hk2 hf2 hb2'
      go_region_law (refine Qu.step_append_line rfl (.tmp 70) (.tmp 72) 31 rfl Try.underlying31 Try.info38 _ ys LB rfl w2.heap.size id size rfl (HL2.out.keep (fun i hi => Below.heap_alloc _ _ _ (HL2.out.lt i hi))) (heap_alloc_new _ _) (by first | omega | (simp <;> omega)) ?_; intro V w3 LB3 hl3 hf3 hLB3; obtain ⟨A3, cp3, rfl⟩ := hl3.slice; have hb3' := Qu.blk_fr (Qu.blk_alloc (w := { w2 with drawn := w2.drawn + 1 }) HB2.out _) hf3 (fun h => HL2.out.ne HB2.out sb h rfl); have c6 := (Qu.cells8 hb3').2.2.2.2.2.2.1; have f6 := Qu.blk_frozen hb3' 6; have HB3 := Lib.hid hb3'; have HL3 := Lib.hid hl3; have HF3 := Lib.hid hf3; have HLB3 := Lib.hid hLB3; clear hb3' hl3 hf3 hLB3)
      all_goals
        go_wp2
        go_ret2
        rw [HF.out]
        exact Qu.put_line_end (ys) HK2.out HR2.out HL2.out HB2.out HF2.out HNE.out HB3.out (by simpa using HL3.out) HF3.out (HLB3.out.imp_right (fun ⟨i, h, hi⟩ => ⟨i, h, by simp at hi; omega⟩))
end Go.Proofs.Ytgdeoodihhcdjaa
