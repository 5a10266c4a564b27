/- The reference's Put and Look. -/
import Derived.Test.YtgdeoodihhcdjaaRc
namespace Go.Proofs.Ytgdeoodihhcdjaa
open Go.RowKit
set_option linter.unusedVariables false
set_option linter.unusedSimpArgs false

theorem Qu.RAt.set2 {w : World} {rb c : Nat} {b : Int} {V1 V2 V : Value} {xs ys : List (Int × Int)} {D1 D2 : Option Nat} (hb : w.heap[rb]? = some (.cells #[.int .i64 c, .int .i64 b, V1, V2] 90 (0, 0))) (h1 : Qu.Line w V xs D1) (h2 : Qu.Line w V2 ys D2) (hne : ∀ i, D1 = some i → D2 ≠ some i) :
    Qu.RAt (w.setCell ⟨rb, 2, none⟩ V) rb c b xs ys D1 D2 := by
  have hb5 := Qu.blk_set hb 2 V
  simp only [List.setIfInBounds_toArray, List.set_cons_succ, List.set_cons_zero] at hb5
  exact ⟨_, _, hb5, h1.keep (fun i hi => Below.heap_setCell _ _ _ _ (h1.ne90 hb i hi)), h2.keep (fun i hi => Below.heap_setCell _ _ _ _ (h2.ne90 hb i hi)), hne⟩
theorem Qu.RAt.set3 {w : World} {rb c : Nat} {b : Int} {V1 V2 V : Value} {xs ys : List (Int × Int)} {D1 D2 : Option Nat} (hb : w.heap[rb]? = some (.cells #[.int .i64 c, .int .i64 b, V1, V2] 90 (0, 0))) (h1 : Qu.Line w V1 xs D1) (h2 : Qu.Line w V ys D2) (hne : ∀ i, D1 = some i → D2 ≠ some i) :
    Qu.RAt (w.setCell ⟨rb, 3, none⟩ V) rb c b xs ys D1 D2 := by
  have hb5 := Qu.blk_set hb 3 V
  simp only [List.setIfInBounds_toArray, List.set_cons_succ, List.set_cons_zero] at hb5
  exact ⟨_, _, hb5, h1.keep (fun i hi => Below.heap_setCell _ _ _ _ (h1.ne90 hb i hi)), h2.keep (fun i hi => Below.heap_setCell _ _ _ _ (h2.ne90 hb i hi)), hne⟩

/-- What a call makes of the reference's memory. -/
def Qu.RTo (w : World) (rb c : Nat) (b : Int) (B1 B2 : Option Nat) (xs ys : List (Int × Int)) (w' : World) : Prop :=
  ∃ C1 C2, Qu.RAt w' rb c b xs ys C1 C2 ∧ Qu.Fr (fun i => i = rb ∨ B1 = some i ∨ B2 = some i) w w' ∧ (C1 = B1 ∨ ∀ i, C1 = some i → w.heap.size ≤ i) ∧ (C2 = B2 ∨ ∀ i, C2 = some i → w.heap.size ≤ i)
theorem Qu.RTo.refl {w : World} {rb c : Nat} {b : Int} {B1 B2 : Option Nat} {xs ys : List (Int × Int)} (h : Qu.RAt w rb c b xs ys B1 B2) (n : Nat) : Qu.RTo w rb c b B1 B2 xs ys (w.drewN n) :=
  ⟨B1, B2, h, (Qu.Fr.refl _ w).drewN n, .inl rfl, .inl rfl⟩
theorem Qu.RTo.of_drewN {w : World} {rb c : Nat} {b : Int} {B1 B2 : Option Nat} {xs ys : List (Int × Int)} {w' : World} {n : Nat} (h : Qu.RTo (w.drewN n) rb c b B1 B2 xs ys w') : Qu.RTo w rb c b B1 B2 xs ys w' := by
  obtain ⟨C1, C2, h1, h2, h3, h4⟩ := h
  exact ⟨C1, C2, h1, ⟨h2.os, h2.tape, h2.output, h2.size, h2.block⟩, h3, h4⟩
theorem Qu.rput_held {w w3 : World} {rb c : Nat} {b : Int} {xs ys : List (Int × Int)} {p : Int × Int} {V1 V2 : Value} {A3 : Option Addr} {cp3 : Nat} {B1 B2 D1 : Option Nat} {o : Obj}
    (hb : w.heap[rb]? = some (.cells #[.int .i64 c, .int .i64 b, V1, V2] 90 (0, 0))) (hl2 : Qu.Line w V2 ys B2) (hne : ∀ i, B1 = some i → B2 ≠ some i)
    (hb3 : w3.heap[rb]? = some (.cells #[.int .i64 c, .int .i64 b, V1, V2] 90 (0, 0))) (hl3 : Qu.Line w3 (.slice A3 (xs ++ [p]).length cp3) (xs ++ [p]) D1) (hf3 : Qu.Fr (fun i => B1 = some i) (w.alloc o) w3) (hD1 : D1 = B1 ∨ ∃ i, D1 = some i ∧ (w.alloc o).heap.size ≤ i) :
    Qu.RTo w rb c b B1 B2 (xs ++ [p]) ys (w3.setCell ⟨rb, 2, none⟩ (.slice A3 (xs.length + 1) cp3)) := by
  have hlen : xs.length + 1 = (xs ++ [p]).length := by simp
  rw [hlen]
  have hf : Qu.Fr (fun i => B1 = some i) w w3 := ((Qu.Fr.refl (fun i => B1 = some i) w).alloc o).trans hf3 (fun _ _ h => h)
  replace hD1 : D1 = B1 ∨ ∀ i, D1 = some i → w.heap.size ≤ i := hD1.imp_right (fun ⟨i, h, hi⟩ j hj => by rw [h] at hj; injection hj with hj; simp at hi; omega)
  refine ⟨D1, B2, Qu.RAt.set2 hb3 hl3 (hl2.keep (fun i hi => hf.block i (hl2.lt i hi) (fun h => hne i h hi))) ?_, (hf.mono (fun k _ h => .inr (.inl h))).setCell (p := ⟨rb, 2, none⟩) (fun _ => .inl rfl) _, hD1, .inl rfl⟩
  intro i hi h2
  rcases hD1 with h | h
  · exact hne i (h ▸ hi) h2
  · have := h i hi; have := hl2.lt i h2; omega
theorem Qu.rput_line {w w3 : World} {rb c : Nat} {b : Int} {xs ys : List (Int × Int)} {p : Int × Int} {V1 V2 : Value} {A3 : Option Addr} {cp3 : Nat} {B1 B2 D2 : Option Nat} {o : Obj}
    (hb : w.heap[rb]? = some (.cells #[.int .i64 c, .int .i64 b, V1, V2] 90 (0, 0))) (hl1 : Qu.Line w V1 xs B1) (hne : ∀ i, B1 = some i → B2 ≠ some i)
    (hb3 : w3.heap[rb]? = some (.cells #[.int .i64 c, .int .i64 b, V1, V2] 90 (0, 0))) (hl3 : Qu.Line w3 (.slice A3 (ys ++ [p]).length cp3) (ys ++ [p]) D2) (hf3 : Qu.Fr (fun i => B2 = some i) (w.alloc o) w3) (hD2 : D2 = B2 ∨ ∃ i, D2 = some i ∧ (w.alloc o).heap.size ≤ i) :
    Qu.RTo w rb c b B1 B2 xs (ys ++ [p]) (w3.setCell ⟨rb, 3, none⟩ (.slice A3 (ys.length + 1) cp3)) := by
  have hlen : ys.length + 1 = (ys ++ [p]).length := by simp
  rw [hlen]
  have hf : Qu.Fr (fun i => B2 = some i) w w3 := ((Qu.Fr.refl (fun i => B2 = some i) w).alloc o).trans hf3 (fun _ _ h => h)
  replace hD2 : D2 = B2 ∨ ∀ i, D2 = some i → w.heap.size ≤ i := hD2.imp_right (fun ⟨i, h, hi⟩ j hj => by rw [h] at hj; injection hj with hj; simp at hi; omega)
  refine ⟨B1, D2, Qu.RAt.set3 hb3 (hl1.keep (fun i hi => hf.block i (hl1.lt i hi) (fun h => hne i hi h))) hl3 ?_, (hf.mono (fun k _ h => .inr (.inr h))).setCell (p := ⟨rb, 3, none⟩) (fun _ => .inl rfl) _, .inl rfl, hD2⟩
  intro i hi h2
  rcases hD2 with h | h
  · exact hne i hi (h ▸ h2)
  · have := h i h2; have := hl1.lt i hi; omega

theorem Qu.wpList_append_line {P : Program} (w : World) {ops : Array Oper} {rest : List Oper} {o : Oper} {a : Act} {Q : Exit → Act → World → Prop} (hgd : o.guard = none) (s x : Operand) (t : TypeId)
    (ho : o.op = .call { callee := .builtin .append, args := #[s, x], argTypes := #[t, t] }) (ht : P.underlying t = some (.slice 38))
    (hinfo : (P.info? 38).map (fun i => (i.zero, i.size, i.bytes)) = some (some (.agg #[.int .i64 0, .int .i64 0]), 2, 16))
    (V : Value) (ys : List (Int × Int)) (LB : Option Nat) (hs : a.eval s = V) (g : Nat) (px py : Int) (hx : a.eval x = .slice (some ⟨g, 0, none⟩) 1 1) (hline : Qu.Line w V ys LB)
    (hg : w.heap[g]? = some (.cells #[.int .i64 px, .int .i64 py] 38 (0, 0))) (hn : ys.length ≤ 100000)
    (h : ∀ V' w' LB', Qu.Line w' V' (ys ++ [(px, py)]) LB' → Qu.Fr (fun i => LB = some i) w w' → (LB' = LB ∨ ∃ i, LB' = some i ∧ w.heap.size ≤ i) → wpList P ops Q rest (a.put o.dst V') w') : wpList P ops Q (o :: rest) a w := by
  refine wpList_plain hgd fun K hK => ?_
  obtain ⟨V', w', LB', hrun, h1, h2, h3⟩ := Qu.run_append_line (P := P) w t o.type ht hinfo V ys LB hline g px py hg hn
  unfold Oper.wp
  simp [execOp, ho, resolve, invoke, builtin, hs, hx, hrun, Result.andThen]
  exact hK _ _ (h V' w' LB' h1 h2 h3)

set_option maxHeartbeats 1000000 in
set_option maxRecDepth 100000 in
theorem rput_any (rb c : Nat) (b : Int) (xs ys : List (Int × Int)) (B1 B2 : Option Nat) (id size : Int) (w : World) (hc : c ≤ 1024) (hb0 : 0 ≤ b ∧ b ≤ 17000000)
    (hat : Qu.RAt w rb c b xs ys B1 B2) (hx : xs.length ≤ c) (hu : Qu.sum xs ≤ b) (hpx : ∀ p ∈ xs, 0 ≤ p.2) (hy : ys.length ≤ 1024) :
    Calls Try.prog 15 #[.pointer (some ⟨rb, 0, none⟩), .int .i64 id, .int .i64 size] w fun e w' => e = .returned (.tuple #[.bool (Qu.putF c b xs ys id size).1, .int .i64 (Qu.putF c b xs ys id size).2.1]) ∧ Qu.RTo w rb c b B1 B2 (Qu.putF c b xs ys id size).2.2.1 (Qu.putF c b xs ys id size).2.2.2 w' := by
  have HAT := Lib.hid hat
  have hroom := fun y hy => rroom_any rb c b y xs ys B1 B2 w hat hpx hu hb0 (by omega) hy
  obtain ⟨V1, V2, hblk, hl1, hl2, hne⟩ := hat
  have HHAS1 := Lib.hid (has_any V1 xs B1 id w hl1 (by omega))
  have HHAS2 := Lib.hid (has_any V2 ys B2 id w hl2 (by omega))
  have HL1 := Lib.hid hl1
  have HL2 := Lib.hid hl2
  have HNE := Lib.hid hne
  have HBLK := Lib.hid hblk
  have HROOM := Lib.hid hroom
  obtain ⟨c0, c1, c2, c3⟩ := Qu.cells4 hblk
  have hrb := Qu.blk_lt hblk
  obtain ⟨A1, cp1, rfl⟩ := hl1.slice
  obtain ⟨A2, cp2, rfl⟩ := hl2.slice
  obtain ⟨F, hF⟩ : ∃ F, F = Qu.putF c b xs ys id size := ⟨_, rfl⟩
  rw [← hF]
  have HF := Lib.hid hF
  clear hl1 hl2 hne hroom hF hblk hpx
  by_cases h1 : size < 0
  · have hv : F = (false, 1, xs, ys) := by rw [HF.out, Qu.putF, if_pos h1]
    rw [hv]
    clear hv HF
    go_enter Try.func15, Try.ntmps15
    go_wp2
    go_ret2
    exact ⟨rfl, Qu.RTo.refl HAT.out 0⟩
  by_cases h2 : b < size
  · have hv : F = (false, 3, xs, ys) := by rw [HF.out, Qu.putF, if_neg h1, if_pos h2]
    rw [hv]
    clear hv HF
    go_enter Try.func15, Try.ntmps15
    go_wp2
    go_ret2
    exact ⟨rfl, Qu.RTo.refl HAT.out 0⟩
  have HROOM2 := Lib.hid (HROOM.out size ⟨by omega, by omega⟩)
  clear HROOM
  by_cases h3 : id ∈ (xs ++ ys).map Prod.fst
  · have hv : F = (false, 7, xs, ys) := by rw [HF.out, Qu.putF, if_neg h1, if_neg h2, if_pos h3]
    rw [hv]
    clear hv HF
    by_cases h3x : id ∈ xs.map Prod.fst
    · have hd : decide (id ∈ xs.map Prod.fst) = true := decide_eq_true h3x
      rw [hd] at HHAS1
      clear hd h3 h3x
      go_enter Try.func15, Try.ntmps15
      go_wp2_with (go_at_call 39; with_reducible refine HHAS1.out.mono ?_; rintro e w1 ⟨rfl, rfl⟩)
      go_ret2
      exact ⟨rfl, Qu.RTo.refl HAT.out 0⟩
    · have h3y : id ∈ ys.map Prod.fst := by
        rw [List.map_append, List.mem_append] at h3
        exact h3.resolve_left h3x
      have hd : decide (id ∈ xs.map Prod.fst) = false := decide_eq_false h3x
      have hd2 : decide (id ∈ ys.map Prod.fst) = true := decide_eq_true h3y
      rw [hd] at HHAS1
      rw [hd2] at HHAS2
      clear hd hd2 h3 h3x h3y
      go_enter Try.func15, Try.ntmps15
      go_wp2_with (first
        | (go_at_call 39; with_reducible refine HHAS1.out.mono ?_; rintro e w1 ⟨rfl, rfl⟩)
        | (go_at_call 39; with_reducible refine HHAS2.out.mono ?_; rintro e w1 ⟨rfl, rfl⟩))
      go_ret2
      exact ⟨rfl, Qu.RTo.refl HAT.out 0⟩
  have h3x : id ∉ xs.map Prod.fst := fun h => h3 (by rw [List.map_append, List.mem_append]; exact .inl h)
  have h3y : id ∉ ys.map Prod.fst := fun h => h3 (by rw [List.map_append, List.mem_append]; exact .inr h)
  rw [decide_eq_false h3x] at HHAS1
  rw [decide_eq_false h3y] at HHAS2
  clear h3x h3y
  by_cases h4 : 1024 ≤ ys.length
  · have hv : F = (false, 9, xs, ys) := by rw [HF.out, Qu.putF, if_neg h1, if_neg h2, if_neg h3, if_pos h4]
    rw [hv]
    have h4e : ((ys.length : Int) == 1024) = true := by rw [beq_iff_eq]; omega
    have h4f : (ys.length == 1024) = true := by rw [beq_iff_eq]; omega
    clear hv HF h3 h4
    go_enter Try.func15, Try.ntmps15
    go_wp2_with (first
      | (go_at_call 39; with_reducible refine HHAS1.out.mono ?_; rintro e w1 ⟨rfl, rfl⟩)
      | (go_at_call 39; with_reducible refine HHAS2.out.mono ?_; rintro e w1 ⟨rfl, rfl⟩))
    go_ret2
    exact ⟨rfl, Qu.RTo.refl HAT.out 0⟩
  have hns : ((ys.length : Int) == 1024) = false := by rw [beq_eq_false_iff_ne]; omega
  have hns2 : (ys.length == 1024) = false := by rw [beq_eq_false_iff_ne]; omega
  by_cases h5 : ys.length = 0 ∧ Qu.roomB xs.length c size b (Qu.sum xs) = true
  · obtain ⟨h5, h6⟩ := h5
    obtain rfl : ys = [] := List.eq_nil_of_length_eq_zero h5
    have hv : F = (true, 0, xs ++ [(id, size)], []) := by rw [HF.out, Qu.putF, if_neg h1, if_neg h2, if_neg h3, if_neg h4, if_pos ⟨h5, h6⟩]
    rw [hv]
    rw [h6] at HROOM2
    clear hv HF h3 h6
    go_enter Try.func15, Try.ntmps15
    go_wp2_with (first
      | (go_at_call 39; with_reducible refine HHAS1.out.mono ?_; rintro e w1 ⟨rfl, rfl⟩)
      | (go_at_call 39; refine HHAS2.out.mono ?_; rintro e w1 ⟨rfl, rfl⟩)
      | (go_at_call 40; refine HROOM2.out.mono ?_; rintro e w1 ⟨rfl, nd, rfl⟩)
      | (at_builtin; refine Qu.wpList_append_line _ rfl (.tmp 55) (.tmp 59) 31 rfl Try.underlying31 Try.info38 _ xs B1 rfl w.heap.size id size rfl (((HL1.out.drewN nd).keep (fun i hi => Below.heap_alloc _ _ _ (HL1.out.lt i hi)))) (heap_alloc_new _ _) (by omega) ?_; intro V w3 D1 hl3 hf3 hD1; obtain ⟨A3, cp3, rfl⟩ := hl3.slice; have hb3 := Qu.blk_fr (Qu.blk_alloc (w := w.drewN nd) HBLK.out _) hf3 (fun h => HL1.out.ne90 HBLK.out rb h rfl); have e2 := (Qu.cells4 hb3).2.2.1; have f2 := Qu.blk_frozen hb3 2))
    go_ret2
    exact ⟨rfl, Qu.RTo.of_drewN (n := nd) (Qu.rput_held (w := w.drewN nd) HBLK.out HL2.out HNE.out hb3 hl3 hf3 hD1)⟩
  · have hv : F = (false, 0, xs, ys ++ [(id, size)]) := by rw [HF.out, Qu.putF, if_neg h1, if_neg h2, if_neg h3, if_neg h4, if_neg h5]
    rw [hv]
    clear hv HF h3
    by_cases h6 : ys.length = 0
    · have h7 : Qu.roomB xs.length c size b (Qu.sum xs) = false := by
        cases h : Qu.roomB xs.length c size b (Qu.sum xs)
        · rfl
        · exact absurd ⟨h6, h⟩ h5
      obtain rfl : ys = [] := List.eq_nil_of_length_eq_zero h6
      rw [h7] at HROOM2
      clear h5 h6 h7
      go_enter Try.func15, Try.ntmps15
      go_wp2_with (first
        | (go_at_call 39; with_reducible refine HHAS1.out.mono ?_; rintro e w1 ⟨rfl, rfl⟩)
        | (go_at_call 39; refine HHAS2.out.mono ?_; rintro e w1 ⟨rfl, rfl⟩)
        | (go_at_call 40; refine HROOM2.out.mono ?_; rintro e w1 ⟨rfl, nd, rfl⟩)
        | (at_builtin; refine Qu.wpList_append_line _ rfl (.tmp 67) (.tmp 71) 31 rfl Try.underlying31 Try.info38 _ [] B2 rfl w.heap.size id size rfl (((HL2.out.drewN nd).keep (fun i hi => Below.heap_alloc _ _ _ (HL2.out.lt i hi)))) (heap_alloc_new _ _) (by decide) ?_; intro V w3 D1 hl3 hf3 hD1; obtain ⟨A3, cp3, rfl⟩ := hl3.slice; have hb3 := Qu.blk_fr (Qu.blk_alloc (w := w.drewN nd) HBLK.out _) hf3 (fun h => HL2.out.ne90 HBLK.out rb h rfl); have e3 := (Qu.cells4 hb3).2.2.2; have f3 := Qu.blk_frozen hb3 3))
      go_ret2
      exact ⟨rfl, Qu.RTo.of_drewN (n := nd) (Qu.rput_line (w := w.drewN nd) HBLK.out HL1.out HNE.out hb3 hl3 hf3 hD1)⟩
    · have hns3 : ((ys.length : Int) == 0) = false := by rw [beq_eq_false_iff_ne]; omega
      have hns4 : (ys.length == 0) = false := by rw [beq_eq_false_iff_ne]; omega
      clear h5 HROOM2
      go_enter Try.func15, Try.ntmps15
      go_wp2_with (first
        | (go_at_call 39; with_reducible refine HHAS1.out.mono ?_; rintro e w1 ⟨rfl, rfl⟩)
        | (go_at_call 39; refine HHAS2.out.mono ?_; rintro e w1 ⟨rfl, rfl⟩)
        | (at_builtin; refine Qu.wpList_append_line _ rfl (.tmp 67) (.tmp 71) 31 rfl Try.underlying31 Try.info38 _ ys B2 rfl w.heap.size id size rfl ((HL2.out.keep (fun i hi => Below.heap_alloc _ _ _ (HL2.out.lt i hi)))) (heap_alloc_new _ _) (by omega) ?_; intro V w3 D1 hl3 hf3 hD1; obtain ⟨A3, cp3, rfl⟩ := hl3.slice; have hb3 := Qu.blk_fr (Qu.blk_alloc (w := w) HBLK.out _) hf3 (fun h => HL2.out.ne90 HBLK.out rb h rfl); have e3 := (Qu.cells4 hb3).2.2.2; have f3 := Qu.blk_frozen hb3 3))
      go_ret2
      exact ⟨rfl, Qu.rput_line HBLK.out HL1.out HNE.out hb3 hl3 hf3 hD1⟩

set_option maxRecDepth 100000 in
theorem rlook_any (rb c : Nat) (b : Int) (xs ys : List (Int × Int)) (B1 B2 : Option Nat) (w : World)
    (hat : Qu.RAt w rb c b xs ys B1 B2) (hn : xs.length ≤ 2000) (hy : ys.length ≤ 2000) (hu : Qu.sum xs ≤ 17000000) (hpx : ∀ p ∈ xs, 0 ≤ p.2) :
    Calls Try.prog 48 #[.pointer (some ⟨rb, 0, none⟩)] w fun e w' => e = .returned (.agg #[.int .i64 xs.length, .int .i64 (Qu.sum xs), .int .i64 ys.length]) ∧ Below w.heap.size w w' := by
  obtain ⟨V1, V2, hblk, hl1, hl2, hne⟩ := hat
  have hrb := Qu.blk_lt hblk
  go_enter Try.func48, Try.ntmps48
  go_wp2
  obtain ⟨w1, hw1⟩ : ∃ w1, w1 = w.alloc (.cells #[.int .i64 0, .int .i64 0, .int .i64 0] 40 (0, 0)) := ⟨_, rfl⟩
  obtain ⟨n, hn0⟩ : ∃ n, n = w.heap.size := ⟨_, rfl⟩
  rw [← hw1, ← hn0]
  have hb1 : Below n w w1 := by rw [hw1]; exact (Below.refl _ _).alloc (Nat.le_of_eq hn0) _
  have hbn : w1.heap[n]? = some (.cells #[.int .i64 0, .int .i64 0, .int .i64 0] 40 (0, 0)) := by rw [hw1]; exact Qu.new_at hn0
  have hblk1 := Qu.blk_below hblk (hn0 ▸ hb1)
  have HSUM := Lib.hid (sum_q V1 xs B1 w1 (hl1.keep (fun i hi => hb1.block i (by rw [hn0]; exact hl1.lt i hi))) hpx hu (by omega))
  have HB1 := Lib.hid hb1
  rw [← hn0] at hrb
  obtain ⟨c0, c1, c2, c3⟩ := Qu.cells4 hblk1
  have hrb1 := Qu.blk_lt hblk1
  have hn1 := Qu.blk_lt hbn
  have x0 := Qu.blk_cell hbn 0
  have x1 := Qu.blk_cell hbn 1
  have x2 := Qu.blk_cell hbn 2
  simp only [List.getElem?_toArray, List.getElem?_cons_succ, List.getElem?_cons_zero] at x0 x1 x2
  have f0 := Qu.blk_frozen hbn 0
  have f1 := Qu.blk_frozen hbn 1
  have f2 := Qu.blk_frozen hbn 2
  obtain ⟨A1, cp1, rfl⟩ := hl1.slice
  obtain ⟨A2, cp2, rfl⟩ := hl2.slice
  have HBN := Lib.hid hbn
  have HN0 := Lib.hid hn0
  clear hl1 hl2 hne hpx hblk hblk1 hw1 hb1 hbn hn0
  refine wp_region_still_tail 16 (by kernel_rfl) (by kernel_rfl) ?_
  simp only [List.take_succ_cons, List.take_zero, List.drop_succ_cons, List.drop_zero]
  repeat still_step
  still_call (HSUM.out 1)
  repeat still_step
  refine wpStill_nil ?_
  go_wp2
  have hb5 := Qu.blk_set (Qu.blk_set (Qu.blk_set HBN.out 0 (.int .i64 xs.length)) 1 (.int .i64 (Qu.sum xs))) 2 (.int .i64 ys.length)
  simp only [List.setIfInBounds_toArray, List.set_cons_succ, List.set_cons_zero] at hb5
  have hb6 : Below w.heap.size w (((w1.setCell ⟨n, 0, none⟩ (.int .i64 xs.length)).setCell ⟨n, 1, none⟩ (.int .i64 (Qu.sum xs))).setCell ⟨n, 2, none⟩ (.int .i64 ys.length)) := by
    rw [← HN0.out]
    exact (((HB1.out.setCell (p := ⟨n, 0, none⟩) (Nat.le_refl _) _).setCell (p := ⟨n, 1, none⟩) (Nat.le_refl _) _).setCell (p := ⟨n, 2, none⟩) (Nat.le_refl _) _)
  generalize ((w1.setCell ⟨n, 0, none⟩ (.int .i64 xs.length)).setCell ⟨n, 1, none⟩ (.int .i64 (Qu.sum xs))).setCell ⟨n, 2, none⟩ (.int .i64 ys.length) = w5 at hb5 hb6 ⊢
  have y0 := Qu.blk_cell hb5 0
  have y1 := Qu.blk_cell hb5 1
  have y2 := Qu.blk_cell hb5 2
  simp only [List.getElem?_toArray, List.getElem?_cons_succ, List.getElem?_cons_zero] at y0 y1 y2
  exact bodyPost_ret (v := .agg #[.int .i64 xs.length, .int .i64 (Qu.sum xs), .int .i64 ys.length]) (by simp [results, Try.results48, go_sem, y0, y1, y2]) rfl ⟨rfl, hb6.drew⟩
end Go.Proofs.Ytgdeoodihhcdjaa
