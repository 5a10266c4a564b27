/- The contracts of New, Look, Line. -/
import Derived.Test.YtgdeoodihhcdjaaQk
namespace Go.Proofs.Ytgdeoodihhcdjaa
open Go.RowKit
set_option linter.unusedVariables false
set_option linter.unusedSimpArgs false

theorem Qu.run_append_all {P : Program} (w : World) (t ty : TypeId) (ht : P.underlying t = some (.slice 38))
    (hinfo : (P.info? 38).map (fun i => (i.zero, i.size, i.bytes)) = some (some (.agg #[.int .i64 0, .int .i64 0]), 2, 16))
    (V : Value) (ys : List (Int × Int)) (LB : Option Nat) (hline : Qu.Line w V ys LB) (hn : ys.length ≤ 100000) :
    ∃ v' w', (Builtin.append_ #[t, t] ty #[.slice none 0 0, V]).run P w = .ok v' w' ∧ w'.ownsRow w.heap.size 38 2 v' ys.length (Qu.enc ys) ∧ Below w.heap.size w w' := by
  obtain ⟨i0, hi, hz0, hz1, hz2⟩ := info_parts hinfo
  rcases hline with ⟨rfl, rfl, rfl⟩ | ⟨lb, off, cap, arr, rfl, rfl, hcap, hcm, hlb, hoff, hrd⟩
  · refine ⟨.slice none 0 0, w, ?_, World.ownsRow_nil _ _ _ _, Below.refl _ _⟩
    simp [Builtin.append_, run_underlying ht, sizeOf, typeInfo, hi, Builtin.lenOf, Builtin.firstCells]
  · have hcells : ∀ j u, (Qu.enc ys)[j]? = some u → w.cell? ((⟨lb, off, none⟩ : Addr).add j) = some u := by
      intro j u hj
      rw [Addr.add_lit, Qu.blk_cell hlb]
      have hjl : j < ys.length * 2 := by rw [← Qu.enc_length]; exact (List.getElem?_eq_some_iff.1 hj).1
      obtain ⟨r0, r1⟩ := hrd (j / 2) (by omega)
      obtain ⟨e0, e1⟩ := Qu.enc_get ys (j / 2) (by omega)
      by_cases hp : j % 2 = 0
      · have ej : j / 2 * 2 = j := by omega
        rw [ej] at r0 e0
        rw [r0, ← e0, hj]
      · have ej : j / 2 * 2 + 1 = j := by omega
        rw [ej] at e1
        rw [show off + j = off + j / 2 * 2 + 1 from by omega, r1, ← e1, hj]
    obtain ⟨v', w', hrun, hown, hgr, _⟩ := run_append_own (P := P) w w.heap.size t ty 38 i0 _ 2 16 ht hi hz0 hz1 hz2 rfl (by decide) _ 0 [] (World.ownsRow_nil _ _ _ _) ⟨lb, off, none⟩ ys.length cap (Qu.enc ys) (Qu.enc_length ys) hcells (Qu.enc_oneCell ys) (by unfold maxLen; omega) (by omega) (Nat.le_refl _)
    exact ⟨v', w', hrun, by simpa using hown, (Below.refl _ _).grown hgr (Nat.le_refl _) (fun k hk => by cases hk)⟩
theorem Qu.wpList_append_all {P : Program} (w : World) {ops : Array Oper} {rest : List Oper} {o : Oper} {a : Act} {Q : Exit → Act → World → Prop} (hgd : o.guard = none) (s x : Operand) (t : TypeId)
    (ho : o.op = .call { callee := .builtin .append, args := #[s, x], argTypes := #[t, t] }) (ht : P.underlying t = some (.slice 38))
    (hinfo : (P.info? 38).map (fun i => (i.zero, i.size, i.bytes)) = some (some (.agg #[.int .i64 0, .int .i64 0]), 2, 16))
    (hs : a.eval s = .slice none 0 0) (V : Value) (ys : List (Int × Int)) (LB : Option Nat) (hx : a.eval x = V) (hline : Qu.Line w V ys LB) (hn : ys.length ≤ 100000)
    (h : ∀ v' w', w'.ownsRow w.heap.size 38 2 v' ys.length (Qu.enc ys) → Below w.heap.size w w' → wpList P ops Q rest (a.put o.dst v') w') : wpList P ops Q (o :: rest) a w := by
  refine wpList_plain hgd fun K hK => ?_
  obtain ⟨v', w', hrun, h1, h2⟩ := Qu.run_append_all (P := P) w t o.type ht hinfo V ys LB hline hn
  unfold Oper.wp
  simp [execOp, ho, resolve, invoke, builtin, hs, hx, hrun, Result.andThen]
  exact hK _ _ (h v' w' h1 h2)

theorem line_nil (w : World) : Calls Try.prog 13 #[.pointer none] w fun e w' => e = .returned (.slice none 0 0) ∧ w = w' := by
  go_enter Try.func13, Try.ntmps13
  go_wp2_with (go_at_call 32; refine (there_nil w).mono ?_; rintro e w1 ⟨rfl, rfl⟩)
  go_ret
  exact ⟨rfl, rfl⟩
theorem line_any (sb c : Nat) (b u : Int) (xs ys : List (Int × Int)) (MV : Value) (R LB : Option Nat) (w : World) (hc0 : 0 < c) (hat : Qu.At w sb c b u xs ys MV R LB) (hy : ys.length ≤ 2000) :
    Calls Try.prog 13 #[.pointer (some ⟨sb, 0, none⟩)] w fun e w' => ∃ v, e = .returned v ∧ w'.ownsRow w.heap.size 38 2 v ys.length (Qu.enc ys) ∧ Below w.heap.size w w' := by
  obtain ⟨L, k, LV, hb, hr, hl, hne⟩ := hat
  obtain ⟨c0, c1, c2, c3, c4, c5, c6, c7⟩ := Qu.cells8 hb
  have HL := Lib.hid hl
  clear hb hr hl hne c1 c2 c3 c4 c5 c7
  go_enter Try.func13, Try.ntmps13
  go_wp2_with (first
    | (go_at_call 32; refine (there_some' sb c _ c0 (by omega)).mono ?_; rintro e w1 ⟨rfl, rfl⟩)
    | (at_builtin; refine Qu.wpList_append_all _ rfl _ (.tmp 9) 31 rfl Try.underlying31 Try.info38 rfl LV ys LB rfl HL.out (by omega) ?_; intro v w2 hown hb2))
  go_ret
  exact ⟨_, rfl, hown, hb2⟩

theorem look_nil (w : World) : Calls Try.prog 12 #[.pointer none] w fun e w' => e = .returned (.agg #[.int .i64 0, .int .i64 0, .int .i64 0]) ∧ Below w.heap.size w w' := by
  go_enter Try.func12, Try.ntmps12
  go_wp2_with (go_at_call 32; refine (there_nil _).mono ?_; rintro e w1 ⟨rfl, rfl⟩)
  exact bodyPost_ret (v := .agg #[.int .i64 0, .int .i64 0, .int .i64 0]) (by simp [results, Try.results12, go_sem]) rfl ⟨rfl, (Below.refl _ _).alloc (Nat.le_refl _) _⟩
set_option maxRecDepth 100000 in
theorem look_any (sb c : Nat) (b u : Int) (xs ys : List (Int × Int)) (MV : Value) (R LB : Option Nat) (w : World) (hc0 : 0 < c) (hat : Qu.At w sb c b u xs ys MV R LB) (hx : xs.length ≤ 2000) (hy : ys.length ≤ 2000) :
    Calls Try.prog 12 #[.pointer (some ⟨sb, 0, none⟩)] w fun e w' => e = .returned (.agg #[.int .i64 xs.length, .int .i64 u, .int .i64 ys.length]) ∧ Below w.heap.size w w' := by
  obtain ⟨L, k, LV, hb, hr, hl, hne⟩ := hat
  obtain ⟨c0, c1, c2, c3, c4, c5, c6, c7⟩ := Qu.cells8 hb
  have hsb := Qu.blk_lt hb
  obtain ⟨A, cp, rfl⟩ := hl.slice
  clear hb hr hl hne c1 c3 c4 c7
  have hthere : ∀ o, Calls Try.prog 32 #[.pointer (some ⟨sb, 0, none⟩)] (w.alloc o) fun e w' => e = .returned (.bool true) ∧ w.alloc o = w' := fun o => there_some' sb c _ (by rw [World.cell?_alloc_past _ _ _ hsb]; exact c0) (by omega)
  have HT := Lib.hid hthere
  clear hthere
  go_enter Try.func12, Try.ntmps12
  go_wp2_with (go_at_call 32; refine (HT.out _).mono ?_; rintro e w1 ⟨rfl, rfl⟩)
  go_region
  go_wp2
  exact bodyPost_ret (v := .agg #[.int .i64 xs.length, .int .i64 u, .int .i64 ys.length]) (by simp [results, Try.results12, go_sem]) rfl ⟨rfl, ((Below.refl _ _).alloc (Nat.le_refl _) _).drew⟩

theorem new_no (c b : Int) (w : World) (h : c < 1 ∨ 1024 < c ∨ b < 1 ∨ 16777216 < b) : Calls Try.prog 9 #[.int .i64 c, .int .i64 b] w fun e w' => e = .returned (.tuple #[.pointer none, .int .i64 1]) ∧ w = w' := by
  by_cases h1 : c < 1
  · go_enter Try.func9, Try.ntmps9
    go_wp2
    go_ret2
    exact ⟨rfl, rfl⟩
  by_cases h2 : 1024 < c
  · go_enter Try.func9, Try.ntmps9
    go_wp2
    go_ret2
    exact ⟨rfl, rfl⟩
  by_cases h3 : b < 1
  · go_enter Try.func9, Try.ntmps9
    go_wp2
    go_ret2
    exact ⟨rfl, rfl⟩
  · have h4 : 16777216 < b := by omega
    go_enter Try.func9, Try.ntmps9
    go_wp2
    go_ret2
    exact ⟨rfl, rfl⟩
set_option maxRecDepth 100000 in
theorem new_yes (c : Nat) (b : Int) (w : World) (hc0 : 0 < c) (hc : c ≤ 1024) (hb0 : 1 ≤ b) (hb1 : b ≤ 16777216) : Calls Try.prog 9 #[.int .i64 c, .int .i64 b] w fun e w' => ∃ sb mb, e = .returned (.tuple #[.pointer (some ⟨sb, 0, none⟩), .int .i64 0]) ∧
    Qu.At w' sb c b 0 [] [] (.map (some mb)) none none ∧ Qu.Keys w' mb [] ∧ Below w.heap.size w w' ∧ w.heap.size ≤ sb ∧ w.heap.size ≤ mb := by
  have hmm := @run_makeMap Try.prog
  go_enter Try.func9, Try.ntmps9
  go_wp2
  go_ret2
  refine ⟨w.heap.size + 1, w.heap.size, rfl, ⟨.slice none 0 0, 0, .slice none 0 0, ?_, .inl ⟨rfl, rfl, rfl, rfl⟩, .inl ⟨rfl, rfl, rfl⟩, fun i h => by cases h⟩, ?_, ((Below.refl _ _).alloc (Nat.le_refl _) _).alloc (by simp) _, by omega, Nat.le_refl _⟩
  · exact Qu.new_at (by simp)
  · refine Qu.Keys.keep (w := w.alloc (.map #[] 0)) ⟨.map [], World.ownsMap_made _ _ _ _, rfl, fun x => rfl⟩ (Below.heap_alloc _ _ _ (by simp))
end Go.Proofs.Ytgdeoodihhcdjaa
