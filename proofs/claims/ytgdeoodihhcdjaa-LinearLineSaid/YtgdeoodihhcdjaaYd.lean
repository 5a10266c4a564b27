/- The walk of LinearLine. -/
import Derived.Test.YtgdeoodihhcdjaaNt
import Derived.Test.YtgdeoodihhcdjaaYc
namespace Go.Proofs.Ytgdeoodihhcdjaa
open Go.RowKit
set_option linter.unusedVariables false
set_option linter.unusedSimpArgs false

def Ln.pcells (p : Ln.Past) (cd rd : Value) : List Value := [.int .i64 p.call.kind, .int .i64 p.call.lsn, cd, .int .i64 p.res.err, .int .i64 p.res.lsn, rd, .int .i64 p.beg, .int .i64 p.fin]
/-- A list of pasts in a row of its own. -/
def Ln.Lat (w0 w : World) (LV : Value) (l : List Ln.Past) : Prop :=
  ∃ xs, w.ownsRow w0.heap.size 66 8 LV l.length xs ∧ ∀ i, i < l.length → ∃ cd rd, (∀ j, j < 8 → xs[i * 8 + j]? = (Ln.pcells (Ln.at' l i) cd rd)[j]?) ∧ Ln.Rd w0 cd (Ln.u8s (Ln.at' l i).call.data) ∧ Ln.Rd w0 rd (Ln.u8s (Ln.at' l i).res.data)
theorem Ln.Lat.slice {w0 w : World} {LV : Value} {l : List Ln.Past} (h : Ln.Lat w0 w LV l) : ∃ A cp, LV = .slice A l.length cp := by
  obtain ⟨xs, ⟨_, h⟩, _⟩ := h
  rcases h with ⟨rfl, h⟩ | ⟨b, cap, row, rfl, _⟩
  · exact ⟨none, 0, by rw [h]⟩
  · exact ⟨_, _, rfl⟩
theorem Ln.Lat.pasts {w0 w : World} {A : Option Addr} {n cp : Nat} {l : List Ln.Past} (h : Ln.Lat w0 w (.slice A n cp) l) (hb : Below w0.heap.size w0 w) : Ln.Pasts w A cp l := by
  obtain ⟨xs, ⟨hl, h⟩, hx⟩ := h
  rcases h with ⟨h, h0⟩ | ⟨g, cap, row, h, hg, hh, hcap, hm, hsz, htk⟩
  · injection h with hA hn hc
    subst hc
    exact ⟨by omega, by decide, fun i hi => by omega⟩
  · injection h with hA hn hc
    subst hA
    subst hc
    refine ⟨hcap, by unfold maxLen at hm; omega, fun i hi => ?_⟩
    obtain ⟨cd, rd, hj, h1, h2⟩ := hx i hi
    have hcell : ∀ j, j < 8 → w.cell? ⟨g, 0 + i * 8 + j, none⟩ = (Ln.pcells (Ln.at' l i) cd rd)[j]? := fun j hj8 => by
      rw [← hj j hj8, ← htk, List.getElem?_take, if_pos (by omega), Array.getElem?_toList, Nat.zero_add]
      simp [World.cell?, hh]
    exact ⟨g, 0, cd, rd, rfl, hcell 0 (by omega), hcell 1 (by omega), hcell 2 (by omega), hcell 3 (by omega), hcell 4 (by omega), hcell 5 (by omega), hcell 6 (by omega), hcell 7 (by omega), h1.keep hb, h2.keep hb⟩
theorem Ln.at_left (l : List Ln.Past) (p : Ln.Past) (i : Nat) (h : i < l.length) : Ln.at' (l ++ [p]) i = Ln.at' l i := by
  unfold Ln.at'
  rw [List.getD_eq_getElem?_getD, List.getElem?_append_left h, ← List.getD_eq_getElem?_getD]
theorem Ln.at_last (l : List Ln.Past) (p : Ln.Past) : Ln.at' (l ++ [p]) l.length = p := by
  unfold Ln.at'
  rw [List.getD_eq_getElem?_getD, List.getElem?_append_right (Nat.le_refl _)]
  simp
/-- One more past in the row. -/
theorem Ln.lat_snoc {w0 w' : World} {LV' : Value} {l : List Ln.Past} {p : Ln.Past} {cd rd : Value} {xs : List Value} (hxl : xs.length = l.length * 8)
    (hx : ∀ i, i < l.length → ∃ cd rd, (∀ j, j < 8 → xs[i * 8 + j]? = (Ln.pcells (Ln.at' l i) cd rd)[j]?) ∧ Ln.Rd w0 cd (Ln.u8s (Ln.at' l i).call.data) ∧ Ln.Rd w0 rd (Ln.u8s (Ln.at' l i).res.data))
    (ho : w'.ownsRow w0.heap.size 66 8 LV' (l.length + 1) (xs ++ Ln.pcells p cd rd)) (h1 : Ln.Rd w0 cd (Ln.u8s p.call.data)) (h2 : Ln.Rd w0 rd (Ln.u8s p.res.data)) : Ln.Lat w0 w' LV' (l ++ [p]) := by
  refine ⟨_, by rw [List.length_append]; exact ho, fun i hi => ?_⟩
  rw [List.length_append, List.length_singleton] at hi
  by_cases h : i < l.length
  · obtain ⟨cd2, rd2, hj, h3, h4⟩ := hx i h
    rw [Ln.at_left _ _ _ h]
    exact ⟨cd2, rd2, fun j hj8 => by rw [List.getElem?_append_left (by omega)]; exact hj j hj8, h3, h4⟩
  · have : i = l.length := by omega
    subst this
    rw [Ln.at_last]
    refine ⟨cd, rd, fun j hj8 => ?_, h1, h2⟩
    rw [List.getElem?_append_right (by omega), show l.length * 8 + j - xs.length = j by omega]
theorem Ln.mok_st {ps : List Ln.Past} {base : Int} (h1 : 1 ≤ base) (h2 : base ≤ 9223372036854775807) : ∀ k, Ln.MOk (Ln.stF ps base k).1 k
  | 0 => ⟨by show (0 : Int) ≤ base; omega, Int.le_refl _, by show base = base + 0; omega, h2, by show (0 : Nat) ≤ 0; omega, fun r hr => by cases hr⟩
  | k + 1 => by
    cases ha : Ln.applyF (Ln.stF ps base k).1 (Ln.at' ps k).call (Ln.at' ps k).res with
    | none => rw [Ln.stF_none ha]; exact ⟨by decide, by decide, by decide, by decide, Nat.zero_le _, fun r hr => by cases hr⟩
    | some n => rw [Ln.stF_some ha]; exact (Ln.mok_st h1 h2 k).step (p := Ln.linePast ps k) (by rw [Ln.line_step]; exact ha)

theorem Try.info66 : (Try.prog.info? 66).map (fun i => (i.zero, i.size, i.bytes)) = some (some (.agg #[.int .i64 0, .int .i64 0, .slice none 0 0, .int .i64 0, .int .i64 0, .slice none 0 0, .int .i64 0, .int .i64 0]), 8, 96) := by kernel_rfl
theorem Ln.wpList_append8 {P : Program} (w : World) {ops : Array Oper} {rest : List Oper} {o : Oper} {a : Act} {Q : Exit → Act → World → Prop} (hgd : o.guard = none) (s x : Operand) (t e : TypeId)
    (ho : o.op = .call { callee := .builtin .append, args := #[s, x], argTypes := #[t, t] }) (ht : P.underlying t = some (.slice e)) (z : Value) (bytes : Nat)
    (hinfo : (P.info? e).map (fun i => (i.zero, i.size, i.bytes)) = some (some z, 8, bytes)) (hzs : z.cells.size = 8) (hby : bytes ≤ 1024)
    (base : Nat) (v : Value) (n : Nat) (xs vs : List Value) (ad : Addr) (hs : a.eval s = v) (hx : a.eval x = .slice (some ad) 1 1) (hbase : base ≤ w.heap.size) (hown : w.ownsRow base e 8 v n xs) (hl : vs.length = 8) (hnews : ∀ j u, vs[j]? = some u → w.cell? (ad.add j) = some u)
    (hone : ∀ u ∈ vs, u.oneCell' = true) (hn : n + 1 ≤ 1000000)
    (h : ∀ v' w', w'.ownsRow base e 8 v' (n + 1) (xs ++ vs) → w.grownBy w' v.ownBlock → wpList P ops Q rest (a.put o.dst v') w') : wpList P ops Q (o :: rest) a w := by
  obtain ⟨i0, hi, hz0, hz1, hz2⟩ := info_parts hinfo
  exact wpList_append_own w hgd s x t ho base e i0 z 8 bytes ht hi hz0 hz1 hz2 hzs (by decide) v n xs hs hown ad 1 1 vs hx (by rw [hl]) hnews hone (by unfold maxLen; omega) (by have := Nat.mul_le_mul_left (n + 1) hby; omega) hbase fun v' w' h2 h3 _ => h v' w' h2 h3
theorem Ln.new8 (w : World) (A : Obj) (p : Ln.Past) (cd rd : Value) (j : Nat) (u : Value) (h : (Ln.pcells p cd rd)[j]? = some u) :
    ((w.alloc A).alloc (Obj.cells #[.int .i64 p.call.kind, .int .i64 p.call.lsn, cd, .int .i64 p.res.err, .int .i64 p.res.lsn, rd, .int .i64 p.beg, .int .i64 p.fin] 66)).cell? ((⟨w.heap.size + 1, 0, none⟩ : Addr).add j) = some u := by
  have e1 : (⟨w.heap.size + 1, 0, none⟩ : Addr).add j = ⟨w.heap.size + 1, j, none⟩ := by unfold Addr.add; split <;> simp_all
  have h2 := heap_alloc_new (w.alloc A) (Obj.cells #[.int .i64 p.call.kind, .int .i64 p.call.lsn, cd, .int .i64 p.res.err, .int .i64 p.res.lsn, rd, .int .i64 p.beg, .int .i64 p.fin] 66)
  rw [show (w.alloc A).heap.size = w.heap.size + 1 by simp] at h2
  rw [e1]
  simp only [World.cell?, h2]
  unfold Ln.pcells at h
  simpa using h
theorem Ln.one8 (p : Ln.Past) (A1 A2 : Option Addr) (n1 n2 c1 c2 : Nat) : ∀ u ∈ Ln.pcells p (.slice A1 n1 c1) (.slice A2 n2 c2), u.oneCell' = true := by
  intro u hu
  simp only [Ln.pcells, List.mem_cons, List.not_mem_nil, or_false] at hu
  rcases hu with rfl | rfl | rfl | rfl | rfl | rfl | rfl | rfl <;> rfl
theorem Ln.row_ne {w : World} {B k n : Nat} {LV : Value} {xs : List Value} (h : w.ownsRow B 66 n LV k xs) {b : Nat} {cs : Array Value} {t : TypeId} {f : Nat × Nat} (hb : w.heap[b]? = some (.cells cs t f)) (ht : t ≠ 66) : some b ≠ LV.ownBlock := by
  intro e
  rcases h.2 with ⟨rfl, _⟩ | ⟨g, cap, cur, rfl, _, hg, _⟩
  · simp [Value.ownBlock] at e
  · simp [Value.ownBlock] at e
    subst e
    rw [hb] at hg
    injection hg with hg
    injection hg with _ hg _
    exact ht hg
theorem Ln.app_after {w wr w9 : World} {B sb k : Nat} {LV rv : Value} {xs : List Value} {C D C' : Array Value} {rs : List (List UInt8)} (hown : wr.ownsRow B 66 8 LV k xs) (hlow : Below B w wr) (hB : B ≤ wr.heap.size) (hm : wr.heap[sb]? = some (.cells C' 71 (0, 0))) (hrec : Ln.Recs 0 wr rv rs)
    (hg : ((wr.alloc (.cells C 66)).alloc (.cells D 66)).grownBy w9 LV.ownBlock) :
    Below B w w9 ∧ w9.heap[sb]? = some (.cells C' 71 (0, 0)) ∧ w9.heap[wr.heap.size]? = some (.cells C 66 (0, 0)) ∧ Ln.Recs 0 w9 rv rs := by
  have hb2 : Below B w ((wr.alloc (.cells C 66)).alloc (.cells D 66)) := (hlow.alloc hB _).alloc (by simp; omega) _
  have hlt := hown.lt
  refine ⟨Qu.grown_below hb2 hg (by simp; omega) (fun k hk => (hlt k hk).1), ?_, ?_, ?_⟩
  · exact Qu.blk_grown (Qu.blk_alloc (Qu.blk_alloc hm _) _) hg (Ln.row_ne hown hm (by decide))
  · exact Qu.blk_grown (Qu.blk_alloc (heap_alloc_new wr (.cells C 66)) _) hg (fun e => by have := (hlt _ e.symm).2; omega)
  · exact hrec.keep2 fun i cs t f hi ht => (Qu.blk_grown (Qu.blk_alloc (Qu.blk_alloc hi _) _) hg (Ln.row_ne hown hi (by rcases ht with rfl | rfl <;> decide))).trans hi.symm
theorem Ln.end_after {w w9 w8 : World} {B sb k : Nat} {LV rv : Value} {xs : List Value} {C C' D : Array Value} {rs : List (List UInt8)} (hown : w9.ownsRow B 66 8 LV k xs) (hlow : Below B w w9) (hB : B ≤ w9.heap.size) (hsB : B ≤ sb) (hm : w9.heap[sb]? = some (.cells C' 71 (0, 0))) (h8 : Below w9.heap.size w9 w8) (hrec : Ln.Recs 0 w8 rv rs) :
    Below B w ((w8.alloc (.cells C 71)).setRow sb D) ∧ ((w8.alloc (.cells C 71)).setRow sb D).heap[sb]? = some (.cells D 71 (0, 0)) ∧ Ln.Recs 0 ((w8.alloc (.cells C 71)).setRow sb D) rv rs ∧ ((w8.alloc (.cells C 71)).setRow sb D).ownsRow B 66 8 LV k xs := by
  have hm8 := Qu.blk_alloc (Qu.blk_below hm h8) (.cells C 71)
  have hlt := Qu.blk_lt hm8
  refine ⟨Ln.below_setRow ((hlow.trans (h8.mono hB)).alloc (Nat.le_trans hB h8.size) _) hsB _, setRow_heap _ sb _ D 71 (0, 0) hm8, (hrec.below (Ln.below_alloc _ w8 (Nat.le_refl _) _)).row hm8 (by decide) (by decide) _, ?_⟩
  refine Ln.own_keep hown fun i cs f hi => ?_
  have hi8 := Qu.blk_alloc (Qu.blk_below hi h8) (.cells C 71)
  rw [setRow_other _ _ _ _ (fun e => by
    subst e
    rw [hm8] at hi8
    injection hi8 with hi8
    injection hi8 with _ hi8 _
    cases hi8), hi8, hi]

theorem Ln.cellsq {w : World} {b : Nat} {c0 c1 c2 c3 c4 c5 c6 c7 : Value} {t : TypeId} {f : Nat × Nat} (h : w.heap[b]? = some (.cells #[c0, c1, c2, c3, c4, c5, c6, c7] t f)) :
    w.cell? ⟨b, 0, none⟩ = some c0 ∧ w.cell? ⟨b, 1, none⟩ = some c1 ∧ w.cell? ⟨b, 2, none⟩ = some c2 ∧ w.cell? ⟨b, 3, none⟩ = some c3 ∧ w.cell? ⟨b, 4, none⟩ = some c4 ∧ w.cell? ⟨b, 5, none⟩ = some c5 ∧ w.cell? ⟨b, 6, none⟩ = some c6 ∧ w.cell? ⟨b, 7, none⟩ = some c7 := by
  simp [World.cell?, h]
theorem Ln.sz2 {n : Nat} {w : World} (h : n ≤ w.heap.size) (a b : Obj) : n ≤ ((w.alloc a).alloc b).heap.size := by simp; omega
theorem Ln.own_slice8 {w : World} {B k n : Nat} {LV : Value} {xs : List Value} (h : w.ownsRow B 66 n LV k xs) : ∃ A cp, LV = .slice A k cp := by
  rcases h.2 with ⟨rfl, h0⟩ | ⟨b, cap, row, rfl, _⟩
  · exact ⟨none, 0, by rw [h0]⟩
  · exact ⟨_, _, rfl⟩
def Ln.RunRel (w : World) (sb : Nat) (base : Int) (ps : List Ln.Past) (gk : Nat) (LV lg iv : Value) (wr : World) : Prop :=
  ∃ k : Nat, k ≤ ps.length ∧ gk = ps.length - k ∧ iv = .int .i64 k ∧ lg = .bool (Ln.stF ps base k).2 ∧ Below w.heap.size w wr ∧ Ln.Lat w wr LV (Ln.lineF ps k) ∧
    ∃ A8 c8, wr.heap[sb]? = some (.cells (Ln.cells (Ln.stF ps base k).1 (.slice A8 (Ln.stF ps base k).1.recs.length c8)) 71 (0, 0)) ∧ Ln.Recs 0 wr (.slice A8 (Ln.stF ps base k).1.recs.length c8) (Ln.stF ps base k).1.recs

set_option maxHeartbeats 8000000 in
set_option maxRecDepth 100000 in
theorem line_walk (base : Int) (A : Option Addr) (cp : Nat) (ps : List Ln.Past) (w : World) (hb : -9223372036854775808 ≤ base ∧ base ≤ 9223372036854775807) (hp : Ln.Pasts w A cp ps) :
    Calls Try.prog 7 #[.int .i64 base, .slice A ps.length cp] w fun e w' => e = .returned (.bool true) ∧ Below w.heap.size w w' := by
  have HP := Lib.hid hp
  have hbg := fun (W : World) => begun24 W
  have HBG := Lib.hid hbg
  have hsm := fun (W : World) (h : Below w.heap.size w W) => small_any A cp ps W (hp.keep h)
  have hnew := fun w5 => new_any base w5
  cases hs : Ln.smallF ps with
  | false =>
    rw [hs] at hsm
    have HSM := Lib.hid hsm
    clear hsm hs hp hnew hbg
    go_enter Try.func7, Try.ntmps7
    go_wp2_with (first
      | (go_at_call 25; refine (HBG.out _).mono ?_; rintro e w1 ⟨rfl, hb1⟩; have HB1 := Lib.hid hb1; clear hb1)
      | (go_at_call 26; refine (HSM.out _ HB1.out).mono ?_; rintro e w2 ⟨rfl, rfl⟩))
    go_ret
    exact ⟨rfl, HB1.out⟩
  | true =>
    rw [hs] at hsm
    have HSM := Lib.hid hsm
    clear hsm hs hp hbg
    by_cases hn : 12 < ps.length
    · clear hnew
      go_enter Try.func7, Try.ntmps7
      go_wp2_with (first
        | (go_at_call 25; refine (HBG.out _).mono ?_; rintro e w1 ⟨rfl, hb1⟩; have HB1 := Lib.hid hb1; clear hb1)
        | (go_at_call 26; refine (HSM.out _ HB1.out).mono ?_; rintro e w2 ⟨rfl, rfl⟩))
      go_ret
      exact ⟨rfl, HB1.out⟩
    have hn' : ps.length ≤ 12 := by omega
    by_cases hb1 : base < 1
    · have hF : Ln.newF base = none := by unfold Ln.newF; rw [if_pos hb1]
      rw [hF] at hnew
      simp only [Ln.cells, Ln.zeroM] at hnew
      have HNEW := Lib.hid hnew
      clear hnew hF hn
      go_enter Try.func7, Try.ntmps7
      go_wp2_with (first
        | (go_at_call 25; refine (HBG.out _).mono ?_; rintro e w1 ⟨rfl, hb1⟩; have HB1 := Lib.hid hb1; clear hb1)
        | (go_at_call 26; refine (HSM.out _ HB1.out).mono ?_; rintro e w2 ⟨rfl, rfl⟩)
        | (go_at_call 30; refine (HNEW.out _).mono ?_; rintro e w3 ⟨hb3, rfl⟩; have HB3 := Lib.hid (HB1.out.trans (hb3.mono HB1.out.size)); clear hb3))
      go_ret
      exact ⟨rfl, HB3.out.alloc HB3.out.size _⟩
    have hb1' : 1 ≤ base := by omega
    have hF : Ln.newF base = some (Ln.start base) := by unfold Ln.newF; rw [if_neg hb1]; rfl
    rw [hF] at hnew
    simp only [Ln.cells, Ln.start] at hnew
    have HNEW := Lib.hid hnew
    have HMOK := Lib.hid (Ln.mok_st (ps := ps) hb1' hb.2)
    clear hnew hF hn hb1
    go_enter Try.func7, Try.ntmps7
    go_wp2_with (first
      | (go_at_call 25; refine (HBG.out _).mono ?_; rintro e w1 ⟨rfl, hb1⟩; have HB1 := Lib.hid hb1; clear hb1)
      | (go_at_call 26; refine (HSM.out _ HB1.out).mono ?_; rintro e w2 ⟨rfl, rfl⟩)
      | (go_at_call 30; refine (HNEW.out _).mono ?_; rintro e w3 ⟨hb3, rfl⟩; have HB3 := Lib.hid (HB1.out.trans (hb3.mono HB1.out.size)); clear hb3))
    generalize hw4 : w3.alloc (Obj.cells #[Value.int IntKind.i64 base, Value.int IntKind.i64 base, Value.int IntKind.i64 base, Value.int IntKind.i64 base, Value.int IntKind.i64 9223372036854775807, Value.slice none 0 0, Value.bool false, Value.bool false] 71) = w4
    have hb4 : Below w.heap.size w w4 := by rw [← hw4]; exact HB3.out.alloc HB3.out.size _
    have hm4 : w4.heap[w3.heap.size]? = some (Obj.cells #[Value.int IntKind.i64 base, Value.int IntKind.i64 base, Value.int IntKind.i64 base, Value.int IntKind.i64 base, Value.int IntKind.i64 9223372036854775807, Value.slice none 0 0, Value.bool false, Value.bool false] 71) := by rw [← hw4]; exact heap_alloc_new w3 _
    have hsb : w.heap.size ≤ w3.heap.size := HB3.out.size
    have HB4 := Lib.hid hb4
    have HM4 := Lib.hid hm4
    clear hw4 hb4 hm4
    generalize w3.heap.size = sb at HM4 hsb ⊢
    go_loopg [7, 8, 9] ps.length (fun gk LV lg iv wx => Ln.RunRel w sb base ps gk LV lg iv wx)
    case atStart => exact ⟨0, by omega, by omega, rfl, rfl, HB4.out, ⟨[], World.ownsRow_nil _ _ _ _, fun i hi => by simp [Ln.lineF] at hi⟩, none, 0, HM4.out, ⟨[], World.ownsRow_nil _ _ _ _, fun i hi => by cases hi⟩⟩
    case round =>
      obtain ⟨k, hk, rfl, rfl, rfl, hbr, hlat, A8, c8, hm, hrec⟩ := hrel
      obtain ⟨Al, cl, rfl⟩ := hlat.slice
      obtain ⟨m, hmd⟩ : ∃ m, (Ln.stF ps base k).1 = m := ⟨_, rfl⟩
      obtain ⟨L, hL⟩ : ∃ L, (Ln.stF ps base k).2 = L := ⟨_, rfl⟩
      have hmok := HMOK.out k
      rw [hmd] at hm hrec hmok
      rw [hL]
      rw [Ln.lineF_len] at hlat ⊢
      have HBR := Lib.hid hbr
      have HLAT := Lib.hid hlat
      have HREC := Lib.hid hrec
      have HM := Lib.hid hm
      have hsbz := Qu.blk_lt hm
      obtain ⟨o0, o1, o2, o3, o4, o5, o6, o7⟩ := Ln.cells8o hm
      clear hbr hlat hrec hm
      by_cases hlt : k < ps.length
      · obtain ⟨pb, po, cd, rd, rfl, hpk0⟩ := HP.out.2.2 k hlt
        obtain ⟨Ac, cc, rfl⟩ := hpk0.hc.slice
        obtain ⟨Ar, cr, rfl⟩ := hpk0.hr.slice
        have HC0 := Lib.hid hpk0.hc
        have HR0 := Lib.hid hpk0.hr
        obtain ⟨x0, x1, x2, x3, x4, x5, x6, x7, xc, xr⟩ := hpk0.keep HBR.out
        have hblt : pb < wr.heap.size := World.block_lt_of_cell? wr _ x0
        clear xc xr hpk0
        obtain ⟨xs, hown, hxs⟩ := HLAT.out
        rw [Ln.lineF_len] at hown hxs
        have hsz1 := HBR.out.size
        have HSZ2 := Lib.hid hsz1
        have HOWN := Lib.hid hown
        have HXS := Lib.hid hxs
        have hap := fun (W : World) (hr : Ln.Recs 0 W (.slice A8 m.recs.length c8) m.recs) (hb : Below w.heap.size w W) => apply_any (.agg #[Value.int IntKind.i64 m.base, Value.int IntKind.i64 m.first, Value.int IntKind.i64 m.durable, Value.int IntKind.i64 m.next, Value.int IntKind.i64 m.limit, Value.slice A8 m.recs.length c8, Value.bool m.failed, Value.bool m.closed]) m (Ln.at' ps k).call (Ln.at' ps k).res _ _ W ⟨_, rfl, hr⟩ (hmok.wf (by omega)) hmok.dt (HC0.out.keep hb) (HR0.out.keep hb)
        have hkn : Ln.lineF ps (k + 1) = Ln.lineF ps k ++ [Ln.linePast ps k] := Ln.lineF_succ ps k
        have HKN := Lib.hid hkn
        clear hown hxs hkn hmok o0 o1 o2 o3 o4 o5 o6 o7
        cases ho : Ln.applyF m (Ln.at' ps k).call (Ln.at' ps k).res with
        | none =>
          have hst : Ln.stF ps base (k + 1) = (Ln.zeroM, false) := Ln.stF_none (by rw [hmd]; exact ho)
          have HST := Lib.hid hst
          simp only [ho] at hap
          have HAP := Lib.hid hap
          clear hap hst ho
          have HMD := Lib.hid hmd
          clear hmd hL HMD
          cases L
          all_goals
            go_wp2_with (first
              | (at_builtin; refine Ln.wpList_append8 _ rfl (.tmp 53) (.tmp 55) 55 66 rfl Try.underlying55 _ 96 Try.info66 rfl (by decide) w.heap.size (.slice Al k cl) k xs (Ln.pcells (Ln.linePast ps k) (.slice Ac (Ln.u8s (Ln.at' ps k).call.data).length cc) (.slice Ar (Ln.u8s (Ln.at' ps k).res.data).length cr)) ⟨wr.heap.size + 1, 0, none⟩ rfl rfl (Ln.sz2 HSZ2.out _ _) (((HOWN.out).alloc _).alloc _) rfl (Ln.new8 wr _ (Ln.linePast ps k) _ _) (Ln.one8 _ _ _ _ _ _ _) (by omega) ?_; intro v9 w9 ho9 hg9; obtain ⟨hb9, hm9, hp9, hr9⟩ := Ln.app_after HOWN.out HBR.out HSZ2.out HM.out HREC.out hg9; obtain ⟨o0, o1, o2, o3, o4, o5, o6, o7⟩ := Ln.cells8o hm9; obtain ⟨q0, q1, q2, q3, q4, q5, q6, q7⟩ := Ln.cellsq hp9; have qlt := Qu.blk_lt hp9; have slt := Qu.blk_lt hm9; obtain ⟨A9, c9, rfl⟩ := Ln.own_slice8 ho9; have HOWN9 := Lib.hid ho9; have HB9 := Lib.hid hb9; have HM9 := Lib.hid hm9; have HR9 := Lib.hid hr9; clear ho9 hb9 hm9 hr9 hp9 hg9)
              | (go_at_call 31; refine (HAP.out _ HR9.out HB9.out).mono ?_; rintro e w8 ⟨hb8, rfl⟩; have HB8 := Lib.hid hb8; unfold Ln.cells; have slt8 := Nat.lt_of_lt_of_le slt hb8.size; clear hb8)
              | (refine wpList_store_row rfl 71 (.tmp 5) (.tmp 70) rfl sb (Ln.cells Ln.zeroM (.slice none 0 0)) rfl rfl 71 #[Value.int IntKind.i64 m.base, Value.int IntKind.i64 m.first, Value.int IntKind.i64 m.durable, Value.int IntKind.i64 m.next, Value.int IntKind.i64 m.limit, Value.slice A8 m.recs.length c8, Value.bool m.failed, Value.bool m.closed] (Qu.blk_alloc (Qu.blk_below HM9.out HB8.out) _) Try.size71 rfl (Ln.cells_one _ _ _ _) ?_))
            obtain ⟨e1, e2, e3, e4⟩ := Ln.end_after (C := Ln.cells Ln.zeroM (.slice none 0 0)) (D := Ln.cells Ln.zeroM (.slice none 0 0)) HOWN9.out HB9.out HB9.out.size hsb HM9.out HB8.out (rv := .slice none 0 0) (rs := []) ⟨[], World.ownsRow_nil _ _ _ _, fun i hi => by cases hi⟩
            have hlat : Ln.Lat w ((w8.alloc (Obj.cells (Ln.cells Ln.zeroM (.slice none 0 0)) 71)).setRow sb (Ln.cells Ln.zeroM (.slice none 0 0))) (.slice A9 (k + 1) c9) (Ln.lineF ps (k + 1)) := by
              rw [HKN.out]
              exact Ln.lat_snoc (by rw [Ln.lineF_len]; exact HOWN.out.1) (by rw [Ln.lineF_len]; exact HXS.out) (by rw [Ln.lineF_len]; exact e4) HC0.out HR0.out
            go_roundg (ps.length - (k + 1))
            case measure => omega
            case rel => exact ⟨k + 1, by omega, rfl, by go_num, by rw [HST.out], e1, hlat, none, 0, by rw [HST.out]; exact e2, by rw [HST.out]; exact e3⟩
        | some t =>
          have hst : Ln.stF ps base (k + 1) = (t, L) := (Ln.stF_some (by rw [hmd]; exact ho)).trans (by rw [hL])
          have HST := Lib.hid hst
          simp only [ho] at hap
          have HAP := Lib.hid hap
          clear hap hst ho hmd hL
          cases L
          all_goals
            go_wp2_with (first
              | (at_builtin; refine Ln.wpList_append8 _ rfl (.tmp 53) (.tmp 55) 55 66 rfl Try.underlying55 _ 96 Try.info66 rfl (by decide) w.heap.size (.slice Al k cl) k xs (Ln.pcells (Ln.linePast ps k) (.slice Ac (Ln.u8s (Ln.at' ps k).call.data).length cc) (.slice Ar (Ln.u8s (Ln.at' ps k).res.data).length cr)) ⟨wr.heap.size + 1, 0, none⟩ rfl rfl (Ln.sz2 HSZ2.out _ _) (((HOWN.out).alloc _).alloc _) rfl (Ln.new8 wr _ (Ln.linePast ps k) _ _) (Ln.one8 _ _ _ _ _ _ _) (by omega) ?_; intro v9 w9 ho9 hg9; obtain ⟨hb9, hm9, hp9, hr9⟩ := Ln.app_after HOWN.out HBR.out HSZ2.out HM.out HREC.out hg9; obtain ⟨o0, o1, o2, o3, o4, o5, o6, o7⟩ := Ln.cells8o hm9; obtain ⟨q0, q1, q2, q3, q4, q5, q6, q7⟩ := Ln.cellsq hp9; have qlt := Qu.blk_lt hp9; have slt := Qu.blk_lt hm9; obtain ⟨A9, c9, rfl⟩ := Ln.own_slice8 ho9; have HOWN9 := Lib.hid ho9; have HB9 := Lib.hid hb9; have HM9 := Lib.hid hm9; have HR9 := Lib.hid hr9; clear ho9 hb9 hm9 hr9 hp9 hg9)
              | (go_at_call 31; refine (HAP.out _ HR9.out HB9.out).mono ?_; rintro e w8 ⟨hb8, _, rfl, rv8, rfl, hrec8⟩; obtain ⟨A7, c7, rfl⟩ := hrec8.slice; have HR8 := Lib.hid hrec8; have HB8 := Lib.hid hb8; unfold Ln.cells; have slt8 := Nat.lt_of_lt_of_le slt hb8.size; clear hb8 hrec8)
              | (refine wpList_store_row rfl 71 (.tmp 5) (.tmp 70) rfl sb (Ln.cells t (.slice A7 t.recs.length c7)) rfl rfl 71 #[Value.int IntKind.i64 m.base, Value.int IntKind.i64 m.first, Value.int IntKind.i64 m.durable, Value.int IntKind.i64 m.next, Value.int IntKind.i64 m.limit, Value.slice A8 m.recs.length c8, Value.bool m.failed, Value.bool m.closed] (Qu.blk_alloc (Qu.blk_below HM9.out HB8.out) _) Try.size71 rfl (Ln.cells_one _ _ _ _) ?_))
            obtain ⟨e1, e2, e3, e4⟩ := Ln.end_after (C := Ln.cells t (.slice A7 t.recs.length c7)) (D := Ln.cells t (.slice A7 t.recs.length c7)) HOWN9.out HB9.out HB9.out.size hsb HM9.out HB8.out HR8.out
            have hlat : Ln.Lat w ((w8.alloc (Obj.cells (Ln.cells t (.slice A7 t.recs.length c7)) 71)).setRow sb (Ln.cells t (.slice A7 t.recs.length c7))) (.slice A9 (k + 1) c9) (Ln.lineF ps (k + 1)) := by
              rw [HKN.out]
              exact Ln.lat_snoc (by rw [Ln.lineF_len]; exact HOWN.out.1) (by rw [Ln.lineF_len]; exact HXS.out) (by rw [Ln.lineF_len]; exact e4) HC0.out HR0.out
            go_roundg (ps.length - (k + 1))
            case measure => omega
            case rel => exact ⟨k + 1, by omega, rfl, by go_num, by rw [HST.out], e1, hlat, A7, c7, by rw [HST.out]; exact e2, by rw [HST.out]; exact e3⟩
      · have hke : k = ps.length := by omega
        subst hke
        have hps := HLAT.out.pasts HBR.out
        have hls := Ln.line_search hb1' hn'
        have h0 := Ln.line_begun (ps := ps) hb1' hn'
        have hck := check_any base Al cl (Ln.lineF ps ps.length) wr hb hps (by rw [Ln.lineF_len]; omega)
        rw [Ln.lineF_len] at hck
        have HMD := Lib.hid hmd
        rw [hL] at hls
        clear o0 o1 o2 o3 o4 o5 o6 o7 hmd hL HMD hmok
        cases L with
        | false =>
          have hck2 := hck.mono (R' := fun e w' => e = .returned (.tuple #[.slice none 0 0, .bool false, .int .i64 0]) ∧ Below wr.heap.size wr w') (by
            rintro e w' ⟨h1, h2⟩
            rw [if_pos h0, if_neg (by rw [hls.1]; decide)] at h2
            exact ⟨h2, h1⟩)
          have HCK := Lib.hid hck2
          clear hck hck2 hls h0 hps
          go_wp2_with (go_at_call 27; refine HCK.out.mono ?_; rintro e w5 ⟨rfl, hb5⟩; have HB5 := Lib.hid (HBR.out.trans (hb5.mono HBR.out.size)); clear hb5)
          go_loopg [15] 1 (fun gk iv wx => gk = 1 ∧ iv = .int .i64 0 ∧ w5 = wx)
          case atStart => exact ⟨rfl, rfl, rfl⟩
          case round =>
            obtain ⟨rfl, rfl, rfl⟩ := hrel
            go_wp2_with fail
            go_ret
            exact ⟨rfl, HB5.out⟩
        | true =>
          have hck2 := hck.mono (R' := fun e w' => ∃ OV, e = .returned (.tuple #[OV, .bool true, .int .i64 0]) ∧ Below wr.heap.size wr w' ∧ w'.ownsRow wr.heap.size 3 1 OV ps.length (Ln.nats (List.range' 0 ps.length))) (by
            rintro e w' ⟨h1, h2⟩
            rw [if_pos h0, if_pos hls.1] at h2
            obtain ⟨OV, he, how⟩ := h2
            rw [hls.2 hls.1] at how
            exact ⟨OV, he, h1, by simpa using how⟩)
          have HCK := Lib.hid hck2
          clear hck hck2 hls h0 hps
          go_wp2_with (go_at_call 27; refine HCK.out.mono ?_; rintro e w5 ⟨OV, rfl, hb5, ho5⟩; obtain ⟨A5, c5, rfl⟩ := Ln.own_slice ho5; have HB5 := Lib.hid (HBR.out.trans (hb5.mono HBR.out.size)); have HO5 := Lib.hid ho5; clear hb5 ho5)
          go_loopg [15] ps.length (fun gk iv wx => ∃ j : Nat, j ≤ ps.length ∧ gk = ps.length - j ∧ iv = .int .i64 j ∧ w5 = wx)
          case atStart => exact ⟨0, by omega, by omega, rfl, rfl⟩
          case round =>
            obtain ⟨j, hj, rfl, rfl, rfl⟩ := hrel
            by_cases hltj : j < ps.length
            · rcases HO5.out.2 with ⟨_, h0⟩ | ⟨g, cap, cur, hV, hgB, hg, hcap, hmax, hsz, htk⟩
              · omega
              injection hV with hA _ hC
              subst hA
              subst hC
              have hcell : w5.cell? ⟨g, j, none⟩ = some (.int .i64 (j : Int)) := by
                have e := congrArg (fun l => l[j]?) htk
                simp only [Nat.mul_one] at e
                rw [List.getElem?_take, if_pos hltj, Array.getElem?_toList] at e
                simp only [World.cell?, hg]
                simp only [Ln.nats, List.getElem?_map, List.getElem?_range' hltj] at e
                simpa using e
              have hglt := Qu.blk_lt hg
              clear hg htk hsz hcap hmax
              go_wp2_with fail
              go_roundg (ps.length - (j + 1))
              case measure => omega
              case rel => exact ⟨j + 1, by omega, rfl, by go_num, rfl⟩
            · have hje : j = ps.length := by omega
              subst hje
              go_wp2_with fail
              go_ret
              exact ⟨rfl, HB5.out⟩
end Go.Proofs.Ytgdeoodihhcdjaa
