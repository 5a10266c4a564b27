/- The contract of own. -/
import Derived.Test.YtgdeoodihhcdjaaMm
import Derived.Deep.LoopGhost
import Derived.Deep.Cut
namespace Go.Proofs.Ytgdeoodihhcdjaa
open Go.RowKit
set_option linter.unusedVariables false
set_option linter.unusedSimpArgs false


theorem Ln.take_rec (rs : List (List UInt8)) (k : Nat) (h : k < rs.length) : rs.take (k + 1) = rs.take k ++ [rs.getD k []] := by
  rw [List.take_succ_eq_append_getElem h, List.getD_eq_getElem?_getD, List.getElem?_eq_getElem h]
  rfl

theorem Ln.cell_of_own {w : World} {base n : Nat} {e : TypeId} {A : Option Addr} {cp : Nat} {xs : List Value} (h : w.ownsRow base e 1 (.slice A n cp) n xs) (k : Nat) (hk : k < n) :
    ∃ g, A = some ⟨g, 0, none⟩ ∧ g < w.heap.size ∧ n ≤ cp ∧ cp ≤ maxLen ∧ w.cell? ⟨g, k, none⟩ = some (xs.getD k undef) := by
  obtain ⟨hl, h⟩ := h
  rcases h with ⟨h1, rfl⟩ | ⟨g, cap, cur, hv, _, hg, h1, h2, h3, h4⟩
  · omega
  · injection hv with e1 _ e2
    subst e2
    refine ⟨g, e1, Qu.blk_lt hg, h1, h2, ?_⟩
    rw [Qu.blk_cell hg, ← Array.getElem?_toList]
    rw [Nat.mul_one] at hl h4
    have := congrArg (fun l => l[k]?) h4
    simp only [List.getElem?_take] at this
    rw [if_pos hk] at this
    rw [this, List.getD_eq_getElem?_getD, List.getElem?_eq_getElem (by omega)]
    rfl

theorem Ln.set_rec {B sb : Nat} {w3 : World} {m : Ln.Mod} {v v3 : Value} (h0 : B ≤ sb) (k3 : w3.heap[sb]? = some (.cells (Ln.cells m v) 118 (0, 0))) {rs : List (List UInt8)} (hr3 : Ln.Recs B w3 v3 rs) :
    Ln.StAt B (w3.setCell ⟨sb, 5, none⟩ v3) sb { m with recs := rs } := by
  have k4 : (w3.setCell ⟨sb, 5, none⟩ v3).heap[sb]? = some (.cells (Ln.cells { m with recs := rs } v3) 118 (0, 0)) := Qu.blk_set k3 5 v3
  have hr4 : Ln.Recs B (w3.setCell ⟨sb, 5, none⟩ v3) v3 rs := hr3.keep fun j cs t f hj ht => Below.heap_setCell _ _ _ _ (fun e => by
    subst e
    have hj : w3.heap[_]? = _ := hj
    rw [k3] at hj
    injection hj with hj
    injection hj with _ hj
    exact ht hj.symm)
  exact ⟨h0, v3, k4, hr4⟩

def Ln.OwnRel (w : World) (sb : Nat) (m : Ln.Mod) (gk : Nat) (i : Value) (wr : World) : Prop :=
  ∃ k : Nat, k ≤ m.recs.length ∧ gk = m.recs.length - k ∧ i = .int .i64 k ∧ Ln.StAt w.heap.size wr sb { m with recs := m.recs.take k } ∧ Below w.heap.size w wr

set_option maxHeartbeats 2000000 in
set_option maxRecDepth 100000 in
theorem own_any (mv : Value) (m : Ln.Mod) (w : World) (hm : Ln.ModAt w mv m) (hlen : m.recs.length ≤ 1000) (hd : ∀ r ∈ m.recs, r.length ≤ 4096) :
    Calls Try.prog 64 #[mv] w fun e w' => ∃ sb, e = .returned (.pointer (some ⟨sb, 0, none⟩)) ∧ Ln.StAt w.heap.size w' sb m ∧ Below w.heap.size w w' := by
  obtain ⟨rv, rfl, xs, ho, hr⟩ := hm
  obtain ⟨A, cp, rfl⟩ := Ln.own_slice ho
  have HO := Lib.hid ho
  have HR := Lib.hid hr
  have HD := Lib.hid hd
  clear ho hr hd
  go_enter Try.func64, Try.ntmps64
  unfold Ln.cells
  go_wp2_with fail
  go_loopg [16] m.recs.length (fun gk i wr => Ln.OwnRel w (w.heap.size + 1) m gk i wr)
  case atStart =>
    refine ⟨0, by omega, by omega, rfl, ⟨by omega, .slice none 0 0, ?_, [], World.ownsRow_nil _ _ _ _, fun i hi => by simp at hi⟩, (Ln.below_alloc _ w (Nat.le_refl _) _).alloc (by simp) _⟩
    have := heap_alloc_new (w.alloc (Obj.cells (Ln.cells m (.slice A m.recs.length cp)) 71)) (Obj.cells (Ln.cells { m with recs := m.recs.take 0 } (.slice none 0 0)) 118)
    have e : (w.alloc (Obj.cells (Ln.cells m (.slice A m.recs.length cp)) 71)).heap.size = w.heap.size + 1 := by simp
    rw [e] at this
    exact this
  case round =>
    obtain ⟨k, hk, rfl, rfl, hst, hb⟩ := hrel
    have HST := Lib.hid hst
    have HB := Lib.hid hb
    by_cases hlt : k < m.recs.length
    · have hox := HO.out
      have hxl : xs.length = m.recs.length := by have := hox.1; simpa using this
      have hrd := (Ln.Rd.of_own (HR.out k hlt)).below hb (fun A' n' c' hv hn' => by
        have hown := HR.out k hlt
        rw [hv] at hown
        exact (hown.lt A'.block rfl).2)
      obtain ⟨g, rfl, hg, hcap, hcm, hc0⟩ := Ln.cell_of_own hox k hlt
      have hcell : wr.cell? ⟨g, k, none⟩ = some (xs.getD k undef) := (hb.cell (p := ⟨g, k, none⟩) hg).trans hc0
      have hdl := HD.out (m.recs.getD k []) (by rw [List.getD_eq_getElem?_getD, List.getElem?_eq_getElem hlt]; exact List.getElem_mem _)
      have htk := Ln.take_rec m.recs k hlt
      generalize xs.getD k undef = u at hcell hrd
      generalize m.recs.getD k [] = d at hrd hdl htk
      have hu8 : (Ln.u8s d).length = d.length := by simp [Ln.u8s]
      obtain ⟨Au, cpu, hAu⟩ := hrd.slice
      rw [hu8] at hAu
      subst hAu
      have hgr : g < wr.heap.size := Nat.lt_of_lt_of_le hg hb.size
      have HRD := Lib.hid hrd
      have HU := Lib.hid hu8
      have HTK := Lib.hid htk
      obtain ⟨h0, v, h1, h2⟩ := hst
      obtain ⟨c0, c1, c2, c3, c4, c5, c6, c7⟩ := Ln.cells8 h1
      have f5 := Qu.blk_frozen h1 5
      have hlts := Qu.blk_lt h1
      obtain ⟨ys, hy, hyr⟩ := h2
      obtain ⟨A5, cp5, rfl⟩ := Ln.own_slice hy
      have hlk : (m.recs.take k).length = k := by rw [List.length_take]; omega
      dsimp only at hy hyr c5
      rw [hlk] at hy c5 h1
      have H1 := Lib.hid h1
      have HY := Lib.hid hy
      have HYR := Lib.hid hyr
      have HLK := Lib.hid hlk
      have hBw := hb.size
      clear hrd hu8 htk h1 hy hyr hlk hox hb hc0 c0 c1 c2 c3 c4 c6 c7
      go_wp2_with fail
      go_region_law (first
        | (refine Ln.step_append rfl (.const (.slice none 0 0)) (.tmp 26) 60 5 rfl Try.underlying60 _ 1 Try.info5 rfl (by decide) w.heap.size (.slice none 0 0) 0 [] (Ln.u8s d) _ rfl rfl hBw (World.ownsRow_nil _ _ _ _) HRD.out (Ln.u8s_one d) (by rw [HU.out]; omega) ?_; intro v1 w1 ho1 hg1; have hg1 : World.grownBy { wr with drawn := wr.drawn + 1 } w1 none := hg1; have ho1 := Ln.own_n HU.out ho1; obtain ⟨A1, cp1, rfl⟩ := Ln.own_slice ho1; have hk1 := Qu.blk_grown (w := { wr with drawn := wr.drawn + 1 }) H1.out hg1 (by simp); have d5 := (Ln.cells8 hk1).2.2.2.2.2.1; have hlt1 := Qu.blk_lt hk1; clear hk1; have HO1 := Lib.hid ho1; have HG1 := Lib.hid hg1; clear ho1 hg1)
        | (refine Ln.step_append rfl (.tmp 25) (.tmp 28) 69 60 rfl Try.underlying69 _ 24 Try.info60 rfl (by decide) w.heap.size (.slice A5 k cp5) k ys [.slice A1 d.length cp1] _ rfl rfl (Nat.le_trans hBw (Nat.le_trans HG1.out.size (by simp))) ((World.ownsRow.kept (w := { wr with drawn := wr.drawn + 1 }) HY.out HG1.out (by cases (Value.slice A5 k cp5).ownBlock <;> simp)).alloc _) (Ln.rd_new w1 (.slice A1 d.length cp1) 60) (Ln.one_slice _ _ _) (by simp only [List.length_cons, List.length_nil]; omega) ?_; intro v3 w3 ho3 hg3; obtain ⟨A3, cp3, rfl⟩ := Ln.own_slice ho3; obtain ⟨k3, hr3, hb3⟩ := Ln.add_rec (w := { wr with drawn := wr.drawn + 1 }) (rs := m.recs.take k) (d := d) hBw H1.out (by rw [HLK.out]; exact HY.out) HYR.out HG1.out HO1.out hg3 (by rw [HLK.out]; exact ho3); have l3 := Qu.blk_lt k3; have j5 := (Ln.cells8 k3).2.2.2.2.2.1; have jf5 := Qu.blk_frozen k3 5; have hb3 : Ln.Fra w.heap.size (w.heap.size + 1) wr w3 := ⟨⟨hb3.low.os, hb3.low.tape, hb3.low.output, hb3.low.size, hb3.low.block⟩, hb3.kp⟩; have K3 := Lib.hid k3; have HR3 := Lib.hid hr3; have HB3 := Lib.hid hb3; clear ho3 hg3 k3 hr3 hb3))
      all_goals
        go_wp2
        go_roundg (m.recs.length - (k + 1))
        case measure => omega
        case rel => exact ⟨k + 1, by omega, rfl, by go_num, by rw [HTK.out]; exact Ln.set_rec h0 K3.out HR3.out, (HB.out.trans HB3.out.low).setCell h0 _⟩
    · have hke : k = m.recs.length := by omega
      have HST2 : Ln.StAt w.heap.size wr (w.heap.size + 1) m := by
        have := HST.out
        rw [hke, List.take_length] at this
        exact this
      have HST2 := Lib.hid HST2
      clear hst hb hke
      go_wp2
      go_ret
      exact ⟨_, rfl, HST2.out, HB.out⟩

end Go.Proofs.Ytgdeoodihhcdjaa
