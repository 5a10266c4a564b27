/- items, ids. -/
import Derived.Test.YtgdeoodihhcdjaaRk
namespace Go.Proofs.Ytgdeoodihhcdjaa
open Go.RowKit
set_option linter.unusedVariables false
set_option linter.unusedSimpArgs false

/-- Two slices that hold the same items: items says so. -/
theorem items_same (V1 V2 : Value) (ys : List (Int × Int)) (L1 L2 : Option Nat) (w : World) (h1 : Qu.Line w V1 ys L1) (h2 : Qu.Line w V2 ys L2) (hy : ys.length ≤ 100000) :
    Calls Try.prog 17 #[V1, V2] w fun e w' => e = .returned (.bool true) ∧ ∃ n, w' = w.drewN n := by
  obtain ⟨A1, c1, rfl⟩ := h1.slice
  obtain ⟨A2, c2, rfl⟩ := h2.slice
  have H1 := Lib.hid h1
  have H2 := Lib.hid h2
  clear h1 h2
  go_enter Try.func17, Try.ntmps17
  go_wp2
  go_loopg [5] ys.length (fun gk s5 wx => ∃ t n : Nat, t ≤ ys.length ∧ gk = ys.length - t ∧ s5 = .int .i64 t ∧ wx = w.drewN n)
  case atStart => exact ⟨0, 0, by omega, by omega, rfl, rfl⟩
  case round =>
    obtain ⟨t, n, ht, rfl, rfl, rfl⟩ := hrel
    by_cases htl : t < ys.length
    · obtain ⟨lb, off, cap, hv, hlt, x0, x1⟩ := H1.out.get htl
      obtain ⟨lb2, off2, cap2, hv2, hlt2, y0, y1⟩ := H2.out.get htl
      injection hv with hv1 _ hv3
      subst hv1
      subst hv3
      injection hv2 with hv1 _ hv3
      subst hv1
      subst hv3
      generalize (ys.getD t (0, 0)).1 = s4 at x0 y0
      generalize (ys.getD t (0, 0)).2 = s5 at x1 y1
      have he : (s4 == s4) = true := beq_self_eq_true s4
      have he2 : (s5 == s5) = true := beq_self_eq_true s5
      go_wp2
      go_quiet (fail)
      go_wp2
      go_roundg (ys.length - (t + 1))
      case measure => omega
      case rel => exact ⟨t + 1, n + nq, by omega, rfl, by go_num, rfl⟩
    · go_wp2
      go_ret
      exact ⟨rfl, n, rfl⟩

theorem Qu.own_int {w : World} {base cp : Nat} {A : Option Addr} {l1 : Nat} {l : List Int} (h : w.ownsRow base 2 1 (.slice A l1 cp) l.length (Qu.ints l)) {t : Nat} (ht : t < l.length) :
    ∃ g, A = some ⟨g, 0, none⟩ ∧ g < w.heap.size ∧ w.cell? ⟨g, t, none⟩ = some (.int .i64 (l.getD t 0)) := by
  rcases h.2 with ⟨_, h0⟩ | ⟨g, cap, cur, hv, hg, hh, hnc, hcm, hs, htk⟩
  · omega
  · injection hv with h1 h2 h3
    refine ⟨g, h1, Qu.blk_lt hh, ?_⟩
    rw [Qu.blk_cell hh]
    have e : (Qu.ints l)[t]? = some (.int .i64 (l.getD t 0)) := by simp [Qu.ints, List.getElem?_eq_getElem ht]
    rw [← htk, List.getElem?_take, if_pos (by omega), Array.getElem?_toList] at e
    exact e
theorem ids_same (V1 V2 : Value) (l : List Int) (b1 b2 : Nat) (w : World) (h1 : w.ownsRow b1 2 1 V1 l.length (Qu.ints l)) (h2 : w.ownsRow b2 2 1 V2 l.length (Qu.ints l)) (hy : l.length ≤ 100000) :
    Calls Try.prog 18 #[V1, V2] w fun e w' => e = .returned (.bool true) ∧ ∃ n, w' = w.drewN n := by
  obtain ⟨A1, c1, rfl⟩ := Qu.own_slice h1
  obtain ⟨A2, c2, rfl⟩ := Qu.own_slice h2
  have H1 := Lib.hid h1
  have H2 := Lib.hid h2
  clear h1 h2
  go_enter Try.func18, Try.ntmps18
  go_wp2
  go_loopg [5] l.length (fun gk s5 wx => ∃ t n : Nat, t ≤ l.length ∧ gk = l.length - t ∧ s5 = .int .i64 t ∧ wx = w.drewN n)
  case atStart => exact ⟨0, 0, by omega, by omega, rfl, rfl⟩
  case round =>
    obtain ⟨t, n, ht, rfl, rfl, rfl⟩ := hrel
    by_cases htl : t < l.length
    · obtain ⟨g1, rfl, hlt, x0⟩ := Qu.own_int H1.out htl
      obtain ⟨g2, rfl, hlt2, y0⟩ := Qu.own_int H2.out htl
      generalize l.getD t 0 = s4 at x0 y0
      have he : (s4 == s4) = true := beq_self_eq_true s4
      go_wp2
      go_quiet (fail)
      go_wp2
      go_roundg (l.length - (t + 1))
      case measure => omega
      case rel => exact ⟨t + 1, n + nq, by omega, rfl, by go_num, rfl⟩
    · go_wp2
      go_ret
      exact ⟨rfl, n, rfl⟩
end Go.Proofs.Ytgdeoodihhcdjaa
