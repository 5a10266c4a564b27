/- bytes.Equal; a record of a state. -/
import Derived.Test.YtgdeoodihhcdjaaMh
import Derived.Laws.BytesArg
namespace Go.Proofs.Ytgdeoodihhcdjaa
open Go.RowKit
set_option linter.unusedVariables false
set_option linter.unusedSimpArgs false

theorem Ln.spot_none {w : World} {x : Addr} {v : Value} (h0 : w.cell? (x.add 0) = some v) : x = ⟨x.block, x.off, none⟩ := by
  obtain ⟨b, o, s⟩ := x
  cases s with
  | none => rfl
  | some s =>
    simp [Addr.add, World.cell?] at h0
    split at h0 <;> simp at h0
theorem Ln.add_plain (b o i : Nat) : (⟨b, o, none⟩ : Addr).add i = ⟨b, o + i, none⟩ := by
  unfold Addr.add
  split
  · rename_i h; subst h; rfl
  · rfl
theorem Ln.Rd.plain {w : World} {A : Option Addr} {n cp : Nat} {vs : List Value} (h : Ln.Rd w (.slice A n cp) vs) (hn : 0 < n) : n = vs.length ∧ ∃ b o, A = some ⟨b, o, none⟩ ∧ b < w.heap.size ∧ ∀ j u, vs[j]? = some u → w.cell? ⟨b, o + j, none⟩ = some u := by
  rcases h with ⟨h, rfl⟩ | ⟨A', cp', h, hc⟩
  · injection h with _ h _; omega
  · injection h with h1 h2 h3
    subst h1
    subst h2
    refine ⟨rfl, ?_⟩
    have h0 : vs[0]? = some (vs[0]'hn) := List.getElem?_eq_getElem hn
    have hx := Ln.spot_none (hc 0 _ h0).2
    refine ⟨A'.block, A'.off, by rw [← hx], (hc 0 _ h0).1, fun j u hj => ?_⟩
    have := (hc j u hj).2
    rw [hx, Ln.add_plain] at this
    exact this
theorem Ln.conv0 (w : World) (A : Option Addr) (cp : Nat) : (convert 60 9 (.slice A 0 cp)).run Try.prog w = .ok (.string ⟨#[]⟩) w := by
  rw [run_convert_bytes_string w 60 9 5 _ 0 cp Try.underlying60 Try.underlying5 Try.underlying9]
  cases A <;> simp [Conv.bytesToString, loadCells]
  all_goals rfl
theorem Ln.conv {w : World} {V : Value} {d : List UInt8} (h : Ln.Rd w V (Ln.u8s d)) : (convert 60 9 V).run Try.prog w = .ok (.string ⟨d.toArray⟩) w := by
  have hl : (Ln.u8s d).length = d.length := by simp [Ln.u8s]
  have hs : strOfNums (d.map fun x => (x.toNat : Int)) = ⟨d.toArray⟩ := by
    unfold strOfNums
    rw [List.map_map]
    congr 2
    conv => rhs; rw [← List.map_id d]
    refine List.map_congr_left fun x _ => ?_
    simp
  obtain ⟨A, cp, rfl⟩ := h.slice
  rw [hl] at h ⊢
  by_cases h0 : 0 < d.length
  · obtain ⟨_, b, o, rfl, _, hc⟩ := h.plain h0
    rw [← hs]
    refine run_convert_bytes_arg (P := Try.prog) w 60 5 Try.underlying60 Try.underlying5 b o d.length cp _ (by simp) (fun i hi => ?_) 9 Try.underlying9
    refine hc i _ ?_
    unfold Ln.u8s
    rw [List.getElem?_map, List.getElem?_eq_getElem hi]
    simp [List.getD_eq_getElem?_getD, List.getElem?_map, List.getElem?_eq_getElem hi]
  · have : d = [] := List.eq_nil_of_length_eq_zero (by omega)
    subst this
    exact Ln.conv0 w A cp

theorem equal_any (V1 V2 : Value) (d1 d2 : List UInt8) (w : World) (h1 : Ln.Rd w V1 (Ln.u8s d1)) (h2 : Ln.Rd w V2 (Ln.u8s d2)) :
    Calls Try.prog 73 #[V1, V2] w fun e w' => e = .returned (.bool (decide (d1 = d2))) ∧ w' = w := by
  have c1 := Ln.conv h1
  have c2 := Ln.conv h2
  clear h1 h2
  go_enter Try.func73, Try.ntmps73
  go_wp2
  go_ret
  exact ⟨congrArg (fun b => Ending.returned (.bool b)) (Bool.eq_iff_iff.2 (by simp)), rfl⟩

theorem record_at (B sb : Nat) (n : Int) (m : Ln.Mod) (w : World) (h : Ln.StAt B w sb m) (h0 : m.base ≤ n) (h1 : n < m.base + m.recs.length) (hb0 : 0 ≤ m.base) (hn : n < 9223372036854775807) :
    ∃ u, Ln.Rd w u (Ln.u8s (Ln.recordF m n)) ∧ Calls Try.prog 74 #[.pointer (some ⟨sb, 0, none⟩), .int .i64 n] w fun e w' => e = .returned u ∧ w' = w := by
  obtain ⟨_, v, h2, h3⟩ := h
  obtain ⟨c0, c1, c2, c3, c4, c5, c6, c7⟩ := Ln.cells8 h2
  obtain ⟨xs, ⟨hl, hx⟩, h4⟩ := h3
  have hlt := Qu.blk_lt h2
  obtain ⟨i, hi⟩ : ∃ i : Nat, (i : Int) = n - m.base := ⟨(n - m.base).toNat, by omega⟩
  have h5 := h4 i (by omega)
  rcases hx with ⟨_, h6⟩ | ⟨rb, cap, row, rfl, h6, h7, h8, h9, h10, h11⟩
  · omega
  have hc : w.cell? ⟨rb, i, none⟩ = some (xs.getD i undef) := by
    rw [Qu.blk_cell h7, ← Array.getElem?_toList]
    have := congrArg (fun l => l[i]?) h11
    simp only [List.getElem?_take] at this
    rw [if_pos (by omega)] at this
    rw [this, List.getD_eq_getElem?_getD, List.getElem?_eq_getElem (by omega)]
    rfl
  have hrec : m.recs.getD i [] = Ln.recordF m n := by unfold Ln.recordF; rw [← hi, Int.toNat_natCast]
  rw [hrec] at h5
  refine ⟨xs.getD i undef, Ln.Rd.of_own h5, ?_⟩
  generalize xs.getD i undef = u at hc h5
  obtain ⟨A, cp, rfl⟩ := Ln.own_slice h5
  have hrl := Qu.blk_lt h7
  have hlen : i < m.recs.length := by omega
  obtain rfl : n = m.base + i := by omega
  have hcap := h8
  clear h2 h4 h5 h7 h6 h11 h10 h9 h8 hrec hi c1 c2 c3 c4 c6 c7 hl
  have e1 : m.base + (i : Int) - m.base = i := by omega
  have hd1 : decide (i < m.recs.length) = true := by simpa using hlen
  go_enter Try.func74, Try.ntmps74
  go_wp2_with (go_at_call 58; refine (may_true _).mono ?_; rintro e w' ⟨rfl, rfl⟩)
  go_ret
  exact ⟨rfl, rfl⟩

end Go.Proofs.Ytgdeoodihhcdjaa
