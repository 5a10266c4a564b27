/- The size of the 36 words. -/
import Derived.Test.YtljmnafmnmmehaaGreatDoorBk
import Derived.Laws.Tables
import Derived.Deep.RegionWith
import Derived.Deep.LoopGhost
import Derived.WalkKit
import Derived.BigQuiet
import Derived.Deep.QuietTactic
import Derived.BigRegion
import Derived.Below
import Derived.Lib.Hide
import Derived.Outline
import Derived.OwnWalk
import Derived.WalkLawsBesides
import Derived.Handy
namespace Go.Proofs.YtljmnafmnmmehaaGreatDoor
open Go.RowKit
set_option linter.unusedVariables false
set_option linter.unusedSimpArgs false

theorem Tryz.size61 : (Tryz.prog.info? 61).map (·.size) = some 36 := by kernel_rfl
theorem Tryz.isAgg61 (w : World) : (isAgg 61).run Tryz.prog w = .ok true w := by kernel_rfl
theorem Tryz.sizeOf61 (w : World) : (sizeOf 61).run Tryz.prog w = .ok 36 w := by kernel_rfl
theorem Rl.wenc_size (ws : List Nat) : (Rl.wenc ws).size = ws.length := by simp [Rl.wenc]
theorem Rl.wenc_one (ws : List Nat) : (Rl.wenc ws).all (·.oneCell') = true := by
  simp [Rl.wenc, Rl.wval, Value.oneCell']
theorem Rl.res52 {w : World} {tmps : Array Value} {b : Nat} {ws : List Nat} (h : Rl.Wd w b ws) (ht : tmps.getD 2 undef = .pointer (some ⟨b, 0, none⟩)) : (results Tryz.f52 tmps).run Tryz.prog w = .ok (.agg (Rl.wenc ws)) w :=
  results_cell_row (show Tryz.f52.results = #[.cell 2 61] by kernel_rfl) tmps w b 61 (Rl.wenc ws) (0, 0) _ ht h.at' Tryz.underlying61 rfl (by rw [Tryz.size61, Rl.wenc_size, h.len])
theorem Rl.Wd.below {w w' : World} {b : Nat} {ws : List Nat} (h : Rl.Wd w b ws) (hb : Below w.heap.size w w') : Rl.Wd w' b ws := ⟨(hb.block b (Rl.blk_lt h.at')).trans h.at', h.len, h.lt⟩
theorem Rl.Wd.alloc {w : World} {b : Nat} {ws : List Nat} (h : Rl.Wd w b ws) (o : Obj) : Rl.Wd (w.alloc o) b ws := ⟨Rl.blk_alloc h.at' o, h.len, h.lt⟩
def Rl.zero36 : List Nat := List.replicate 36 0
/-- Turned round: all bits, and one. -/
def Rl.negL : Nat → Nat → List Nat → List Nat → List Nat
  | 0, _, _, out => out
  | f + 1, c, ws, out => Rl.negL f (Rl.stepF false (18446744073709551615 - ws.getD (36 - (f + 1)) 0) 0 c).2 ws (out.set (36 - (f + 1)) (Rl.stepF false (18446744073709551615 - ws.getD (36 - (f + 1)) 0) 0 c).1)
def Rl.sizeF (ws : List Nat) : List Nat := if 9223372036854775808 ≤ ws.getD 35 0 then Rl.negL 36 1 ws Rl.zero36 else ws
theorem Rl.zero_wd (w : World) : Rl.Wd (w.alloc (.cells (Rl.wenc Rl.zero36) 61)) w.heap.size Rl.zero36 :=
  ⟨heap_alloc_new w _, by decide, fun x hx => by
    have := List.eq_of_mem_replicate hx
    omega⟩
theorem Rl.Wd.row {w : World} {b : Nat} {ws vs : List Nat} (h : Rl.Wd w b ws) (hv : vs.length = 36) (hl : ∀ x ∈ vs, x < 18446744073709551616) : Rl.Wd (w.setRow b (Rl.wenc vs)) b vs :=
  ⟨setRow_heap w b _ (Rl.wenc vs) 61 (0, 0) h.at', hv, hl⟩
theorem Rl.below_row {B g : Nat} {w w1 : World} (h : Below B w w1) (hg : B ≤ g) (cs : Array Value) : Below B w (w1.setRow g cs) :=
  ⟨h.os, h.tape, h.output, by have := h.size; simpa using this, fun i hi => (setRow_other w1 g i cs (by omega)).trans (h.block i hi)⟩
theorem Rl.negL_wd : ∀ (f c : Nat) (ws out : List Nat), f ≤ 36 → c ≤ 1 → out.length = 36 → (∀ x ∈ out, x < 18446744073709551616) → (Rl.negL f c ws out).length = 36 ∧ ∀ x ∈ Rl.negL f c ws out, x < 18446744073709551616
  | 0, c, ws, out, _, _, h1, h2 => ⟨h1, h2⟩
  | f + 1, c, ws, out, hf, hc, h1, h2 => by
    have hs := Rl.step_lt false (18446744073709551615 - ws.getD (36 - (f + 1)) 0) 0 c (by omega) (by decide) hc
    refine Rl.negL_wd f _ ws _ (by omega) hs.2 (by rw [List.length_set]; exact h1) fun x hx => ?_
    rcases List.mem_or_eq_of_mem_set hx with h | rfl
    · exact h2 x h
    · exact hs.1
theorem Rl.Wd.far {w : World} {b ob : Nat} {ws : List Nat} (h : Rl.Wd w b ws) (hne : b ≠ ob) (i : Nat) (v : Value) : Rl.Wd (w.setCell ⟨ob, i, none⟩ v) b ws :=
  ⟨(Below.heap_setCell _ _ _ _ (show b ≠ _ from hne)).trans h.at', h.len, h.lt⟩
theorem Rl.negL_succ (f c : Nat) (ws out : List Nat) : Rl.negL (f + 1) c ws out = Rl.negL f (Rl.stepF false (18446744073709551615 - ws.getD (36 - (f + 1)) 0) 0 c).2 ws (out.set (36 - (f + 1)) (Rl.stepF false (18446744073709551615 - ws.getD (36 - (f + 1)) 0) 0 c).1) := rfl
theorem Rl.negL_step (k c : Nat) (ws out : List Nat) (hk : k < 36) : Rl.negL (36 - k) c ws out = Rl.negL (36 - (k + 1)) (Rl.stepF false (18446744073709551615 - ws.getD k 0) 0 c).2 ws (out.set k (Rl.stepF false (18446744073709551615 - ws.getD k 0) 0 c).1) := by
  obtain ⟨f, hf⟩ : ∃ f, 36 - k = f + 1 := ⟨35 - k, by omega⟩
  rw [hf, Rl.negL_succ, show 36 - (f + 1) = k from by omega, show 36 - (k + 1) = f from by omega]
def Rl.NegRel (w : World) (b rb ob : Nat) (ws fin : List Nat) (gk : Nat) (iv cv : Value) (wr : World) : Prop :=
  ∃ (k c : Nat) (out : List Nat), k ≤ 36 ∧ gk = 36 - k ∧ iv = .int .i64 (k : Int) ∧ cv = .int .u64 (c : Int) ∧ c ≤ 1 ∧ Rl.Wd wr ob out ∧ Rl.Wd wr b ws ∧ Rl.Wd wr rb Rl.zero36 ∧ Below w.heap.size w wr ∧ Rl.negL (36 - k) c ws out = fin
set_option maxHeartbeats 8000000 in
set_option maxRecDepth 100000 in
theorem size_any (w : World) (b : Nat) (ws : List Nat) (h : Rl.Wd w b ws) : Calls Tryz.prog 52 #[.pointer (some ⟨b, 0, none⟩)] w fun e w' => e = .returned (.agg (Rl.wenc (Rl.sizeF ws))) ∧ Below w.heap.size w w' := by
  have hlt := Rl.blk_lt h.at'
  have H := Lib.hid h
  have HB0 := below_any (w.alloc (.cells (Rl.wenc Rl.zero36) 61)) b ws (h.alloc _)
  have HSZ := Lib.hid (show (Tryz.prog.info? 61).map (·.size) = some (Rl.wenc ws).size by rw [Tryz.size61, Rl.wenc_size, h.len])
  have HSE := Lib.hid (show (Rl.wenc Rl.zero36).size = (Rl.wenc ws).size by rw [Rl.wenc_size, Rl.wenc_size, h.len]; rfl)
  unfold Rl.sizeF
  by_cases hs : 9223372036854775808 ≤ ws.getD 35 0
  · rw [if_pos hs]
    rw [decide_eq_true hs] at HB0
    have HB := Lib.hid HB0
    have HN := Lib.hid (Rl.negL_wd 36 1 ws Rl.zero36 (by decide) (by decide) rfl (fun x hx => by have := List.eq_of_mem_replicate hx; omega))
    generalize hfin : Rl.negL 36 1 ws Rl.zero36 = fin at HN ⊢
    have HFIN := Lib.hid hfin
    clear h hs HB0 hfin
    go_enter Tryz.func52, Tryz.ntmps52
    go_wp2_with (first
      | (go_at_call 54; (change Calls Tryz.prog 54 _ (w.alloc (.cells (Rl.wenc Rl.zero36) 61)) _); (with_reducible refine HB.out.mono ?_); rintro e w2 ⟨rfl, rfl⟩; have HZ := Lib.hid (Rl.zero_wd w); have H2 := Lib.hid (H.out.alloc (.cells (Rl.wenc Rl.zero36) 61)); have HL := Lib.hid (Below.alloc (Below.refl w.heap.size w) (Nat.le_refl _) (.cells (Rl.wenc Rl.zero36) 61)); generalize w.alloc (.cells (Rl.wenc Rl.zero36) 61) = w1 at HZ H2 HL ⊢; have hl2 := Rl.blk_lt H2.out.at'; have hl3 := Rl.blk_lt HZ.out.at')
      | (refine wpList_load_row rfl 61 (.tmp 11) rfl b rfl 61 (Rl.wenc ws) (0, 0) _ H2.out.at' Tryz.underlying61 rfl HSZ.out ?_)
      | (refine wpList_store_row rfl 61 (.tmp 2) (.tmp 12) rfl w.heap.size (Rl.wenc ws) rfl rfl 61 (Rl.wenc Rl.zero36) HZ.out.at' HSZ.out HSE.out (Rl.wenc_one ws) ?_))
    change Code.wp _ _ _ _ (w1.alloc (.cells (Rl.wenc Rl.zero36) 61))
    have HZ3 := Lib.hid (Rl.zero_wd w1)
    have H23 := Lib.hid (H2.out.alloc (.cells (Rl.wenc Rl.zero36) 61))
    have HR3 := Lib.hid (HZ.out.alloc (.cells (Rl.wenc Rl.zero36) 61))
    have HL3 := Lib.hid (HL.out.alloc HL.out.size (.cells (Rl.wenc Rl.zero36) 61))
    generalize w1.alloc (.cells (Rl.wenc Rl.zero36) 61) = w3 at HZ3 H23 HR3 HL3 ⊢
    have hne : b ≠ w1.heap.size ∧ w.heap.size ≠ w1.heap.size ∧ w.heap.size ≤ w1.heap.size := by omega
    have HNE := Lib.hid hne
    clear hl2 hl3 HZ H2 HL hne
    generalize w1.heap.size = ob at HZ3 HNE ⊢
    obtain ⟨rb, hrb⟩ : ∃ rb, rb = w.heap.size := ⟨_, rfl⟩
    rw [← hrb]
    have HRB := Lib.hid hrb
    rw [← hrb] at HR3
    clear hrb hlt HSZ HSE HB HN
    go_loopg [4, 14] 36 (fun gk cv iv wx => Rl.NegRel w b rb ob ws fin gk iv cv wx)
    case atStart => exact ⟨0, 1, Rl.zero36, by omega, rfl, rfl, rfl, by decide, HZ3.out, H23.out, HR3.out, HL3.out, HFIN.out⟩
    case round =>
      obtain ⟨k, c, out, hk, rfl, rfl, rfl, hc, ho, hb2, hr, hlow, hF⟩ := hrel
      clear HFIN HZ3 H23 HR3 HL3 H
      have HO := Lib.hid ho
      have HR := Lib.hid hr
      have HW := Lib.hid hb2
      have HLW := Lib.hid hlow
      have hzo := Rl.blk_lt ho.at'
      have hzb := Rl.blk_lt hb2.at'
      have hzr := Rl.blk_lt hr.at'
      by_cases hlt36 : k < 36
      · have z0 := hb2.cell k hlt36
        have y0 := ho.cell k hlt36
        have g0 := Rl.blk_frozen ho.at' k
        have xlt := hb2.get k
        rw [Rl.negL_step k c ws out hlt36] at hF
        generalize ws.getD k 0 = x at z0 xlt hF
        have kx := Rl.xor_all x xlt
        obtain ⟨y, hy⟩ : ∃ y, 18446744073709551615 - x = y := ⟨_, rfl⟩
        rw [hy] at hF kx
        have b2 := Rl.step_lt false y 0 c (by omega) (by decide) hc
        have a2 : ∀ W : World, Sem.run Tryz.prog (callFunc 65 #[.int .u64 (y : Int), .int .u64 0, .int .u64 (c : Int)]) W = .ok (.value (.tuple #[.int .u64 ((Rl.stepF false y 0 c).1 : Nat), .int .u64 ((Rl.stepF false y 0 c).2 : Nat)])) W := Rl.run65 y 0 c (by omega) (by decide) hc
        generalize Rl.stepF false y 0 c = S at hF b2 a2
        obtain ⟨s, c2⟩ := S
        dsimp only at hF b2 a2
        have HF := Lib.hid hF
        have B2 := Lib.hid b2
        have hk2 : decide ((k : Int) < 36) = true := decide_eq_true (by omega)
        have HK := Lib.hid hlt36
        clear ho hb2 hr hlow hF b2 xlt hy hk hlt36
        go_wp2_with fail
        have hk3 := HK.out
        go_region
        go_wp2_with fail
        go_roundg (36 - (k + 1))
        case measure => omega
        case rel => exact ⟨k + 1, c2, _, by omega, rfl, by go_num, rfl, B2.out.2, (HO.out.drew).set k s B2.out.1, (HW.out.drew).far HNE.out.1 k _, (HR.out.drew).far (by rw [HRB.out]; exact HNE.out.2.1) k _, (HLW.out.drew).setCell HNE.out.2.2 _, HF.out⟩
      · obtain rfl : k = 36 := by omega
        replace hF : out = fin := hF
        subst hF
        clear ho hb2 hr hlow hk hlt36
        have HSO := Lib.hid (show (Tryz.prog.info? 61).map (·.size) = some (Rl.wenc out).size by rw [Tryz.size61, Rl.wenc_size, HO.out.len])
        have HSP := Lib.hid (show (Rl.wenc Rl.zero36).size = (Rl.wenc out).size by rw [Rl.wenc_size, Rl.wenc_size, HO.out.len]; rfl)
        go_wp2_with (first
          | (refine wpList_load_row rfl 61 (.tmp 3) rfl ob rfl 61 (Rl.wenc out) (0, 0) _ HO.out.at' Tryz.underlying61 rfl HSO.out ?_)
          | (refine wpList_store_row rfl 61 (.tmp 2) (.tmp 30) rfl rb (Rl.wenc out) rfl rfl 61 (Rl.wenc Rl.zero36) HR.out.at' HSO.out HSP.out (Rl.wenc_one out) ?_))
        exact bodyPost_ret (v := .agg (Rl.wenc out)) (Rl.res52 (HR.out.row HO.out.len HO.out.lt) rfl) rfl ⟨rfl, Rl.below_row HLW.out (Nat.le_of_eq HRB.out.symm) _⟩
  · rw [if_neg hs]
    rw [decide_eq_false hs] at HB0
    have HB := Lib.hid HB0
    clear h hs HB0
    go_enter Tryz.func52, Tryz.ntmps52
    go_wp2_with (first
      | (go_at_call 54; (change Calls Tryz.prog 54 _ (w.alloc (.cells (Rl.wenc Rl.zero36) 61)) _); (with_reducible refine HB.out.mono ?_); rintro e w2 ⟨rfl, rfl⟩; have HZ := Lib.hid (Rl.zero_wd w); have H2 := Lib.hid (H.out.alloc (.cells (Rl.wenc Rl.zero36) 61)); have HL := Lib.hid (Below.alloc (Below.refl w.heap.size w) (Nat.le_refl _) (.cells (Rl.wenc Rl.zero36) 61)); generalize w.alloc (.cells (Rl.wenc Rl.zero36) 61) = w1 at HZ H2 HL ⊢; have hl2 := Rl.blk_lt H2.out.at'; have hl3 := Rl.blk_lt HZ.out.at')
      | (refine wpList_load_row rfl 61 (.tmp 11) rfl b rfl 61 (Rl.wenc ws) (0, 0) _ H2.out.at' Tryz.underlying61 rfl HSZ.out ?_)
      | (refine wpList_store_row rfl 61 (.tmp 2) (.tmp 12) rfl w.heap.size (Rl.wenc ws) rfl rfl 61 (Rl.wenc Rl.zero36) HZ.out.at' HSZ.out HSE.out (Rl.wenc_one ws) ?_))
    exact bodyPost_ret (v := .agg (Rl.wenc ws)) (Rl.res52 (HZ.out.row H.out.len H.out.lt) rfl) rfl ⟨rfl, Rl.below_row HL.out (Nat.le_refl _) _⟩
end Go.Proofs.YtljmnafmnmmehaaGreatDoor
