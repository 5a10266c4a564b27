/- The sum. -/
import Derived.Test.YtljmnafmnmmehaaGreatDoorBl
import Derived.Test.YtljmnafmnmmehaaGreatDoorBg
import Derived.WalkKit
import Derived.BigQuiet
import Derived.Deep.QuietTactic
import Derived.BigRegion
import Derived.Below
import Derived.Lib.Hide
import Derived.Outline
import Derived.OwnWalk
import Derived.WalkLawsBesides
import Derived.Handy
namespace Go.Proofs.YtljmnafmnmmehaaGreatDoor
open Go.RowKit
set_option linter.unusedVariables false
set_option linter.unusedSimpArgs false

def Rl.wordsL (xs : List Nat) : List Nat := xs.foldl (fun ws x => if Rl.finB x = true then Rl.addF ws x else ws) Rl.zero36
def Rl.cntL (xs : List Nat) : Rl.Cnt := xs.foldl Rl.cntF ⟨0, 0, 0, 0, 0⟩
def Rl.sumF (xs : List Nat) : Nat :=
  if 0 < (Rl.cntL xs).n ∨ (0 < (Rl.cntL xs).l ∧ 0 < (Rl.cntL xs).g) then 9221120237041090561
  else if 0 < (Rl.cntL xs).l then 18442240474082181120
  else if 0 < (Rl.cntL xs).g then 9218868437227405312
  else if (Rl.cntL xs).o = 0 ∧ 0 < (Rl.cntL xs).z then 9223372036854775808
  else if 9223372036854775808 ≤ (Rl.wordsL xs).getD 35 0 then Rl.nearF (Rl.sizeF (Rl.wordsL xs)) ||| 9223372036854775808 else Rl.nearF (Rl.sizeF (Rl.wordsL xs))
theorem Rl.wordsL_take (xs : List Nat) (k : Nat) (h : k < xs.length) : Rl.wordsL (xs.take (k + 1)) = if Rl.finB (xs.getD k 0) = true then Rl.addF (Rl.wordsL (xs.take k)) (xs.getD k 0) else Rl.wordsL (xs.take k) := by
  unfold Rl.wordsL
  rw [List.take_add_one, List.foldl_append, List.getD_eq_getElem?_getD, List.getElem?_eq_getElem h]
  rfl
theorem Rl.cntL_take (xs : List Nat) (k : Nat) (h : k < xs.length) : Rl.cntL (xs.take (k + 1)) = Rl.cntF (Rl.cntL (xs.take k)) (xs.getD k 0) := by
  unfold Rl.cntL
  rw [List.take_add_one, List.foldl_append, List.getD_eq_getElem?_getD, List.getElem?_eq_getElem h]
  rfl
theorem Rl.fin_pw (b : Nat) (hb : b < 18446744073709551616) (h : Rl.finB b = true) : Rl.pwF b < 2047 := by
  unfold Rl.finB Rl.classF at h
  unfold Rl.pwF
  by_cases h1 : 9218868437227405312 < b % 9223372036854775808
  · rw [if_pos h1] at h; simp at h
  · by_cases h2 : b % 9223372036854775808 = 9218868437227405312
    · rw [if_neg h1, if_pos h2, if_pos h2] at h
      split at h <;> simp at h
    · omega
/-- All counts are below k. -/
def Rl.CntLe (c : Rl.Cnt) (k : Nat) : Prop := c.n ≤ k ∧ c.l ≤ k ∧ c.g ≤ k ∧ c.o ≤ k ∧ c.z ≤ k
theorem Rl.cntF_le (c : Rl.Cnt) (b k : Nat) (h : Rl.CntLe c k) : Rl.CntLe (Rl.cntF c b) (k + 1) := by
  obtain ⟨h1, h2, h3, h4, h5⟩ := h
  unfold Rl.cntF Rl.CntLe
  (repeat' split) <;> (dsimp only; omega)
theorem Rl.below_grown {B : Nat} {w w1 w2 : World} {g : Nat} (h : Below B w w1) (hg : w1.grownBy w2 (some g)) (hB : B ≤ w1.heap.size) (hr : B ≤ g) : Below B w w2 := h.grown hg hB (fun k hk => by injection hk with hk; omega)
def Rl.SumRel (w : World) (ab sb : Nat) (xs : List Nat) (gk : Nat) (iv : Value) (wr : World) : Prop :=
  ∃ k : Nat, k ≤ xs.length ∧ gk = xs.length - k ∧ iv = .int .i64 (k : Int) ∧ Rl.Wd wr ab (Rl.wordsL (xs.take k)) ∧ wr.heap[sb]? = some (.cells (Rl.cenc (Rl.cntL (xs.take k))) 63 (0, 0)) ∧ Rl.CntLe (Rl.cntL (xs.take k)) k ∧ Below w.heap.size w wr
theorem Rl.size_wd (ws : List Nat) (hl : ws.length = 36) (hx : ∀ x ∈ ws, x < 18446744073709551616) : (Rl.sizeF ws).length = 36 ∧ ∀ x ∈ Rl.sizeF ws, x < 18446744073709551616 := by
  unfold Rl.sizeF
  split
  · exact Rl.negL_wd 36 1 ws Rl.zero36 (by decide) (by decide) rfl (fun x hx => by have := List.eq_of_mem_replicate hx; omega)
  · exact ⟨hl, hx⟩
theorem Rl.packF_lt (d b : Nat) (hd : d < 18446744073709551616) : Rl.packF d b < 18446744073709551616 := by
  unfold Rl.packF
  split
  · decide
  · exact Nat.or_lt_two_pow (n := 64) (by omega) (Nat.lt_of_le_of_lt Nat.and_le_left hd)
theorem Rl.normF_lt (d b : Nat) (hd : d < 18446744073709551616) : Rl.normF d b < 18446744073709551616 := by
  unfold Rl.normF
  split
  · exact Rl.packF_lt _ _ (by decide)
  · exact Rl.packF_lt _ _ hd
theorem Rl.nearF_lt (ws : List Nat) (h : ws.getD 0 0 < 18446744073709551616) : Rl.nearF ws < 18446744073709551616 := by
  unfold Rl.nearF
  split
  · exact h
  · have hd := Rl.fromF_lt ws (Rl.lenF ws 36) 53
    refine Rl.normF_lt _ _ ?_
    split <;> omega
theorem Rl.or_top2 (x : Nat) (h : x < 18446744073709551616) : bits .or .u64 (x : Int) 9223372036854775808 = ((x ||| 9223372036854775808 : Nat) : Int) := u64_or_nat x 9223372036854775808 h (by decide)
set_option maxHeartbeats 8000000 in
set_option maxRecDepth 100000 in
theorem inf_pos (w : World) : Calls Tryz.prog 44 #[.int .i64 1] w fun e w' => e = .returned (.float .f64 9218868437227405312) ∧ w = w' := by
  have kr := Rl.run27
  go_enter Tryz.func44, Tryz.ntmps44
  go_wp2
  go_ret
  exact ⟨rfl, rfl⟩
set_option maxHeartbeats 8000000 in
set_option maxRecDepth 100000 in
theorem inf_neg (w : World) : Calls Tryz.prog 44 #[.int .i64 (-1)] w fun e w' => e = .returned (.float .f64 18442240474082181120) ∧ w = w' := by
  have kr := Rl.run27
  go_enter Tryz.func44, Tryz.ntmps44
  go_wp2
  go_ret
  exact ⟨rfl, rfl⟩
theorem Rl.Wd.rowfar {w : World} {b g : Nat} {ws : List Nat} (h : Rl.Wd w b ws) (hne : b ≠ g) (cs : Array Value) : Rl.Wd (w.setRow g cs) b ws :=
  ⟨(setRow_other w g b cs hne).trans h.at', h.len, h.lt⟩
def Rl.endF (c : Rl.Cnt) (ws : List Nat) : Nat :=
  if 0 < c.n ∨ (0 < c.l ∧ 0 < c.g) then 9221120237041090561
  else if 0 < c.l then 18442240474082181120
  else if 0 < c.g then 9218868437227405312
  else if c.o = 0 ∧ 0 < c.z then 9223372036854775808
  else if 9223372036854775808 ≤ ws.getD 35 0 then Rl.nearF (Rl.sizeF ws) ||| 9223372036854775808 else Rl.nearF (Rl.sizeF ws)
set_option maxHeartbeats 8000000 in
set_option maxRecDepth 100000 in
theorem sum_any (A : Option Addr) (cp : Nat) (xs : List Nat) (w : World) (hx : Rl.Fl w A xs) (hlen : xs.length ≤ 1000000) : Calls Tryz.prog 17 #[.slice A xs.length cp] w fun e w' => e = .returned (.float .f64 (Rl.endF (Rl.cntL xs) (Rl.wordsL xs))) ∧ Below w.heap.size w w' := by
  have HX := Lib.hid hx
  have kr := Rl.run27
  obtain ⟨F, hF⟩ : ∃ F, Rl.endF (Rl.cntL xs) (Rl.wordsL xs) = F := ⟨_, rfl⟩
  rw [hF]
  have HF := Lib.hid hF
  clear hx hF
  go_enter Tryz.func17, Tryz.ntmps17
  go_wp2_with fail
  change Code.wp _ _ _ _ ((w.alloc (.cells (Rl.wenc Rl.zero36) 61)).alloc (.cells (Rl.cenc ⟨0, 0, 0, 0, 0⟩) 63))
  have HA0 := Lib.hid ((Rl.zero_wd w).alloc (.cells (Rl.cenc ⟨0, 0, 0, 0, 0⟩) 63))
  have hs0 := heap_alloc_new (w.alloc (.cells (Rl.wenc Rl.zero36) 61)) (.cells (Rl.cenc ⟨0, 0, 0, 0, 0⟩) 63)
  rw [show (w.alloc (.cells (Rl.wenc Rl.zero36) 61)).heap.size = w.heap.size + 1 by simp] at hs0
  have HS0 := Lib.hid hs0
  have HL0 := Lib.hid (((Below.refl w.heap.size w).alloc (Nat.le_refl _) (.cells (Rl.wenc Rl.zero36) 61)).alloc (by simp) (.cells (Rl.cenc ⟨0, 0, 0, 0, 0⟩) 63))
  clear hs0
  generalize (w.alloc (.cells (Rl.wenc Rl.zero36) 61)).alloc (.cells (Rl.cenc ⟨0, 0, 0, 0, 0⟩) 63) = w0 at HA0 HS0 HL0 ⊢
  obtain ⟨ab, hab⟩ : ∃ ab, ab = w.heap.size := ⟨_, rfl⟩
  obtain ⟨sb, hsb⟩ : ∃ sb, sb = w.heap.size + 1 := ⟨_, rfl⟩
  have HAB := Lib.hid (show w.heap.size ≤ ab ∧ w.heap.size ≤ sb ∧ ab ≠ sb by omega)
  rw [← hab] at HA0
  rw [← hsb] at HS0 ⊢
  rw [← hab]
  clear hab hsb
  go_loopg [11] xs.length (fun gk iv wx => Rl.SumRel w ab sb xs gk iv wx)
  case atStart => exact ⟨0, by omega, by omega, rfl, HA0.out, HS0.out, ⟨Nat.le_refl _, Nat.le_refl _, Nat.le_refl _, Nat.le_refl _, Nat.le_refl _⟩, HL0.out⟩
  case round =>
    obtain ⟨k, hk, rfl, rfl, hwd, hcn, hcl, hlow⟩ := hrel
    clear HA0 HS0 HL0
    by_cases hlt : k < xs.length
    · have hxk := HX.out.keep hlow
      obtain ⟨b, o, rfl, hblt, hcell⟩ := hxk.cell k hlt
      have hxlt := HX.out.lt (xs.getD k 0) (by rw [List.getD_eq_getElem?_getD, List.getElem?_eq_getElem hlt]; exact List.getElem_mem _)
      have hw1 := Rl.wordsL_take xs k hlt
      have hc1 := Rl.cntL_take xs k hlt
      generalize xs.getD k 0 = x at hcell hxlt hw1 hc1
      generalize Rl.wordsL (xs.take k) = ws at hwd hw1
      generalize Rl.cntL (xs.take k) = c at hcn hcl hc1
      have hc2 := Rl.cntF_le c x k hcl
      have HCNT := Lib.hid (count_any wr sb c hcn (by obtain ⟨h1, h2, h3, h4, h5⟩ := hcl; omega) x hxlt)
      have HWD := Lib.hid hwd
      have HLOW := Lib.hid hlow
      have HC1 := Lib.hid hc1
      have HC2 := Lib.hid hc2
      cases hfin : Rl.finB x with
      | true =>
        have hpw := Rl.fin_pw x hxlt hfin
        rw [hfin, if_pos rfl] at hw1
        rw [hfin] at HCNT
        have HW1 := Lib.hid hw1
        have HADD := Lib.hid (fun (W : World) (h : Rl.Wd W ab ws) => add_any W ab ws h x hxlt hpw)
        clear hwd hcn hcl hlow hxk hxlt hw1 hc1 hc2 hfin hpw
        go_wp2_with (first
          | (go_at_call 49; (with_reducible refine HCNT.out.mono ?_); rintro e w2 ⟨rfl, h2, hg2⟩; have hwd2 : Rl.Wd w2 ab ws := ⟨(hg2.block ab (Rl.blk_lt HWD.out.at') (fun e => HAB.out.2.2 (by injection e))).trans HWD.out.at', HWD.out.len, HWD.out.lt⟩; have HWD2 := Lib.hid hwd2; have HC := Lib.hid h2; have HLOW2 := Lib.hid (Rl.below_grown HLOW.out hg2 HLOW.out.size HAB.out.2.1); clear h2 hg2 hwd2)
          | (go_at_call 50; (with_reducible refine (HADD.out _ HWD2.out).mono ?_); rintro e w3 ⟨rfl, h3, hg3⟩; have hc3 := (hg3.block sb (Rl.blk_lt HC.out) (fun e => HAB.out.2.2 (by injection e with e; exact e.symm))).trans HC.out; have HWD3 := Lib.hid h3; have HC3 := Lib.hid hc3; have HLOW3 := Lib.hid (Rl.below_grown HLOW2.out hg3 HLOW2.out.size HAB.out.1); clear h3 hg3 hc3))
        go_roundg (xs.length - (k + 1))
        case measure => omega
        case rel => exact ⟨k + 1, by omega, rfl, by go_num, by rw [HW1.out]; exact HWD3.out, by rw [HC1.out]; exact HC3.out, by rw [HC1.out]; exact HC2.out, HLOW3.out⟩
      | false =>
        rw [hfin, if_neg (by decide)] at hw1
        rw [hfin] at HCNT
        have HW1 := Lib.hid hw1
        clear hwd hcn hcl hlow hxk hxlt hw1 hc1 hc2 hfin
        go_wp2_with (go_at_call 49; (with_reducible refine HCNT.out.mono ?_); rintro e w2 ⟨rfl, h2, hg2⟩; have hwd2 : Rl.Wd w2 ab ws := ⟨(hg2.block ab (Rl.blk_lt HWD.out.at') (fun e => HAB.out.2.2 (by injection e))).trans HWD.out.at', HWD.out.len, HWD.out.lt⟩; have HWD2 := Lib.hid hwd2; have HC := Lib.hid h2; have HLOW2 := Lib.hid (Rl.below_grown HLOW.out hg2 HLOW.out.size HAB.out.2.1); clear h2 hg2 hwd2)
        go_roundg (xs.length - (k + 1))
        case measure => omega
        case rel => exact ⟨k + 1, by omega, rfl, by go_num, by rw [HW1.out]; exact HWD2.out, by rw [HC1.out]; exact HC.out, by rw [HC1.out]; exact HC2.out, HLOW2.out⟩
    · obtain rfl : k = xs.length := by omega
      rw [List.take_length] at hwd hcn hcl
      have hF := HF.out
      clear HF
      generalize Rl.wordsL xs = ws at hwd hF
      generalize Rl.cntL xs = c at hcn hcl hF
      obtain ⟨cn, cl, cg, co, cz⟩ := c
      obtain ⟨c0, c1, c2, c3, c4⟩ := hcl
      dsimp only at c0 c1 c2 c3 c4
      unfold Rl.endF at hF
      dsimp only at hF
      have x0 : wr.cell? ⟨sb, 0, none⟩ = some (.int .i64 (cn : Int)) := Rl.blk_cell hcn 0
      have x1 : wr.cell? ⟨sb, 1, none⟩ = some (.int .i64 (cl : Int)) := Rl.blk_cell hcn 1
      have x2 : wr.cell? ⟨sb, 2, none⟩ = some (.int .i64 (cg : Int)) := Rl.blk_cell hcn 2
      have x3 : wr.cell? ⟨sb, 3, none⟩ = some (.int .i64 (co : Int)) := Rl.blk_cell hcn 3
      have x4 : wr.cell? ⟨sb, 4, none⟩ = some (.int .i64 (cz : Int)) := Rl.blk_cell hcn 4
      have hlts := Rl.blk_lt hcn
      have HWD := Lib.hid hwd
      have HLOW := Lib.hid hlow
      clear hwd hcn hlow hk hlt
      by_cases n0 : 0 < cn
      · rw [if_pos (.inl n0)] at hF
        subst hF
        (go_wp2_with (first | (go_at_call 51; (with_reducible refine (none_any _).mono ?_); rintro e w5 ⟨rfl, rfl⟩) | (go_at_call 44; (with_reducible refine (inf_neg _).mono ?_); rintro e w5 ⟨rfl, rfl⟩) | (go_at_call 44; (with_reducible refine (inf_pos _).mono ?_); rintro e w5 ⟨rfl, rfl⟩) | (go_at_call 46; (with_reducible refine (copysign_c _).mono ?_); rintro e w5 ⟨rfl, rfl⟩))); go_ret; exact ⟨rfl, HLOW.out⟩
      obtain rfl : cn = 0 := by omega
      replace x0 : wr.cell? ⟨sb, 0, none⟩ = some (.int .i64 0) := x0
      by_cases l0 : 0 < cl
      · by_cases g0 : 0 < cg
        · rw [if_pos (.inr ⟨l0, g0⟩)] at hF
          clear n0
          subst hF
          (go_wp2_with (first | (go_at_call 51; (with_reducible refine (none_any _).mono ?_); rintro e w5 ⟨rfl, rfl⟩) | (go_at_call 44; (with_reducible refine (inf_neg _).mono ?_); rintro e w5 ⟨rfl, rfl⟩) | (go_at_call 44; (with_reducible refine (inf_pos _).mono ?_); rintro e w5 ⟨rfl, rfl⟩) | (go_at_call 46; (with_reducible refine (copysign_c _).mono ?_); rintro e w5 ⟨rfl, rfl⟩))); go_ret; exact ⟨rfl, HLOW.out⟩
        · rw [if_neg (by omega), if_pos l0] at hF
          obtain rfl : cg = 0 := by omega
          replace x2 : wr.cell? ⟨sb, 2, none⟩ = some (.int .i64 0) := x2
          clear n0 g0
          subst hF
          (go_wp2_with (first | (go_at_call 51; (with_reducible refine (none_any _).mono ?_); rintro e w5 ⟨rfl, rfl⟩) | (go_at_call 44; (with_reducible refine (inf_neg _).mono ?_); rintro e w5 ⟨rfl, rfl⟩) | (go_at_call 44; (with_reducible refine (inf_pos _).mono ?_); rintro e w5 ⟨rfl, rfl⟩) | (go_at_call 46; (with_reducible refine (copysign_c _).mono ?_); rintro e w5 ⟨rfl, rfl⟩))); go_ret; exact ⟨rfl, HLOW.out⟩
      obtain rfl : cl = 0 := by omega
      replace x1 : wr.cell? ⟨sb, 1, none⟩ = some (.int .i64 0) := x1
      rw [if_neg (by omega), if_neg l0] at hF
      by_cases g0 : 0 < cg
      · rw [if_pos g0] at hF
        clear n0 l0
        subst hF
        (go_wp2_with (first | (go_at_call 51; (with_reducible refine (none_any _).mono ?_); rintro e w5 ⟨rfl, rfl⟩) | (go_at_call 44; (with_reducible refine (inf_neg _).mono ?_); rintro e w5 ⟨rfl, rfl⟩) | (go_at_call 44; (with_reducible refine (inf_pos _).mono ?_); rintro e w5 ⟨rfl, rfl⟩) | (go_at_call 46; (with_reducible refine (copysign_c _).mono ?_); rintro e w5 ⟨rfl, rfl⟩))); go_ret; exact ⟨rfl, HLOW.out⟩
      obtain rfl : cg = 0 := by omega
      replace x2 : wr.cell? ⟨sb, 2, none⟩ = some (.int .i64 0) := x2
      rw [if_neg g0] at hF
      by_cases z0 : co = 0 ∧ 0 < cz
      · rw [if_pos z0] at hF
        obtain ⟨rfl, z1⟩ := z0
        replace x3 : wr.cell? ⟨sb, 3, none⟩ = some (.int .i64 0) := x3
        clear n0 l0 g0
        subst hF
        (go_wp2_with (first | (go_at_call 51; (with_reducible refine (none_any _).mono ?_); rintro e w5 ⟨rfl, rfl⟩) | (go_at_call 44; (with_reducible refine (inf_neg _).mono ?_); rintro e w5 ⟨rfl, rfl⟩) | (go_at_call 44; (with_reducible refine (inf_pos _).mono ?_); rintro e w5 ⟨rfl, rfl⟩) | (go_at_call 46; (with_reducible refine (copysign_c _).mono ?_); rintro e w5 ⟨rfl, rfl⟩))); go_ret; exact ⟨rfl, HLOW.out⟩
      rw [if_neg z0] at hF
      have HSIZE := Lib.hid (size_any wr ab ws HWD.out)
      have hszw := Rl.size_wd ws HWD.out.len HWD.out.lt
      have hs0 : (Rl.sizeF ws).getD 0 0 < 18446744073709551616 := by
        rw [List.getD_eq_getElem?_getD, List.getElem?_eq_getElem (by rw [hszw.1]; decide)]
        exact hszw.2 _ (List.getElem_mem _)
      have hnl := Rl.nearF_lt (Rl.sizeF ws) hs0
      have kor := Rl.or_top2 (Rl.nearF (Rl.sizeF ws)) hnl
      generalize Rl.sizeF ws = sz at HSIZE hszw kor hF
      have HSZW := Lib.hid hszw
      have HSO := Lib.hid (show (Tryz.prog.info? 61).map (·.size) = some (Rl.wenc sz).size by rw [Tryz.size61, Rl.wenc_size, hszw.1])
      have HSP := Lib.hid (show (Rl.wenc Rl.zero36).size = (Rl.wenc sz).size by rw [Rl.wenc_size, Rl.wenc_size, hszw.1]; rfl)
      clear hszw hs0 hnl n0 l0 g0
      by_cases o0 : co = 0
      · obtain rfl : cz = 0 := by omega
        subst o0
        replace x3 : wr.cell? ⟨sb, 3, none⟩ = some (.int .i64 0) := x3
        replace x4 : wr.cell? ⟨sb, 4, none⟩ = some (.int .i64 0) := x4
        clear z0
        by_cases hs : 9223372036854775808 ≤ ws.getD 35 0
        · rw [if_pos hs] at hF
          subst hF
          have HSGN := Lib.hid (decide_eq_true hs)
          clear hs
          (go_wp2_with (first | (go_at_call 52; (with_reducible refine HSIZE.out.mono ?_); rintro e w5 ⟨rfl, hb5⟩; have HWD5 := Lib.hid (HWD.out.below hb5); have HL5 := Lib.hid (HLOW.out.trans (hb5.mono HLOW.out.size)); have hlt5 := Rl.blk_lt HWD5.out.at'; clear hb5) | (refine wpList_store_row rfl 61 (.tmp 7) (.tmp 55) rfl w5.heap.size (Rl.wenc sz) rfl rfl 61 (Rl.wenc Rl.zero36) (heap_alloc_new w5 _) HSO.out HSP.out (Rl.wenc_one _) ?_) | (go_at_call 53; (change Calls Tryz.prog 53 _ ((w5.alloc (.cells (Rl.wenc Rl.zero36) 61)).setRow w5.heap.size (Rl.wenc sz)) _); have HW6 := Lib.hid ((Rl.zero_wd w5).row HSZW.out.1 HSZW.out.2); have HA6 := Lib.hid ((HWD5.out.alloc (.cells (Rl.wenc Rl.zero36) 61)).rowfar (g := w5.heap.size) (Nat.ne_of_lt (Rl.blk_lt HWD5.out.at')) (Rl.wenc sz)); have HL6 := Lib.hid (Rl.below_row (HL5.out.alloc HL5.out.size (.cells (Rl.wenc Rl.zero36) 61)) HL5.out.size (Rl.wenc sz)); generalize (w5.alloc (.cells (Rl.wenc Rl.zero36) 61)).setRow w5.heap.size (Rl.wenc sz) = w6 at HW6 HA6 HL6 ⊢; have hb6 := below_any w6 ab ws HA6.out; rw [HSGN.out] at hb6; have HB6 := Lib.hid hb6; clear hb6; (with_reducible refine (nearest_any w6 _ sz HW6.out).mono ?_); rintro e w7 ⟨rfl, rfl⟩) | (go_at_call 54; (with_reducible refine HB6.out.mono ?_); rintro e w8 ⟨rfl, rfl⟩))); go_ret; exact ⟨rfl, HL6.out⟩
        · rw [if_neg hs] at hF
          subst hF
          have HSGN := Lib.hid (decide_eq_false hs)
          clear hs kor
          (go_wp2_with (first | (go_at_call 52; (with_reducible refine HSIZE.out.mono ?_); rintro e w5 ⟨rfl, hb5⟩; have HWD5 := Lib.hid (HWD.out.below hb5); have HL5 := Lib.hid (HLOW.out.trans (hb5.mono HLOW.out.size)); have hlt5 := Rl.blk_lt HWD5.out.at'; clear hb5) | (refine wpList_store_row rfl 61 (.tmp 7) (.tmp 55) rfl w5.heap.size (Rl.wenc sz) rfl rfl 61 (Rl.wenc Rl.zero36) (heap_alloc_new w5 _) HSO.out HSP.out (Rl.wenc_one _) ?_) | (go_at_call 53; (change Calls Tryz.prog 53 _ ((w5.alloc (.cells (Rl.wenc Rl.zero36) 61)).setRow w5.heap.size (Rl.wenc sz)) _); have HW6 := Lib.hid ((Rl.zero_wd w5).row HSZW.out.1 HSZW.out.2); have HA6 := Lib.hid ((HWD5.out.alloc (.cells (Rl.wenc Rl.zero36) 61)).rowfar (g := w5.heap.size) (Nat.ne_of_lt (Rl.blk_lt HWD5.out.at')) (Rl.wenc sz)); have HL6 := Lib.hid (Rl.below_row (HL5.out.alloc HL5.out.size (.cells (Rl.wenc Rl.zero36) 61)) HL5.out.size (Rl.wenc sz)); generalize (w5.alloc (.cells (Rl.wenc Rl.zero36) 61)).setRow w5.heap.size (Rl.wenc sz) = w6 at HW6 HA6 HL6 ⊢; have hb6 := below_any w6 ab ws HA6.out; rw [HSGN.out] at hb6; have HB6 := Lib.hid hb6; clear hb6; (with_reducible refine (nearest_any w6 _ sz HW6.out).mono ?_); rintro e w7 ⟨rfl, rfl⟩) | (go_at_call 54; (with_reducible refine HB6.out.mono ?_); rintro e w8 ⟨rfl, rfl⟩))); go_ret; exact ⟨rfl, HL6.out⟩
      · have e3 : ((co : Int) == 0) = false := beq_eq_false_iff_ne.2 (by omega)
        clear o0 z0
        by_cases hs : 9223372036854775808 ≤ ws.getD 35 0
        · rw [if_pos hs] at hF
          subst hF
          have HSGN := Lib.hid (decide_eq_true hs)
          clear hs
          (go_wp2_with (first | (go_at_call 52; (with_reducible refine HSIZE.out.mono ?_); rintro e w5 ⟨rfl, hb5⟩; have HWD5 := Lib.hid (HWD.out.below hb5); have HL5 := Lib.hid (HLOW.out.trans (hb5.mono HLOW.out.size)); have hlt5 := Rl.blk_lt HWD5.out.at'; clear hb5) | (refine wpList_store_row rfl 61 (.tmp 7) (.tmp 55) rfl w5.heap.size (Rl.wenc sz) rfl rfl 61 (Rl.wenc Rl.zero36) (heap_alloc_new w5 _) HSO.out HSP.out (Rl.wenc_one _) ?_) | (go_at_call 53; (change Calls Tryz.prog 53 _ ((w5.alloc (.cells (Rl.wenc Rl.zero36) 61)).setRow w5.heap.size (Rl.wenc sz)) _); have HW6 := Lib.hid ((Rl.zero_wd w5).row HSZW.out.1 HSZW.out.2); have HA6 := Lib.hid ((HWD5.out.alloc (.cells (Rl.wenc Rl.zero36) 61)).rowfar (g := w5.heap.size) (Nat.ne_of_lt (Rl.blk_lt HWD5.out.at')) (Rl.wenc sz)); have HL6 := Lib.hid (Rl.below_row (HL5.out.alloc HL5.out.size (.cells (Rl.wenc Rl.zero36) 61)) HL5.out.size (Rl.wenc sz)); generalize (w5.alloc (.cells (Rl.wenc Rl.zero36) 61)).setRow w5.heap.size (Rl.wenc sz) = w6 at HW6 HA6 HL6 ⊢; have hb6 := below_any w6 ab ws HA6.out; rw [HSGN.out] at hb6; have HB6 := Lib.hid hb6; clear hb6; (with_reducible refine (nearest_any w6 _ sz HW6.out).mono ?_); rintro e w7 ⟨rfl, rfl⟩) | (go_at_call 54; (with_reducible refine HB6.out.mono ?_); rintro e w8 ⟨rfl, rfl⟩))); go_ret; exact ⟨rfl, HL6.out⟩
        · rw [if_neg hs] at hF
          subst hF
          have HSGN := Lib.hid (decide_eq_false hs)
          clear hs kor
          (go_wp2_with (first | (go_at_call 52; (with_reducible refine HSIZE.out.mono ?_); rintro e w5 ⟨rfl, hb5⟩; have HWD5 := Lib.hid (HWD.out.below hb5); have HL5 := Lib.hid (HLOW.out.trans (hb5.mono HLOW.out.size)); have hlt5 := Rl.blk_lt HWD5.out.at'; clear hb5) | (refine wpList_store_row rfl 61 (.tmp 7) (.tmp 55) rfl w5.heap.size (Rl.wenc sz) rfl rfl 61 (Rl.wenc Rl.zero36) (heap_alloc_new w5 _) HSO.out HSP.out (Rl.wenc_one _) ?_) | (go_at_call 53; (change Calls Tryz.prog 53 _ ((w5.alloc (.cells (Rl.wenc Rl.zero36) 61)).setRow w5.heap.size (Rl.wenc sz)) _); have HW6 := Lib.hid ((Rl.zero_wd w5).row HSZW.out.1 HSZW.out.2); have HA6 := Lib.hid ((HWD5.out.alloc (.cells (Rl.wenc Rl.zero36) 61)).rowfar (g := w5.heap.size) (Nat.ne_of_lt (Rl.blk_lt HWD5.out.at')) (Rl.wenc sz)); have HL6 := Lib.hid (Rl.below_row (HL5.out.alloc HL5.out.size (.cells (Rl.wenc Rl.zero36) 61)) HL5.out.size (Rl.wenc sz)); generalize (w5.alloc (.cells (Rl.wenc Rl.zero36) 61)).setRow w5.heap.size (Rl.wenc sz) = w6 at HW6 HA6 HL6 ⊢; have hb6 := below_any w6 ab ws HA6.out; rw [HSGN.out] at hb6; have HB6 := Lib.hid hb6; clear hb6; (with_reducible refine (nearest_any w6 _ sz HW6.out).mono ?_); rintro e w7 ⟨rfl, rfl⟩) | (go_at_call 54; (with_reducible refine HB6.out.mono ?_); rintro e w8 ⟨rfl, rfl⟩))); go_ret; exact ⟨rfl, HL6.out⟩
end Go.Proofs.YtljmnafmnmmehaaGreatDoor
