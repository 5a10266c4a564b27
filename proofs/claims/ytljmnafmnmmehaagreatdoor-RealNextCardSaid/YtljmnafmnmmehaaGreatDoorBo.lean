/- The laws' begun. -/
import Derived.Test.YtljmnafmnmmehaaGreatDoorBn
import Derived.Test.YtljmnafmnmmehaaGreatDoorBm
import Derived.WalkKit
import Derived.BigQuiet
import Derived.Deep.QuietTactic
import Derived.BigRegion
import Derived.Below
import Derived.Lib.Hide
import Derived.Outline
import Derived.OwnWalk
import Derived.WalkLawsBesides
import Derived.Handy
namespace Go.Proofs.YtljmnafmnmmehaaGreatDoor
open Go.RowKit
set_option linter.unusedVariables false
set_option linter.unusedSimpArgs false

theorem Rl.fl_new (w : World) (xs : List Nat) (hl : ∀ x ∈ xs, x < 18446744073709551616) (hn : xs.length ≤ 9223372036854775807) : Rl.Fl (w.alloc (.cells (xs.map (Value.float .f64)).toArray 26)) (some ⟨w.heap.size, 0, none⟩) xs :=
  ⟨hn, fun i hi => by
    have h := heap_alloc_new w (.cells (xs.map (Value.float .f64)).toArray 26)
    refine ⟨w.heap.size, 0, rfl, Rl.blk_lt h, ?_⟩
    rw [Nat.zero_add, Rl.blk_cell h]
    simp [List.getD_eq_getElem?_getD, List.getElem?_eq_getElem hi], hl⟩
theorem Rl.min_c : Rl.outF (-1) [4607182418800017408, 9221120237041090561, 13830554455654793216] = (13830554455654793216, true) := by decide +kernel
theorem Rl.sum_c : Rl.endF (Rl.cntL [4607182418800017408, 6103021453049119613, 4607182418800017408, 15326393489903895421]) (Rl.wordsL [4607182418800017408, 6103021453049119613, 4607182418800017408, 15326393489903895421]) = 4611686018427387904 := by decide +kernel
theorem Rl.min_call (w : World) : Calls Tryz.prog 13 #[.slice (some ⟨w.heap.size, 0, none⟩) 3 3] (w.alloc (.cells #[.float .f64 4607182418800017408, .float .f64 9221120237041090561, .float .f64 13830554455654793216] 26)) fun e w' => e = .returned (.tuple #[.float .f64 13830554455654793216, .bool true]) ∧ (w.alloc (.cells #[.float .f64 4607182418800017408, .float .f64 9221120237041090561, .float .f64 13830554455654793216] 26)) = w' := by
  have h := min_any (some ⟨w.heap.size, 0, none⟩) 3 [4607182418800017408, 9221120237041090561, 13830554455654793216] _ (Rl.fl_new w _ (by decide) (by decide))
  rw [Rl.min_c] at h
  exact h
theorem Rl.sum_call (w : World) : Calls Tryz.prog 17 #[.slice (some ⟨w.heap.size, 0, none⟩) 4 4] (w.alloc (.cells #[.float .f64 4607182418800017408, .float .f64 6103021453049119613, .float .f64 4607182418800017408, .float .f64 15326393489903895421] 26)) fun e w' => e = .returned (.float .f64 4611686018427387904) ∧ Below (w.alloc (.cells #[.float .f64 4607182418800017408, .float .f64 6103021453049119613, .float .f64 4607182418800017408, .float .f64 15326393489903895421] 26)).heap.size (w.alloc (.cells #[.float .f64 4607182418800017408, .float .f64 6103021453049119613, .float .f64 4607182418800017408, .float .f64 15326393489903895421] 26)) w' := by
  have h := sum_any (some ⟨w.heap.size, 0, none⟩) 4 [4607182418800017408, 6103021453049119613, 4607182418800017408, 15326393489903895421] _ (Rl.fl_new w _ (by decide) (by decide)) (by decide)
  rw [Rl.sum_c] at h
  exact h
theorem Rl.sum_call2 (w : World) : Calls Tryz.prog 17 #[.slice (some ⟨w.heap.size + 1, 0, none⟩) 4 4] ((w.alloc (.cells #[.float .f64 4607182418800017408, .float .f64 9221120237041090561, .float .f64 13830554455654793216] 26)).alloc (.cells #[.float .f64 4607182418800017408, .float .f64 6103021453049119613, .float .f64 4607182418800017408, .float .f64 15326393489903895421] 26)) fun e w' => e = .returned (.float .f64 4611686018427387904) ∧ Below w.heap.size ((w.alloc (.cells #[.float .f64 4607182418800017408, .float .f64 9221120237041090561, .float .f64 13830554455654793216] 26)).alloc (.cells #[.float .f64 4607182418800017408, .float .f64 6103021453049119613, .float .f64 4607182418800017408, .float .f64 15326393489903895421] 26)) w' ∧ Below ((w.alloc (.cells #[.float .f64 4607182418800017408, .float .f64 9221120237041090561, .float .f64 13830554455654793216] 26)).alloc (.cells #[.float .f64 4607182418800017408, .float .f64 6103021453049119613, .float .f64 4607182418800017408, .float .f64 15326393489903895421] 26)).heap.size ((w.alloc (.cells #[.float .f64 4607182418800017408, .float .f64 9221120237041090561, .float .f64 13830554455654793216] 26)).alloc (.cells #[.float .f64 4607182418800017408, .float .f64 6103021453049119613, .float .f64 4607182418800017408, .float .f64 15326393489903895421] 26)) w' := by
  have h := Rl.sum_call (w.alloc (.cells #[.float .f64 4607182418800017408, .float .f64 9221120237041090561, .float .f64 13830554455654793216] 26))
  rw [show (w.alloc (.cells #[.float .f64 4607182418800017408, .float .f64 9221120237041090561, .float .f64 13830554455654793216] 26)).heap.size = w.heap.size + 1 from by simp] at h
  exact h.mono fun e w' ⟨h1, h2⟩ => ⟨h1, h2.mono (by simp; omega), h2⟩
set_option maxHeartbeats 8000000 in
set_option maxRecDepth 100000 in
theorem begun_any (w : World) (ht : Rl.Tab w) : Calls Tryz.prog 11 #[] w fun e w' => e = .returned (.bool true) ∧ Below w.heap.size w w' := by
  have HR := Lib.hid (read_mz w ht)
  have HT := Lib.hid ht
  have q1 : (FloatKind.f64.format.order 13830554455654793216 13830554455654793216 == some Ordering.eq) = true := by decide +kernel
  have q2 : (FloatKind.f64.format.order 4611686018427387904 4611686018427387904 == some Ordering.eq) = true := by decide +kernel
  have HCL := Lib.hid (fun W : World => class_any 9221120237041090561 (by decide) W)
  rw [show Rl.classF 9221120237041090561 = 1 from by decide +kernel] at HCL
  have HCM := Lib.hid (fun W : World => compare_any 9223372036854775808 0 (by decide) (by decide) W)
  rw [show Rl.cmpF 9223372036854775808 0 = -1 from by decide +kernel] at HCM
  have HBT := Lib.hid (fun W : World => bits_any 9223372036854775808 9223372036854775808 W)
  rw [show decide (9223372036854775808 = 9223372036854775808) = true from by decide +kernel] at HBT
  have hky := fun W : World => key_any 0 (by decide) W
  rw [show Rl.keyF 0 = 9223372036854775808 from by decide +kernel] at hky
  have HKY : Hid (∀ W : World, Calls Tryz.prog 29 #[.float .f64 0] W fun e w' => e = .returned (.int .u64 9223372036854775808) ∧ W = w') := Lib.hid hky
  clear ht hky
  go_enter Tryz.func11, Tryz.ntmps11
  go_wp2_with (first
    | (go_at_call 21; (with_reducible refine HR.out.mono ?_); rintro e w1 ⟨rfl, hb1⟩; have HB1 := Lib.hid hb1; clear hb1)
    | (go_at_call 45; (with_reducible refine (nan_any _).mono ?_); rintro e w2 ⟨rfl, rfl⟩)
    | (go_at_call 13; (with_reducible refine (Rl.min_call _).mono ?_); rintro e w3 ⟨rfl, rfl⟩)
    | (go_at_call 17; (with_reducible refine (Rl.sum_call2 _).mono ?_); rintro e w9 ⟨rfl, hb9, hb9'⟩; have HT9 := Lib.hid (((HT.out.grown (Rl.gr_below HB1.out) (by simp)).grown (Rl.gr_alloc (Rl.gr_alloc (Rl.gr_refl w1 none) _) _) (by simp)).grown (Rl.gr_below hb9') (by simp)); have HB9 := Lib.hid ((HB1.out.alloc HB1.out.size (.cells #[.float .f64 4607182418800017408, .float .f64 9221120237041090561, .float .f64 13830554455654793216] 26)).alloc (by have := HB1.out.size; simp; omega) (.cells #[.float .f64 4607182418800017408, .float .f64 6103021453049119613, .float .f64 4607182418800017408, .float .f64 15326393489903895421] 26) |>.trans (hb9.mono HB1.out.size)); clear hb9 hb9')
    | (go_at_call 20; (with_reducible refine (text_half _ HT9.out).mono ?_); rintro e w10 ⟨rfl, hb10⟩; have HB10 := Lib.hid (HB9.out.trans (hb10.mono HB9.out.size)); clear hb10)
    | (go_at_call 28; (with_reducible refine (HCL.out _).mono ?_); rintro e w4 ⟨rfl, rfl⟩)
    | (go_at_call 46; (with_reducible refine (copysign_c _).mono ?_); rintro e w5 ⟨rfl, rfl⟩)
    | (go_at_call 26; (with_reducible refine (HCM.out _).mono ?_); rintro e w6 ⟨rfl, rfl⟩)
    | (go_at_call 18; (with_reducible refine (HBT.out _).mono ?_); rintro e w7 ⟨rfl, rfl⟩)
    | (go_at_call 29; (with_reducible refine (HKY.out _).mono ?_); rintro e w8 ⟨rfl, rfl⟩))
  go_ret
  exact ⟨rfl, HB10.out⟩
end Go.Proofs.YtljmnafmnmmehaaGreatDoor
