/- The contract of linear.begun, where it begins. -/
import Derived.Test.YtgdeoodihhcdjaaNe
import Derived.Test.YtgdeoodihhcdjaaLc
import Derived.Laws.BitsAllLaws
namespace Go.Proofs.Ytgdeoodihhcdjaa
open Go.RowKit
set_option linter.unusedVariables false
set_option linter.unusedSimpArgs false


theorem Ln.made3s (w : World) (a b c : Obj) : (((w.alloc a).alloc b).alloc c).heap.size = w.heap.size + 3 ∧ (((w.alloc a).alloc b).alloc c).heap[w.heap.size]? = some a ∧ (((w.alloc a).alloc b).alloc c).heap[w.heap.size + 1]? = some b ∧ (((w.alloc a).alloc b).alloc c).heap[w.heap.size + 1 + 1]? = some c := by
  have e1 : (w.alloc a).heap.size = w.heap.size + 1 := by simp
  have e2 : ((w.alloc a).alloc b).heap.size = w.heap.size + 1 + 1 := by simp
  have b1 := heap_alloc_new w a
  have b2 := heap_alloc_new (w.alloc a) b
  have b3 := heap_alloc_new ((w.alloc a).alloc b) c
  rw [e1] at b2
  rw [e2] at b3
  exact ⟨by simp, Qu.blk_alloc (Qu.blk_alloc b1 _) _, Qu.blk_alloc b2 _, b3⟩
/-- A row of masks. -/
def Ln.barr (n : Nat) (f : Nat → Nat) : Array Value := ((List.range n).map fun j => Value.int .u64 (f j : Int)).toArray
theorem Ln.barr_size (n : Nat) (f : Nat → Nat) : (Ln.barr n f).size = n := by simp [Ln.barr]
theorem Ln.barr_get (n : Nat) (f : Nat → Nat) (j : Nat) (h : j < n) : (Ln.barr n f)[j]? = some (.int .u64 (f j : Int)) := by simp [Ln.barr, h]
theorem Ln.barr_ext {n : Nat} {f g : Nat → Nat} (h : ∀ j, j < n → f j = g j) : Ln.barr n f = Ln.barr n g := by
  unfold Ln.barr
  congr 1
  refine List.map_congr_left fun j hj => ?_
  rw [h j (List.mem_range.1 hj)]
theorem Ln.barr_set (n : Nat) (f : Nat → Nat) (i v : Nat) : (Ln.barr n f).setIfInBounds i (.int .u64 (v : Int)) = Ln.barr n (fun j => if j = i then v else f j) := by
  refine Array.ext_getElem? fun j => ?_
  by_cases hj : j < n
  · rw [Ln.barr_get n _ j hj, Array.getElem?_setIfInBounds]
    by_cases e : i = j
    · subst e
      rw [if_pos rfl, if_pos (by rw [Ln.barr_size]; exact hj), if_pos rfl]
    · rw [if_neg e, Ln.barr_get n f j hj, if_neg (fun h => e h.symm)]
  · rw [Array.getElem?_eq_none (by rw [Array.size_setIfInBounds, Ln.barr_size]; omega), Array.getElem?_eq_none (by rw [Ln.barr_size]; omega)]
theorem Ln.barr_zero (n : Nat) (f : Nat → Nat) (h : ∀ j, j < n → f j = 0) : madeCells #[Value.int IntKind.u64 0] n = Ln.barr n f := by
  refine Array.ext_getElem? fun j => ?_
  by_cases hj : j < n
  · rw [Ln.barr_get n f j hj, h j hj]
    simp [madeCells, hj, Nat.mod_one]
  · rw [Array.getElem?_eq_none (by rw [size_madeCells]; omega), Array.getElem?_eq_none (by rw [Ln.barr_size]; omega)]
theorem Ln.pow_u64 (i : Nat) (hi : i < 64) : IntKind.u64.wrap ((2 : Int) ^ i) = ((1 <<< i : Nat) : Int) := by
  rw [IntKind.wrap_u64, Nat.one_shiftLeft]
  have h : (2 : Nat) ^ i < 2 ^ 64 := Nat.pow_lt_pow_right (by omega) hi
  have e : ((2 ^ i : Nat) : Int) = (2 : Int) ^ i := by simp
  rw [← e]
  exact Int.emod_eq_of_lt (Int.natCast_nonneg _) (Int.ofNat_lt.2 h)
theorem Ln.or_u64 (a i : Nat) (ha : a < 18446744073709551616) (hi : i < 64) : bits .or .u64 (a : Int) (IntKind.u64.wrap ((2 : Int) ^ i)) = ((a ||| 1 <<< i : Nat) : Int) := by
  rw [Ln.pow_u64 i hi]
  refine u64_or_nat a _ ha ?_
  rw [Nat.one_shiftLeft]
  exact Nat.pow_lt_pow_right (a := 2) (by omega) hi
theorem Ln.maskF_lt (p : Nat → Bool) (n : Nat) : Ln.maskF p n < 2 ^ n := by
  induction n with
  | zero => simp [Ln.maskF]
  | succ n ih =>
    unfold Ln.maskF
    have h2 : 2 ^ n < 2 ^ (n + 1) := Nat.pow_lt_pow_right (by omega) (by omega)
    split
    · exact Nat.or_lt_two_pow (by omega) (by rw [Nat.one_shiftLeft]; exact h2)
    · omega
theorem Ln.mask_no (p : Nat → Bool) (i : Nat) (h : p i = false) : Ln.maskF p (i + 1) = Ln.maskF p i := by
  simp only [Ln.maskF]
  rw [if_neg (by rw [h]; simp)]
theorem Ln.mask_yes (p : Nat → Bool) (i : Nat) (h : p i = true) : Ln.maskF p (i + 1) = Ln.maskF p i ||| 1 <<< i := by
  simp only [Ln.maskF]
  rw [if_pos h]
theorem Try.size66 : (Try.prog.info? 66).map (·.size) = some 8 := by kernel_rfl
theorem Ln.maskF_lt12 (p : Nat → Bool) (n : Nat) (h : n ≤ 12) : Ln.maskF p n < 18446744073709551616 := by
  have h1 := Ln.maskF_lt p n
  have h2 : 2 ^ n ≤ 2 ^ 12 := Nat.pow_le_pow_right (by omega) h
  omega
def Ln.inF (ps : List Ln.Past) (i k : Nat) (j : Nat) : Nat := if j = i then Ln.maskF (fun k => Ln.aheadF (Ln.at' ps k) (Ln.at' ps i)) k else if j < i then Ln.beforeF ps j else 0
theorem Ln.inF_zero (ps : List Ln.Past) (i j : Nat) : Ln.inF ps i 0 j = if j < i then Ln.beforeF ps j else 0 := by
  unfold Ln.inF
  split
  · rename_i h
    rw [if_neg (by omega)]
    rfl
  · rfl
theorem Ln.inF_full (ps : List Ln.Past) (i j : Nat) : Ln.inF ps i ps.length j = if j < i + 1 then Ln.beforeF ps j else 0 := by
  unfold Ln.inF
  by_cases e : j = i
  · subst e
    rw [if_pos rfl, if_pos (by omega)]
    rfl
  · rw [if_neg e]
    by_cases h : j < i
    · rw [if_pos h, if_pos (by omega)]
    · rw [if_neg h, if_neg (by omega)]
theorem Ln.inF_yes (ps : List Ln.Past) (i k : Nat) (h : Ln.aheadF (Ln.at' ps k) (Ln.at' ps i) = true) (j : Nat) : (if j = i then Ln.maskF (fun k => Ln.aheadF (Ln.at' ps k) (Ln.at' ps i)) k ||| 1 <<< k else Ln.inF ps i k j) = Ln.inF ps i (k + 1) j := by
  unfold Ln.inF
  by_cases e : j = i
  · rw [if_pos e, if_pos e]
    show _ = Ln.maskF _ (k + 1)
    simp only [Ln.maskF]
    rw [if_pos h]
  · rw [if_neg e, if_neg e, if_neg e]
theorem Ln.inF_no (ps : List Ln.Past) (i k : Nat) (h : Ln.aheadF (Ln.at' ps k) (Ln.at' ps i) = false) (j : Nat) : Ln.inF ps i (k + 1) j = Ln.inF ps i k j := by
  unfold Ln.inF
  by_cases e : j = i
  · rw [if_pos e, if_pos e]
    show Ln.maskF _ (k + 1) = _
    simp only [Ln.maskF]
    rw [if_neg (by rw [h]; simp)]
  · rw [if_neg e, if_neg e]
def Ln.SbRow (A : Option Addr) (cp : Nat) (n bb mask : Nat) : Obj := .cells #[.slice A n cp, .int .u64 (mask : Int), .slice (some ⟨bb, 0, none⟩) n n, .map (some (bb + 1)), .slice none 0 0, .int .i64 0] 108 (0, 0)
def Ln.InRel (wX : World) (bb i : Nat) (A : Option Addr) (cp : Nat) (ps : List Ln.Past) (gk : Nat) (kv : Value) (wr : World) : Prop :=
  ∃ k : Nat, k ≤ ps.length ∧ gk = ps.length - k ∧ kv = .int .i64 k ∧ wr.heap[bb]? = some (.cells (Ln.barr ps.length (Ln.inF ps i k)) 101 (0, 0)) ∧ Qu.Fr (fun b => b = bb) wX wr
def Ln.doneB (ps : List Ln.Past) : Nat → Bool := fun i => decide ((Ln.at' ps i).fin ≠ 0)
def Ln.OutRel (w6 : World) (bb : Nat) (A : Option Addr) (cp : Nat) (ps : List Ln.Past) (gk : Nat) (iv : Value) (wr : World) : Prop :=
  ∃ i : Nat, i ≤ ps.length ∧ gk = ps.length - i ∧ iv = .int .i64 i ∧
    wr.heap[bb + 1 + 1]? = some (.cells #[.slice A ps.length cp, .int .u64 (Ln.maskF (Ln.doneB ps) i : Int), .slice (some ⟨bb, 0, none⟩) ps.length ps.length, .map (some (bb + 1)), .slice none 0 0, .int .i64 0] 108 (0, 0)) ∧
    wr.heap[bb]? = some (.cells (Ln.barr ps.length fun j => if j < i then Ln.beforeF ps j else 0) 101 (0, 0)) ∧ Qu.Fr (fun b => b = bb ∨ b = bb + 1 + 1) w6 wr

set_option maxHeartbeats 4000000 in
set_option maxRecDepth 100000 in
theorem begun_ok (base : Int) (A : Option Addr) (cp : Nat) (ps : List Ln.Past) (w : World) (hb : 1 ≤ base) (hp : Ln.Pasts w A cp ps) (hlen : ps.length ≤ 100000) (hne : Ln.begunF base ps = 0) :
    Calls Try.prog 49 #[.int .i64 base, .slice A ps.length cp] w (Ln.Begun w base A cp ps) := by
  have hnew := fun w5 => new_any base w5
  have hF : Ln.newF base = some (Ln.start base) := by unfold Ln.newF; rw [if_neg (by omega)]; rfl
  rw [hF] at hnew
  simp only [Ln.cells, Ln.start] at hnew
  have HNEW := Lib.hid hnew
  have HP := Lib.hid hp
  have hcp := hp.1
  have HF := Lib.hid hne
  obtain ⟨_, g1', g2', hti⟩ := Ln.begun_ok hne
  have HTI := Lib.hid hti
  clear hnew hF hp hne hti
  go_enter Try.func49, Try.ntmps49
  go_wp2_with fail
  refine (HNEW.out _).mono ?_
  rintro e w2 ⟨hb2, rfl⟩
  have ho2 := Qu.blk_below (heap_alloc_new w (Obj.cells #[Value.int IntKind.i64 0, Value.int IntKind.i64 0, Value.int IntKind.i64 0, Value.int IntKind.i64 0, Value.int IntKind.i64 0, Value.slice none 0 0, Value.bool false, Value.bool false] 71)) hb2
  have hb02 : Below w.heap.size w w2 := (Ln.below_alloc _ w (Nat.le_refl _) _).trans (hb2.mono (by simp))
  have hz2 := hb2.size
  simp at hz2
  have HO2 := Lib.hid ho2
  have HB2 := Lib.hid hb02
  clear hb2 ho2 hb02
  go_wp2_with fail
  generalize hw3 : w2.alloc (Obj.cells #[Value.int IntKind.i64 base, Value.int IntKind.i64 base, Value.int IntKind.i64 base, Value.int IntKind.i64 base, Value.int IntKind.i64 9223372036854775807, Value.slice none 0 0, Value.bool false, Value.bool false] 71) = w3
  have hb3 : Below w.heap.size w w3 := by rw [← hw3]; exact HB2.out.alloc (by omega) _
  have ho3 : w3.heap[w.heap.size]? = some (Obj.cells #[Value.int IntKind.i64 0, Value.int IntKind.i64 0, Value.int IntKind.i64 0, Value.int IntKind.i64 0, Value.int IntKind.i64 0, Value.slice none 0 0, Value.bool false, Value.bool false] 71) := by rw [← hw3]; exact Qu.blk_alloc HO2.out _
  have hm3 : w3.heap[w2.heap.size]? = some (Obj.cells #[Value.int IntKind.i64 base, Value.int IntKind.i64 base, Value.int IntKind.i64 base, Value.int IntKind.i64 base, Value.int IntKind.i64 9223372036854775807, Value.slice none 0 0, Value.bool false, Value.bool false] 71) := by rw [← hw3]; exact heap_alloc_new w2 _
  have HB3 := Lib.hid hb3
  have HO3 := Lib.hid ho3
  have HM3 := Lib.hid hm3
  have hz3 : w2.heap.size < w3.heap.size := Qu.blk_lt hm3
  clear hw3 hb3 ho3 hm3
  go_loopg [9, 27] ps.length (fun gk n i wr => Ln.OpenRel w ps w3 gk n i wr)
  case atStart => exact ⟨0, by omega, by omega, rfl, rfl, Below.refl _ _⟩
  case round =>
    obtain ⟨k, hk, rfl, rfl, rfl, hbr⟩ := hrel
    have HBR := Lib.hid hbr
    have hop := Ln.open_le ps k
    by_cases hlt : k < ps.length
    · obtain ⟨b, o, cd, rd, rfl, hpk⟩ := ((HP.out.keep HB3.out).keep hbr).2.2 k hlt
      have htk := Ln.open_take ps k hlt
      obtain ⟨x0, x1, x2, x3, x4, x5, x6, x7, xc, xr⟩ := hpk
      have hblt : b < wr.heap.size := World.block_lt_of_cell? wr _ x0
      generalize Ln.at' ps k = pk at x0 x1 x2 x3 x4 x5 x6 x7 xc xr htk
      obtain ⟨⟨ck, cl, cda⟩, ⟨er, rl, rda⟩, bg, fn⟩ := pk
      obtain ⟨Ac, cc, rfl⟩ := xc.slice
      obtain ⟨Ar, cr, rfl⟩ := xr.slice
      dsimp only at x0 x1 x2 x3 x4 x5 x6 x7 htk
      have HTK := Lib.hid htk
      clear xc xr htk hbr
      by_cases g1 : fn = 0
      · subst g1
        go_wp2_with fail
        go_roundg (ps.length - (k + 1))
        case measure => omega
        case rel => exact ⟨k + 1, by omega, rfl, by go_num, by rw [HTK.out]; simp, HBR.out.alloc HBR.out.size _⟩
      · have e1 : (fn == 0) = false := beq_eq_false_iff_ne.2 g1
        have HG := Lib.hid g1
        clear g1
        go_wp2_with fail
        go_roundg (ps.length - (k + 1))
        case measure => omega
        case rel => exact ⟨k + 1, by omega, rfl, by go_num, by rw [HTK.out, if_neg HG.out]; rfl, HBR.out.alloc HBR.out.size _⟩
    · have hke : k = ps.length := by omega
      subst hke
      rw [List.take_length] at hop ⊢
      have ho4 := Qu.blk_below HO3.out hbr
      have hm4 := Qu.blk_below HM3.out hbr
      have hz4 := hbr.size
      have HO4 := Lib.hid ho4
      have HM4 := Lib.hid hm4
      have HB4 := Lib.hid (HB3.out.trans (hbr.mono HB3.out.size))
      clear ho4 hm4 hbr
      have ht := timely_any A cp ps wr ((HP.out.keep HB3.out).keep HBR.out)
      rw [HTI.out] at ht
      have HT := Lib.hid ht
      clear ht
      go_wp2_with fail
      refine HT.out.mono ?_
      rintro e w5 ⟨rfl, hb5⟩
      have HO5 := Lib.hid (Qu.blk_below HO4.out hb5)
      have HM5 := Lib.hid (Qu.blk_below HM4.out hb5)
      have HB5 := Lib.hid (HB4.out.trans (hb5.mono HB4.out.size))
      have hz5 := hb5.size
      clear hb5
      have hmm := @run_makeMap Try.prog
      go_wp2_with (refine Qu.wpList_make _ rfl (.tmp 53) (.tmp 53) 105 rfl 101 (.int .u64 0) 1 8 Try.underlying105 Try.info101 .i64 .i64 ps.length ps.length ps.length rfl rfl rfl rfl (by omega) (by omega) ?_)
      have hw6b : Below w.heap.size w (((w5.alloc (Obj.cells (madeCells #[Value.int IntKind.u64 0] ps.length) 101)).alloc (Obj.map #[] 0)).alloc (Obj.cells #[Value.slice A ps.length cp, Value.int IntKind.u64 0, Value.slice (some { block := w5.heap.size, off := 0 }) ps.length ps.length, Value.map (some (w5.heap.size + 1)), Value.slice none 0 0, Value.int IntKind.i64 0] 108)) :=
        ((HB5.out.alloc (by omega) _).alloc (by simp; omega) _).alloc (by simp; omega) _
      obtain ⟨hsz6, hb6, hm6, hs6⟩ := Ln.made3s w5 (Obj.cells (madeCells #[Value.int IntKind.u64 0] ps.length) 101) (Obj.map #[] 0) (Obj.cells #[Value.slice A ps.length cp, Value.int IntKind.u64 0, Value.slice (some { block := w5.heap.size, off := 0 }) ps.length ps.length, Value.map (some (w5.heap.size + 1)), Value.slice none 0 0, Value.int IntKind.i64 0] 108)
      have ho6 := Qu.blk_alloc (Qu.blk_alloc (Qu.blk_alloc HO5.out (Obj.cells (madeCells #[Value.int IntKind.u64 0] ps.length) 101)) (Obj.map #[] 0)) (Obj.cells #[Value.slice A ps.length cp, Value.int IntKind.u64 0, Value.slice (some { block := w5.heap.size, off := 0 }) ps.length ps.length, Value.map (some (w5.heap.size + 1)), Value.slice none 0 0, Value.int IntKind.i64 0] 108)
      have hmm6 := Qu.blk_alloc (Qu.blk_alloc (Qu.blk_alloc HM5.out (Obj.cells (madeCells #[Value.int IntKind.u64 0] ps.length) 101)) (Obj.map #[] 0)) (Obj.cells #[Value.slice A ps.length cp, Value.int IntKind.u64 0, Value.slice (some { block := w5.heap.size, off := 0 }) ps.length ps.length, Value.map (some (w5.heap.size + 1)), Value.slice none 0 0, Value.int IntKind.i64 0] 108)
      have hlt2 : w2.heap.size < w5.heap.size := Qu.blk_lt HM5.out
      have hlto : w.heap.size < w5.heap.size := Qu.blk_lt HO5.out
      generalize ((w5.alloc (Obj.cells (madeCells #[Value.int IntKind.u64 0] ps.length) 101)).alloc (Obj.map #[] 0)).alloc (Obj.cells #[Value.slice A ps.length cp, Value.int IntKind.u64 0, Value.slice (some { block := w5.heap.size, off := 0 }) ps.length ps.length, Value.map (some (w5.heap.size + 1)), Value.slice none 0 0, Value.int IntKind.i64 0] 108) = w6 at hw6b hsz6 hb6 hm6 hs6 ho6 hmm6 ⊢
      have HP6 := Lib.hid (HP.out.keep hw6b)
      have HB6 := Lib.hid hw6b
      have HBB6 := Lib.hid hb6
      have HMB6 := Lib.hid hm6
      have HS6 := Lib.hid hs6
      have HO6 := Lib.hid ho6
      have HM6 := Lib.hid hmm6
      clear hw6b hb6 hm6 hs6 ho6 hmm6
      go_loopg [60] ps.length (fun gk i wr => Ln.OutRel w6 w5.heap.size A cp ps gk i wr)
      case atStart => exact ⟨0, by omega, by omega, rfl, HS6.out, by rw [HBB6.out, Ln.barr_zero ps.length (fun j => if j < 0 then Ln.beforeF ps j else 0) (fun j _ => by simp)], Qu.Fr.refl _ _⟩
      case round =>
        obtain ⟨i, hi, rfl, rfl, hsb, hbb, hfr⟩ := hrel
        by_cases hlt : i < ps.length
        · have hbelow : Below w.heap.size w wr := HB6.out.trans (hfr.below (by omega) (by rintro k (rfl | rfl) <;> omega))
          obtain ⟨b, o, cd, rd, rfl, hpk⟩ := (HP.out.keep hbelow).2.2 i hlt
          obtain ⟨x0, x1, x2, x3, x4, x5, x6, x7, xc, xr⟩ := hpk
          have hblt : b < wr.heap.size := World.block_lt_of_cell? wr _ x0
          obtain ⟨p, hpp⟩ : ∃ p, Ln.at' ps i = p := ⟨_, rfl⟩
          rw [hpp] at x0 x1 x3 x4 x6 x7 xc xr
          have HPP := Lib.hid hpp
          have HFR := Lib.hid hfr
          have HSB := Lib.hid hsb
          have HBB := Lib.hid hbb
          have hsz := hfr.size
          have s1 := Qu.blk_cell hsb 1
          have sf1 := Qu.blk_frozen hsb 1
          simp only [List.getElem?_toArray, List.getElem?_cons_succ, List.getElem?_cons_zero] at s1
          obtain ⟨⟨ck, cl, cda⟩, ⟨er, rl, rda⟩, bg, fn⟩ := p
          obtain ⟨Ac, cc, rfl⟩ := xc.slice
          obtain ⟨Ar, cr, rfl⟩ := xr.slice
          dsimp only at x0 x1 x3 x4 x6 x7
          clear xc xr hpp hfr hsb hbb hbelow
          by_cases g1 : fn = 0
          · subst g1
            go_wp2_with fail
            generalize hwX : wr.alloc (Obj.cells #[Value.int IntKind.i64 ck, Value.int IntKind.i64 cl, Value.slice Ac (Ln.u8s cda).length cc, Value.int IntKind.i64 er, Value.int IntKind.i64 rl, Value.slice Ar (Ln.u8s rda).length cr, Value.int IntKind.i64 bg, Value.int IntKind.i64 0] 66) = wX
            have HPX : wX.heap[wr.heap.size]? = some (Obj.cells #[Value.int IntKind.i64 ck, Value.int IntKind.i64 cl, Value.slice Ac (Ln.u8s cda).length cc, Value.int IntKind.i64 er, Value.int IntKind.i64 rl, Value.slice Ar (Ln.u8s rda).length cr, Value.int IntKind.i64 bg, Value.int IntKind.i64 0] 66 (0, 0)) := by rw [← hwX]; exact heap_alloc_new wr _
            have HFX := Lib.hid (show Qu.Fr (fun b => b = w5.heap.size ∨ b = w5.heap.size + 1 + 1) w6 wX from by rw [← hwX]; exact HFR.out.alloc _)
            have HBX := Lib.hid (show wX.heap[w5.heap.size]? = some (.cells (Ln.barr ps.length fun j => if j < i then Ln.beforeF ps j else 0) 101 (0, 0)) from by rw [← hwX]; exact Qu.blk_alloc HBB.out _)
            have HSX := Lib.hid (show wX.heap[w5.heap.size + 1 + 1]? = some (Ln.SbRow (some ⟨b, o, none⟩) cp ps.length w5.heap.size (Ln.maskF (Ln.doneB ps) (i + 1))) from by
              rw [← hwX, Ln.mask_no _ _ (by unfold Ln.doneB; simp [HPP.out])]; exact Qu.blk_alloc HSB.out _)
            clear hwX
            obtain ⟨wo, hwo⟩ : ∃ wo : World, wo = wr := ⟨_, rfl⟩
            subst hwo
            have hpX : wX.heap[wo.heap.size]? = some (.cells #[Value.int IntKind.i64 ck, Value.int IntKind.i64 cl, Value.slice Ac (Ln.u8s cda).length cc, Value.int IntKind.i64 er, Value.int IntKind.i64 rl, Value.slice Ar (Ln.u8s rda).length cr, Value.int IntKind.i64 bg, Value.int IntKind.i64 0] 66 (0, 0)) := HPX
            have hbelX : Below w.heap.size w wX := HB6.out.trans (HFX.out.below (by omega) (by rintro k (rfl | rfl) <;> omega))
            have hbbX := HBX.out
            have hszX : wo.heap.size < wX.heap.size := Qu.blk_lt hpX
            have HPXX := Lib.hid hpX
            have HBELX := Lib.hid hbelX
            clear hpX hbelX hbbX
            go_loopg [79] ps.length (fun gk kv wr => Ln.InRel wX w5.heap.size i (some ⟨b, o, none⟩) cp ps gk kv wr)
            case atStart => exact ⟨0, by omega, by omega, rfl, by rw [HBX.out]; exact congrArg (fun a => some (Obj.cells a 101 (0, 0))) (Ln.barr_ext fun j _ => (Ln.inF_zero ps i j).symm), Qu.Fr.refl _ _⟩
            case round =>
              obtain ⟨k, hk, rfl, rfl, hbb2, hfr2⟩ := hrel
              by_cases hltk : k < ps.length
              · have hbel2 : Below w.heap.size w wr := HBELX.out.trans (hfr2.below (by omega) (by rintro k rfl; omega))
                obtain ⟨b2, o2, cd2, rd2, hA2, hpk2⟩ := (HP.out.keep hbel2).2.2 k hltk
                injection hA2 with hA2
                injection hA2 with hA3 hA4 _
                subst hA3
                subst hA4
                obtain ⟨z0, z1, z2, z3, z4, z5, z6, z7, zc, zr⟩ := hpk2
                have hblt2 : b < wr.heap.size := World.block_lt_of_cell? wr _ z0
                obtain ⟨q, hqq⟩ : ∃ q, Ln.at' ps k = q := ⟨_, rfl⟩
                rw [hqq] at z0 z1 z3 z4 z6 z7 zc zr
                have HQQ := Lib.hid hqq
                obtain ⟨Ac2, cc2, rfl⟩ := zc.slice
                obtain ⟨Ar2, cr2, rfl⟩ := zr.slice
                have hp2 := Qu.blk_fr HPXX.out hfr2 (by omega)
                have HP2 := Lib.hid hp2
                have HBB2 := Lib.hid hbb2
                have HFR2 := Lib.hid hfr2
                have hsz2 := hfr2.size
                have hah := ahead_any q ⟨⟨ck, cl, cda⟩, ⟨er, rl, rda⟩, bg, 0⟩ (.slice Ac2 (Ln.u8s q.call.data).length cc2) (.slice Ar2 (Ln.u8s q.res.data).length cr2) (.slice Ac (Ln.u8s cda).length cc) (.slice Ar (Ln.u8s rda).length cr)
                have HAH := Lib.hid hah
                clear zc zr hqq hp2 hbb2 hfr2 hah hbel2
                go_wp2_with (refine wpList_load_row rfl 66 (.tmp 14) rfl wo.heap.size rfl 66 #[Value.int IntKind.i64 ck, Value.int IntKind.i64 cl, Value.slice Ac (Ln.u8s cda).length cc, Value.int IntKind.i64 er, Value.int IntKind.i64 rl, Value.slice Ar (Ln.u8s rda).length cr, Value.int IntKind.i64 bg, Value.int IntKind.i64 0] (0, 0) _ (Qu.blk_alloc HP2.out _) Try.underlying66 rfl Try.size66 ?_)
                have hsb8 := Qu.blk_fr HSX.out HFR2.out (by omega)
                have HSB8 := Lib.hid hsb8
                clear hsb8
                cases hav : Ln.aheadF q ⟨⟨ck, cl, cda⟩, ⟨er, rl, rda⟩, bg, 0⟩ with
                | false =>
                  rw [hav] at HAH
                  have HNO := Lib.hid (Ln.inF_no ps i k (by rw [HQQ.out, HPP.out]; exact hav))
                  clear hav
                  refine (HAH.out _).mono ?_
                  rintro e w8 ⟨rfl, hb8⟩
                  have hb28 := (Ln.below_alloc _ wr (Nat.le_refl _) (Obj.cells #[Value.int IntKind.i64 q.call.kind, Value.int IntKind.i64 q.call.lsn, Value.slice Ac2 (Ln.u8s q.call.data).length cc2, Value.int IntKind.i64 q.res.err, Value.int IntKind.i64 q.res.lsn, Value.slice Ar2 (Ln.u8s q.res.data).length cr2, Value.int IntKind.i64 q.beg, Value.int IntKind.i64 q.fin] 66)).trans (hb8.mono (by simp))
                  have HB28 := Lib.hid hb28
                  clear hb8 hb28
                  go_wp2_with fail
                  go_roundg (ps.length - (k + 1))
                  case measure => omega
                  case rel => exact ⟨k + 1, by omega, rfl, by go_num, by rw [Ln.barr_ext (fun j _ => HNO.out j)]; exact Qu.blk_below HBB2.out HB28.out, HFR2.out.trans (S1 := fun _ => False) (Qu.Fr.of_below HB28.out) (fun _ _ h => h.elim)⟩
                | true =>
                  rw [hav] at HAH
                  have HYES := Lib.hid (Ln.inF_yes ps i k (by rw [HQQ.out, HPP.out]; exact hav))
                  clear hav
                  refine (HAH.out _).mono ?_
                  rintro e w8 ⟨rfl, hb8⟩
                  have hb28 := (Ln.below_alloc _ wr (Nat.le_refl _) (Obj.cells #[Value.int IntKind.i64 q.call.kind, Value.int IntKind.i64 q.call.lsn, Value.slice Ac2 (Ln.u8s q.call.data).length cc2, Value.int IntKind.i64 q.res.err, Value.int IntKind.i64 q.res.lsn, Value.slice Ar2 (Ln.u8s q.res.data).length cr2, Value.int IntKind.i64 q.beg, Value.int IntKind.i64 q.fin] 66)).trans (hb8.mono (by simp))
                  have hsb9 := Qu.blk_below HSB8.out hb28
                  have hbb9 := Qu.blk_below HBB2.out hb28
                  have l2 := Qu.blk_cell hsb9 2
                  simp only [List.getElem?_toArray, List.getElem?_cons_succ, List.getElem?_cons_zero] at l2
                  have li := (Qu.blk_cell hbb9 i).trans (Ln.barr_get ps.length (Ln.inF ps i k) i hlt)
                  have lfi := Qu.blk_frozen hbb9 i
                  have hltb := Qu.blk_lt hbb9
                  have hor2 := Ln.or_u64 (Ln.inF ps i k i) k (by unfold Ln.inF; rw [if_pos rfl]; exact Ln.maskF_lt12 _ _ (by omega)) (by omega)
                  have HB28 := Lib.hid hb28
                  have HBB9 := Lib.hid hbb9
                  clear hb8 hb28 hsb9 hbb9
                  go_wp2_with fail
                  (refine wp_region_still_tail 11 (by kernel_rfl) (by kernel_rfl) ?_; simp only [List.take_succ_cons, List.take_zero, List.drop_succ_cons, List.drop_zero]; (iterate 11 ((with_reducible refine Ln.still_want (by kernel_rfl) (fun K hK => ?_)); go_simp; refine hK _ ?_; clear hK K)); with_reducible refine wpStill_nil ?_)
                  clear hor2
                  go_wp2_with fail
                  go_roundg (ps.length - (k + 1))
                  case measure => omega
                  case rel =>
                    refine ⟨k + 1, by omega, rfl, by go_num, ?_, ?_⟩
                    · have h := Qu.blk_set HBB9.out i (.int .u64 ((Ln.inF ps i k i ||| 1 <<< k : Nat) : Int))
                      rw [Ln.barr_set, Ln.barr_ext (fun j _ => (by unfold Ln.inF; rw [if_pos rfl] : (if j = i then Ln.inF ps i k i ||| 1 <<< k else Ln.inF ps i k j) = (if j = i then Ln.maskF (fun k => Ln.aheadF (Ln.at' ps k) (Ln.at' ps i)) k ||| 1 <<< k else Ln.inF ps i k j)).trans (HYES.out j))] at h
                      exact h
                    · exact ((HFR2.out.trans (S1 := fun _ => False) (Qu.Fr.of_below HB28.out) (fun _ _ h => h.elim)).setCell (p := ⟨w5.heap.size, i, none⟩) (fun _ => rfl) _).drew
              · have hke : k = ps.length := by omega
                subst hke
                have hsbE := Qu.blk_fr HSX.out hfr2 (by omega)
                have HSE := Lib.hid hsbE
                have HBE := Lib.hid hbb2
                have HFE := Lib.hid (HFX.out.trans hfr2 (fun j _ h => .inl h))
                clear hsbE hbb2 hfr2
                go_wp2_with fail
                go_roundg (ps.length - (i + 1))
                case measure => omega
                case rel => exact ⟨i + 1, by omega, rfl, by go_num, HSE.out, by rw [HBE.out]; exact congrArg (fun a => some (Obj.cells a 101 (0, 0))) (Ln.barr_ext fun j _ => Ln.inF_full ps i j), HFE.out⟩
          · have e1 : (fn != 0) = true := bne_iff_ne.2 g1
            have HG := Lib.hid g1
            clear g1
            go_wp2_with fail
            generalize hw7 : wr.alloc (Obj.cells #[Value.int IntKind.i64 ck, Value.int IntKind.i64 cl, Value.slice Ac (Ln.u8s cda).length cc, Value.int IntKind.i64 er, Value.int IntKind.i64 rl, Value.slice Ar (Ln.u8s rda).length cr, Value.int IntKind.i64 bg, Value.int IntKind.i64 fn] 66) = w7
            have hs7 : w7.heap[w5.heap.size + 1 + 1]? = some (.cells #[.slice (some ⟨b, o, none⟩) ps.length cp, .int .u64 (Ln.maskF (Ln.doneB ps) i : Int), .slice (some ⟨w5.heap.size, 0, none⟩) ps.length ps.length, .map (some (w5.heap.size + 1)), .slice none 0 0, .int .i64 0] 108 (0, 0)) := by rw [← hw7]; exact Qu.blk_alloc HSB.out _
            have hb7 : w7.heap[w5.heap.size]? = some (.cells (Ln.barr ps.length fun j => if j < i then Ln.beforeF ps j else 0) 101 (0, 0)) := by rw [← hw7]; exact Qu.blk_alloc HBB.out _
            have hp7 : w7.heap[wr.heap.size]? = some (Obj.cells #[Value.int IntKind.i64 ck, Value.int IntKind.i64 cl, Value.slice Ac (Ln.u8s cda).length cc, Value.int IntKind.i64 er, Value.int IntKind.i64 rl, Value.slice Ar (Ln.u8s rda).length cr, Value.int IntKind.i64 bg, Value.int IntKind.i64 fn] 66 (0, 0)) := by rw [← hw7]; exact heap_alloc_new wr _
            have hf7 : Qu.Fr (fun b => b = w5.heap.size ∨ b = w5.heap.size + 1 + 1) w6 w7 := by rw [← hw7]; exact HFR.out.alloc _
            have k1 := Qu.blk_cell hs7 1
            have kf1 := Qu.blk_frozen hs7 1
            simp only [List.getElem?_toArray, List.getElem?_cons_succ, List.getElem?_cons_zero] at k1
            have hor := Ln.or_u64 (Ln.maskF (Ln.doneB ps) i) i (Ln.maskF_lt12 _ _ (by omega)) (by omega)
            have HS7 := Lib.hid hs7
            have HB7 := Lib.hid hb7
            have HP7 := Lib.hid hp7
            have HF7 := Lib.hid hf7
            clear hw7 hs7 hb7 hp7 hf7
            (refine wp_region_still_tail 9 (by kernel_rfl) (by kernel_rfl) ?_; simp only [List.take_succ_cons, List.take_zero, List.drop_succ_cons, List.drop_zero]; (iterate 9 ((with_reducible refine Ln.still_want (by kernel_rfl) (fun K hK => ?_)); go_simp; refine hK _ ?_; clear hK K)); with_reducible refine wpStill_nil ?_)
            go_wp2_with fail
            generalize hwX : (w7.setCell ⟨w5.heap.size + 1 + 1, 1, none⟩ (Value.int IntKind.u64 ((Ln.maskF (Ln.doneB ps) i ||| 1 <<< i : Nat) : Int))).drew = wX
            clear hor
            have HPX : wX.heap[wr.heap.size]? = some (Obj.cells #[Value.int IntKind.i64 ck, Value.int IntKind.i64 cl, Value.slice Ac (Ln.u8s cda).length cc, Value.int IntKind.i64 er, Value.int IntKind.i64 rl, Value.slice Ar (Ln.u8s rda).length cr, Value.int IntKind.i64 bg, Value.int IntKind.i64 fn] 66 (0, 0)) := by rw [← hwX]; exact Qu.blk_far (p := ⟨w5.heap.size + 1 + 1, 1, none⟩) HP7.out (by simp only; omega) _
            have HFX := Lib.hid (show Qu.Fr (fun b => b = w5.heap.size ∨ b = w5.heap.size + 1 + 1) w6 wX from by rw [← hwX]; exact (HF7.out.setCell (p := ⟨w5.heap.size + 1 + 1, 1, none⟩) (fun _ => .inr rfl) _).drew)
            have HBX := Lib.hid (show wX.heap[w5.heap.size]? = some (.cells (Ln.barr ps.length fun j => if j < i then Ln.beforeF ps j else 0) 101 (0, 0)) from by rw [← hwX]; exact Qu.blk_far (p := ⟨w5.heap.size + 1 + 1, 1, none⟩) HB7.out (by simp only; omega) _)
            have HSX := Lib.hid (show wX.heap[w5.heap.size + 1 + 1]? = some (Ln.SbRow (some ⟨b, o, none⟩) cp ps.length w5.heap.size (Ln.maskF (Ln.doneB ps) (i + 1))) from by
              rw [← hwX, Ln.mask_yes _ _ (by unfold Ln.doneB; simp [HPP.out, HG.out])]; exact Qu.blk_set HS7.out 1 _)
            clear hwX
            obtain ⟨wo, hwo⟩ : ∃ wo : World, wo = wr := ⟨_, rfl⟩
            subst hwo
            have hpX : wX.heap[wo.heap.size]? = some (.cells #[Value.int IntKind.i64 ck, Value.int IntKind.i64 cl, Value.slice Ac (Ln.u8s cda).length cc, Value.int IntKind.i64 er, Value.int IntKind.i64 rl, Value.slice Ar (Ln.u8s rda).length cr, Value.int IntKind.i64 bg, Value.int IntKind.i64 fn] 66 (0, 0)) := HPX
            have hbelX : Below w.heap.size w wX := HB6.out.trans (HFX.out.below (by omega) (by rintro k (rfl | rfl) <;> omega))
            have hbbX := HBX.out
            have hszX : wo.heap.size < wX.heap.size := Qu.blk_lt hpX
            have HPXX := Lib.hid hpX
            have HBELX := Lib.hid hbelX
            clear hpX hbelX hbbX
            go_loopg [79] ps.length (fun gk kv wr => Ln.InRel wX w5.heap.size i (some ⟨b, o, none⟩) cp ps gk kv wr)
            case atStart => exact ⟨0, by omega, by omega, rfl, by rw [HBX.out]; exact congrArg (fun a => some (Obj.cells a 101 (0, 0))) (Ln.barr_ext fun j _ => (Ln.inF_zero ps i j).symm), Qu.Fr.refl _ _⟩
            case round =>
              obtain ⟨k, hk, rfl, rfl, hbb2, hfr2⟩ := hrel
              by_cases hltk : k < ps.length
              · have hbel2 : Below w.heap.size w wr := HBELX.out.trans (hfr2.below (by omega) (by rintro k rfl; omega))
                obtain ⟨b2, o2, cd2, rd2, hA2, hpk2⟩ := (HP.out.keep hbel2).2.2 k hltk
                injection hA2 with hA2
                injection hA2 with hA3 hA4 _
                subst hA3
                subst hA4
                obtain ⟨z0, z1, z2, z3, z4, z5, z6, z7, zc, zr⟩ := hpk2
                have hblt2 : b < wr.heap.size := World.block_lt_of_cell? wr _ z0
                obtain ⟨q, hqq⟩ : ∃ q, Ln.at' ps k = q := ⟨_, rfl⟩
                rw [hqq] at z0 z1 z3 z4 z6 z7 zc zr
                have HQQ := Lib.hid hqq
                obtain ⟨Ac2, cc2, rfl⟩ := zc.slice
                obtain ⟨Ar2, cr2, rfl⟩ := zr.slice
                have hp2 := Qu.blk_fr HPXX.out hfr2 (by omega)
                have HP2 := Lib.hid hp2
                have HBB2 := Lib.hid hbb2
                have HFR2 := Lib.hid hfr2
                have hsz2 := hfr2.size
                have hah := ahead_any q ⟨⟨ck, cl, cda⟩, ⟨er, rl, rda⟩, bg, fn⟩ (.slice Ac2 (Ln.u8s q.call.data).length cc2) (.slice Ar2 (Ln.u8s q.res.data).length cr2) (.slice Ac (Ln.u8s cda).length cc) (.slice Ar (Ln.u8s rda).length cr)
                have HAH := Lib.hid hah
                clear zc zr hqq hp2 hbb2 hfr2 hah hbel2
                go_wp2_with (refine wpList_load_row rfl 66 (.tmp 14) rfl wo.heap.size rfl 66 #[Value.int IntKind.i64 ck, Value.int IntKind.i64 cl, Value.slice Ac (Ln.u8s cda).length cc, Value.int IntKind.i64 er, Value.int IntKind.i64 rl, Value.slice Ar (Ln.u8s rda).length cr, Value.int IntKind.i64 bg, Value.int IntKind.i64 fn] (0, 0) _ (Qu.blk_alloc HP2.out _) Try.underlying66 rfl Try.size66 ?_)
                have hsb8 := Qu.blk_fr HSX.out HFR2.out (by omega)
                have HSB8 := Lib.hid hsb8
                clear hsb8
                cases hav : Ln.aheadF q ⟨⟨ck, cl, cda⟩, ⟨er, rl, rda⟩, bg, fn⟩ with
                | false =>
                  rw [hav] at HAH
                  have HNO := Lib.hid (Ln.inF_no ps i k (by rw [HQQ.out, HPP.out]; exact hav))
                  clear hav
                  refine (HAH.out _).mono ?_
                  rintro e w8 ⟨rfl, hb8⟩
                  have hb28 := (Ln.below_alloc _ wr (Nat.le_refl _) (Obj.cells #[Value.int IntKind.i64 q.call.kind, Value.int IntKind.i64 q.call.lsn, Value.slice Ac2 (Ln.u8s q.call.data).length cc2, Value.int IntKind.i64 q.res.err, Value.int IntKind.i64 q.res.lsn, Value.slice Ar2 (Ln.u8s q.res.data).length cr2, Value.int IntKind.i64 q.beg, Value.int IntKind.i64 q.fin] 66)).trans (hb8.mono (by simp))
                  have HB28 := Lib.hid hb28
                  clear hb8 hb28
                  go_wp2_with fail
                  go_roundg (ps.length - (k + 1))
                  case measure => omega
                  case rel => exact ⟨k + 1, by omega, rfl, by go_num, by rw [Ln.barr_ext (fun j _ => HNO.out j)]; exact Qu.blk_below HBB2.out HB28.out, HFR2.out.trans (S1 := fun _ => False) (Qu.Fr.of_below HB28.out) (fun _ _ h => h.elim)⟩
                | true =>
                  rw [hav] at HAH
                  have HYES := Lib.hid (Ln.inF_yes ps i k (by rw [HQQ.out, HPP.out]; exact hav))
                  clear hav
                  refine (HAH.out _).mono ?_
                  rintro e w8 ⟨rfl, hb8⟩
                  have hb28 := (Ln.below_alloc _ wr (Nat.le_refl _) (Obj.cells #[Value.int IntKind.i64 q.call.kind, Value.int IntKind.i64 q.call.lsn, Value.slice Ac2 (Ln.u8s q.call.data).length cc2, Value.int IntKind.i64 q.res.err, Value.int IntKind.i64 q.res.lsn, Value.slice Ar2 (Ln.u8s q.res.data).length cr2, Value.int IntKind.i64 q.beg, Value.int IntKind.i64 q.fin] 66)).trans (hb8.mono (by simp))
                  have hsb9 := Qu.blk_below HSB8.out hb28
                  have hbb9 := Qu.blk_below HBB2.out hb28
                  have l2 := Qu.blk_cell hsb9 2
                  simp only [List.getElem?_toArray, List.getElem?_cons_succ, List.getElem?_cons_zero] at l2
                  have li := (Qu.blk_cell hbb9 i).trans (Ln.barr_get ps.length (Ln.inF ps i k) i hlt)
                  have lfi := Qu.blk_frozen hbb9 i
                  have hltb := Qu.blk_lt hbb9
                  have hor2 := Ln.or_u64 (Ln.inF ps i k i) k (by unfold Ln.inF; rw [if_pos rfl]; exact Ln.maskF_lt12 _ _ (by omega)) (by omega)
                  have HB28 := Lib.hid hb28
                  have HBB9 := Lib.hid hbb9
                  clear hb8 hb28 hsb9 hbb9
                  go_wp2_with fail
                  (refine wp_region_still_tail 11 (by kernel_rfl) (by kernel_rfl) ?_; simp only [List.take_succ_cons, List.take_zero, List.drop_succ_cons, List.drop_zero]; (iterate 11 ((with_reducible refine Ln.still_want (by kernel_rfl) (fun K hK => ?_)); go_simp; refine hK _ ?_; clear hK K)); with_reducible refine wpStill_nil ?_)
                  clear hor2
                  go_wp2_with fail
                  go_roundg (ps.length - (k + 1))
                  case measure => omega
                  case rel =>
                    refine ⟨k + 1, by omega, rfl, by go_num, ?_, ?_⟩
                    · have h := Qu.blk_set HBB9.out i (.int .u64 ((Ln.inF ps i k i ||| 1 <<< k : Nat) : Int))
                      rw [Ln.barr_set, Ln.barr_ext (fun j _ => (by unfold Ln.inF; rw [if_pos rfl] : (if j = i then Ln.inF ps i k i ||| 1 <<< k else Ln.inF ps i k j) = (if j = i then Ln.maskF (fun k => Ln.aheadF (Ln.at' ps k) (Ln.at' ps i)) k ||| 1 <<< k else Ln.inF ps i k j)).trans (HYES.out j))] at h
                      exact h
                    · exact ((HFR2.out.trans (S1 := fun _ => False) (Qu.Fr.of_below HB28.out) (fun _ _ h => h.elim)).setCell (p := ⟨w5.heap.size, i, none⟩) (fun _ => rfl) _).drew
              · have hke : k = ps.length := by omega
                subst hke
                have hsbE := Qu.blk_fr HSX.out hfr2 (by omega)
                have HSE := Lib.hid hsbE
                have HBE := Lib.hid hbb2
                have HFE := Lib.hid (HFX.out.trans hfr2 (fun j _ h => .inl h))
                clear hsbE hbb2 hfr2
                go_wp2_with fail
                go_roundg (ps.length - (i + 1))
                case measure => omega
                case rel => exact ⟨i + 1, by omega, rfl, by go_num, HSE.out, by rw [HBE.out]; exact congrArg (fun a => some (Obj.cells a 101 (0, 0))) (Ln.barr_ext fun j _ => Ln.inF_full ps i j), HFE.out⟩
        · have hie : i = ps.length := by omega
          subst hie
          have hoE := Qu.blk_fr HO6.out hfr (by omega)
          have hmE := Qu.blk_fr HM6.out hfr (by omega)
          have HBW := Lib.hid (HB6.out.trans (hfr.below (by omega) (by rintro k (rfl | rfl) <;> omega)))
          have HMAP := Lib.hid (Qu.blk_fr HMB6.out hfr (by omega))
          have HOE := Lib.hid hoE
          have HSE := Lib.hid hsb
          have HBE := Lib.hid hbb
          obtain ⟨m0, m1, m2, m3, m4, m5, m6, m7⟩ := Ln.cells8o (m := Ln.start base) (v := .slice none 0 0) hmE
          simp only [Ln.start] at m0 m1 m2 m3 m4 m6 m7
          have hltm := Qu.blk_lt hmE
          have hlto := Qu.blk_lt hoE
          clear hoE hmE hsb hbb hfr
          go_wp2_with fail
          (refine wp_region_still_tail 3 (by kernel_rfl) (by kernel_rfl) ?_; simp only [List.take_succ_cons, List.take_zero, List.drop_succ_cons, List.drop_zero]; (iterate 3 ((with_reducible refine Ln.still_want (by kernel_rfl) (fun K hK => ?_)); go_simp; refine hK _ ?_; clear hK K)); with_reducible refine wpStill_nil ?_)
          go_wp2_with (refine wpList_store_row rfl 71 (.tmp 5) (.tmp 101) rfl w.heap.size #[Value.int IntKind.i64 base, Value.int IntKind.i64 base, Value.int IntKind.i64 base, Value.int IntKind.i64 base, Value.int IntKind.i64 9223372036854775807, Value.slice none 0 0, Value.bool false, Value.bool false] rfl rfl 71 #[Value.int IntKind.i64 0, Value.int IntKind.i64 0, Value.int IntKind.i64 0, Value.int IntKind.i64 0, Value.int IntKind.i64 0, Value.slice none 0 0, Value.bool false, Value.bool false] HOE.out Try.size71 rfl (by simp [Value.oneCell']) ?_)
          have hrow := setRow_heap wr.drew w.heap.size _ #[Value.int IntKind.i64 base, Value.int IntKind.i64 base, Value.int IntKind.i64 base, Value.int IntKind.i64 base, Value.int IntKind.i64 9223372036854775807, Value.slice none 0 0, Value.bool false, Value.bool false] 71 (0, 0) HOE.out
          have hbr : Below w.heap.size w (wr.drew.setRow w.heap.size #[Value.int IntKind.i64 base, Value.int IntKind.i64 base, Value.int IntKind.i64 base, Value.int IntKind.i64 base, Value.int IntKind.i64 9223372036854775807, Value.slice none 0 0, Value.bool false, Value.bool false]) := Ln.below_setRow HBW.out.drew (by omega) _
          have hsE := (setRow_other wr.drew w.heap.size (w5.heap.size + 1 + 1) #[Value.int IntKind.i64 base, Value.int IntKind.i64 base, Value.int IntKind.i64 base, Value.int IntKind.i64 base, Value.int IntKind.i64 9223372036854775807, Value.slice none 0 0, Value.bool false, Value.bool false] (by omega)).trans HSE.out
          have hbE := (setRow_other wr.drew w.heap.size w5.heap.size #[Value.int IntKind.i64 base, Value.int IntKind.i64 base, Value.int IntKind.i64 base, Value.int IntKind.i64 base, Value.int IntKind.i64 9223372036854775807, Value.slice none 0 0, Value.bool false, Value.bool false] (by omega)).trans HBE.out
          have hmE := (setRow_other wr.drew w.heap.size (w5.heap.size + 1) #[Value.int IntKind.i64 base, Value.int IntKind.i64 base, Value.int IntKind.i64 base, Value.int IntKind.i64 base, Value.int IntKind.i64 9223372036854775807, Value.slice none 0 0, Value.bool false, Value.bool false] (by omega)).trans HMAP.out
          generalize wr.drew.setRow w.heap.size #[Value.int IntKind.i64 base, Value.int IntKind.i64 base, Value.int IntKind.i64 base, Value.int IntKind.i64 base, Value.int IntKind.i64 9223372036854775807, Value.slice none 0 0, Value.bool false, Value.bool false] = w9 at hrow hbr hsE hbE hmE ⊢
          obtain ⟨o0, o1, o2, o3, o4, o5, o6, o7⟩ := Ln.cells8o (m := Ln.start base) (v := .slice none 0 0) hrow
          refine bodyPost_ret (v := .tuple #[.pointer (some ⟨w5.heap.size + 1 + 1, 0, none⟩), .agg (Ln.cells (Ln.start base) (.slice none 0 0)), .int .i64 0]) (by simp [results, Try.results49, go_sem, asAddr, o0, o1, o2, o3, o4, o5, o6, o7]; rfl) rfl ⟨hbr, ?_⟩
          rw [if_pos HF.out]
          refine ⟨_, w5.heap.size + 1, w5.heap.size, rfl, by omega, by omega, by omega, ⟨hsE, ?_⟩, hmE⟩
          rw [hbE]
          exact congrArg (fun a => some (Obj.cells a 101 (0, 0))) (Ln.barr_ext fun j hj => by rw [if_pos hj])

end Go.Proofs.Ytgdeoodihhcdjaa
