/- The contract of linear.begun, on. -/
import Derived.Test.YtgdeoodihhcdjaaNd
namespace Go.Proofs.Ytgdeoodihhcdjaa
open Go.RowKit
set_option linter.unusedVariables false
set_option linter.unusedSimpArgs false


theorem Try.info101 : (Try.prog.info? 101).map (fun i => (i.zero, i.size, i.bytes)) = some (some (.int .u64 0), 1, 8) := by kernel_rfl
/-- What a search holds. -/
def Ln.bcells (ps : List Ln.Past) : Array Value := ((List.range ps.length).map fun i => Value.int .u64 (Ln.beforeF ps i : Int)).toArray
def Ln.Sch (w : World) (sb mb bb : Nat) (A : Option Addr) (cp : Nat) (ps : List Ln.Past) (OV : Value) (most : Int) : Prop :=
  w.heap[sb]? = some (.cells #[.slice A ps.length cp, .int .u64 (Ln.allF ps : Int), .slice (some ⟨bb, 0, none⟩) ps.length ps.length, .map (some mb), OV, .int .i64 most] 108 (0, 0)) ∧ w.heap[bb]? = some (.cells (Ln.bcells ps) 101 (0, 0))
/-- What linear.begun comes to. -/
def Ln.Begun (w : World) (base : Int) (A : Option Addr) (cp : Nat) (ps : List Ln.Past) (e : Ending) (w' : World) : Prop :=
  Below w.heap.size w w' ∧ if Ln.begunF base ps = 0 then
      ∃ sb mb bb, e = .returned (.tuple #[.pointer (some ⟨sb, 0, none⟩), .agg (Ln.cells (Ln.start base) (.slice none 0 0)), .int .i64 0]) ∧ w.heap.size ≤ sb ∧ w.heap.size ≤ mb ∧ w.heap.size ≤ bb ∧
        Ln.Sch w' sb mb bb A cp ps (.slice none 0 0) 0 ∧ w'.heap[mb]? = some (.map #[] 0)
    else e = .returned (.tuple #[.pointer none, .agg (Ln.cells Ln.zeroM (.slice none 0 0)), .int .i64 (Ln.begunF base ps)])

def Ln.OpenRel (w : World) (ps : List Ln.Past) (w3 : World) (gk : Nat) (n i : Value) (wr : World) : Prop :=
  ∃ k : Nat, k ≤ ps.length ∧ gk = ps.length - k ∧ i = .int .i64 k ∧ n = .int .i64 (Ln.openF (ps.take k) : Int) ∧ Below w3.heap.size w3 wr

set_option maxHeartbeats 4000000 in
set_option maxRecDepth 100000 in
theorem begun_err (base : Int) (A : Option Addr) (cp : Nat) (ps : List Ln.Past) (w : World) (hb : 1 ≤ base) (hp : Ln.Pasts w A cp ps) (hlen : ps.length ≤ 100000) (hne : Ln.begunF base ps ≠ 0) :
    Calls Try.prog 49 #[.int .i64 base, .slice A ps.length cp] w (Ln.Begun w base A cp ps) := by
  have hnew := fun w5 => new_any base w5
  have hF : Ln.newF base = some (Ln.start base) := by unfold Ln.newF; rw [if_neg (by omega)]; rfl
  rw [hF] at hnew
  simp only [Ln.cells, Ln.start] at hnew
  have HNEW := Lib.hid hnew
  have HP := Lib.hid hp
  have hcp := hp.1
  have HNE := Lib.hid hne
  clear hnew hF hp hne
  go_enter Try.func49, Try.ntmps49
  go_wp2_with fail
  refine (HNEW.out _).mono ?_
  rintro e w2 ⟨hb2, rfl⟩
  have ho2 := Qu.blk_below (heap_alloc_new w (Obj.cells #[Value.int IntKind.i64 0, Value.int IntKind.i64 0, Value.int IntKind.i64 0, Value.int IntKind.i64 0, Value.int IntKind.i64 0, Value.slice none 0 0, Value.bool false, Value.bool false] 71)) hb2
  have hb02 : Below w.heap.size w w2 := (Ln.below_alloc _ w (Nat.le_refl _) _).trans (hb2.mono (by simp))
  have hz2 := hb2.size
  simp at hz2
  have HO2 := Lib.hid ho2
  have HB2 := Lib.hid hb02
  clear hb2 ho2 hb02
  go_wp2_with fail
  generalize hw3 : w2.alloc (Obj.cells #[Value.int IntKind.i64 base, Value.int IntKind.i64 base, Value.int IntKind.i64 base, Value.int IntKind.i64 base, Value.int IntKind.i64 9223372036854775807, Value.slice none 0 0, Value.bool false, Value.bool false] 71) = w3
  have hb3 : Below w.heap.size w w3 := by rw [← hw3]; exact HB2.out.alloc (by omega) _
  have ho3 : w3.heap[w.heap.size]? = some (Obj.cells #[Value.int IntKind.i64 0, Value.int IntKind.i64 0, Value.int IntKind.i64 0, Value.int IntKind.i64 0, Value.int IntKind.i64 0, Value.slice none 0 0, Value.bool false, Value.bool false] 71) := by rw [← hw3]; exact Qu.blk_alloc HO2.out _
  have hm3 : w3.heap[w2.heap.size]? = some (Obj.cells #[Value.int IntKind.i64 base, Value.int IntKind.i64 base, Value.int IntKind.i64 base, Value.int IntKind.i64 base, Value.int IntKind.i64 9223372036854775807, Value.slice none 0 0, Value.bool false, Value.bool false] 71) := by rw [← hw3]; exact heap_alloc_new w2 _
  have HB3 := Lib.hid hb3
  have HO3 := Lib.hid ho3
  have HM3 := Lib.hid hm3
  have hz3 : w2.heap.size < w3.heap.size := Qu.blk_lt hm3
  clear hw3 hb3 ho3 hm3
  go_loopg [9, 27] ps.length (fun gk n i wr => Ln.OpenRel w ps w3 gk n i wr)
  case atStart => exact ⟨0, by omega, by omega, rfl, rfl, Below.refl _ _⟩
  case round =>
    obtain ⟨k, hk, rfl, rfl, rfl, hbr⟩ := hrel
    have HBR := Lib.hid hbr
    have hop := Ln.open_le ps k
    by_cases hlt : k < ps.length
    · obtain ⟨b, o, cd, rd, rfl, hpk⟩ := ((HP.out.keep HB3.out).keep hbr).2.2 k hlt
      have htk := Ln.open_take ps k hlt
      obtain ⟨x0, x1, x2, x3, x4, x5, x6, x7, xc, xr⟩ := hpk
      have hblt : b < wr.heap.size := World.block_lt_of_cell? wr _ x0
      generalize Ln.at' ps k = pk at x0 x1 x2 x3 x4 x5 x6 x7 xc xr htk
      obtain ⟨⟨ck, cl, cda⟩, ⟨er, rl, rda⟩, bg, fn⟩ := pk
      obtain ⟨Ac, cc, rfl⟩ := xc.slice
      obtain ⟨Ar, cr, rfl⟩ := xr.slice
      dsimp only at x0 x1 x2 x3 x4 x5 x6 x7 htk
      have HTK := Lib.hid htk
      clear xc xr htk hbr
      by_cases g1 : fn = 0
      · subst g1
        go_wp2_with fail
        go_roundg (ps.length - (k + 1))
        case measure => omega
        case rel => exact ⟨k + 1, by omega, rfl, by go_num, by rw [HTK.out]; simp, HBR.out.alloc HBR.out.size _⟩
      · have e1 : (fn == 0) = false := beq_eq_false_iff_ne.2 g1
        have HG := Lib.hid g1
        clear g1
        go_wp2_with fail
        go_roundg (ps.length - (k + 1))
        case measure => omega
        case rel => exact ⟨k + 1, by omega, rfl, by go_num, by rw [HTK.out, if_neg HG.out]; rfl, HBR.out.alloc HBR.out.size _⟩
    · have hke : k = ps.length := by omega
      subst hke
      rw [List.take_length] at hop ⊢
      have ho4 := Qu.blk_below HO3.out hbr
      have hm4 := Qu.blk_below HM3.out hbr
      have hz4 := hbr.size
      have HO4 := Lib.hid ho4
      have HM4 := Lib.hid hm4
      have HB4 := Lib.hid (HB3.out.trans (hbr.mono HB3.out.size))
      clear ho4 hm4 hbr
      by_cases g1 : 12 < ps.length ∨ 4 < Ln.openF ps
      · have hF : Ln.begunF base ps = 9 := by unfold Ln.begunF; rw [if_neg (by omega), if_pos g1]
        have HF := Lib.hid hF
        clear hF
        have g1' : 12 < ps.length ∨ (ps.length ≤ 12 ∧ 4 < Ln.openF ps) := by omega
        clear g1
        rcases g1' with g1 | ⟨g1, g2⟩
        all_goals
          go_wp2_with (refine wpList_store_row rfl 71 (.tmp 5) (.tmp 45) rfl w.heap.size #[Value.int IntKind.i64 0, Value.int IntKind.i64 0, Value.int IntKind.i64 0, Value.int IntKind.i64 0, Value.int IntKind.i64 0, Value.slice none 0 0, Value.bool false, Value.bool false] rfl rfl 71 #[Value.int IntKind.i64 0, Value.int IntKind.i64 0, Value.int IntKind.i64 0, Value.int IntKind.i64 0, Value.int IntKind.i64 0, Value.slice none 0 0, Value.bool false, Value.bool false] HO4.out Try.size71 rfl (by simp [Value.oneCell']) ?_)
          have hrow := setRow_heap wr w.heap.size _ #[Value.int IntKind.i64 0, Value.int IntKind.i64 0, Value.int IntKind.i64 0, Value.int IntKind.i64 0, Value.int IntKind.i64 0, Value.slice none 0 0, Value.bool false, Value.bool false] 71 (0, 0) HO4.out
          have hbr : Below w.heap.size w (wr.setRow w.heap.size #[Value.int IntKind.i64 0, Value.int IntKind.i64 0, Value.int IntKind.i64 0, Value.int IntKind.i64 0, Value.int IntKind.i64 0, Value.slice none 0 0, Value.bool false, Value.bool false]) := Ln.below_setRow HB4.out (by omega) _
          generalize wr.setRow w.heap.size #[Value.int IntKind.i64 0, Value.int IntKind.i64 0, Value.int IntKind.i64 0, Value.int IntKind.i64 0, Value.int IntKind.i64 0, Value.slice none 0 0, Value.bool false, Value.bool false] = w9 at hrow hbr ⊢
          obtain ⟨o0, o1, o2, o3, o4, o5, o6, o7⟩ := Ln.cells8o (m := Ln.zeroM) (v := .slice none 0 0) hrow
          refine bodyPost_ret (v := .tuple #[.pointer none, .agg (Ln.cells Ln.zeroM (.slice none 0 0)), .int .i64 9]) (by simp [results, Try.results49, go_sem, asAddr, o0, o1, o2, o3, o4, o5, o6, o7]; rfl) rfl ⟨hbr, by rw [HF.out]; rfl⟩
      · have ht := timely_any A cp ps wr ((HP.out.keep HB3.out).keep HBR.out)
        have hF : Ln.begunF base ps = if Ln.timelyF ps = true then 0 else 63 := by unfold Ln.begunF; rw [if_neg (by omega), if_neg g1]
        have g1' : ps.length ≤ 12 := by omega
        have g2' : Ln.openF ps ≤ 4 := by omega
        clear g1
        cases hti : Ln.timelyF ps with
        | false =>
          rw [hti] at ht hF
          have HT := Lib.hid ht
          have HF := Lib.hid hF
          clear ht hF hti
          go_wp2_with fail
          refine HT.out.mono ?_
          rintro e w5 ⟨rfl, hb5⟩
          have HO5 := Lib.hid (Qu.blk_below HO4.out hb5)
          have HB5 := Lib.hid (HB4.out.trans (hb5.mono HB4.out.size))
          clear hb5
          go_wp2_with (refine wpList_store_row rfl 71 (.tmp 5) (.tmp 50) rfl w.heap.size #[Value.int IntKind.i64 0, Value.int IntKind.i64 0, Value.int IntKind.i64 0, Value.int IntKind.i64 0, Value.int IntKind.i64 0, Value.slice none 0 0, Value.bool false, Value.bool false] rfl rfl 71 #[Value.int IntKind.i64 0, Value.int IntKind.i64 0, Value.int IntKind.i64 0, Value.int IntKind.i64 0, Value.int IntKind.i64 0, Value.slice none 0 0, Value.bool false, Value.bool false] HO5.out Try.size71 rfl (by simp [Value.oneCell']) ?_)
          have hrow := setRow_heap w5 w.heap.size _ #[Value.int IntKind.i64 0, Value.int IntKind.i64 0, Value.int IntKind.i64 0, Value.int IntKind.i64 0, Value.int IntKind.i64 0, Value.slice none 0 0, Value.bool false, Value.bool false] 71 (0, 0) HO5.out
          have hbr : Below w.heap.size w (w5.setRow w.heap.size #[Value.int IntKind.i64 0, Value.int IntKind.i64 0, Value.int IntKind.i64 0, Value.int IntKind.i64 0, Value.int IntKind.i64 0, Value.slice none 0 0, Value.bool false, Value.bool false]) := Ln.below_setRow HB5.out (by omega) _
          generalize w5.setRow w.heap.size #[Value.int IntKind.i64 0, Value.int IntKind.i64 0, Value.int IntKind.i64 0, Value.int IntKind.i64 0, Value.int IntKind.i64 0, Value.slice none 0 0, Value.bool false, Value.bool false] = w9 at hrow hbr ⊢
          obtain ⟨o0, o1, o2, o3, o4, o5, o6, o7⟩ := Ln.cells8o (m := Ln.zeroM) (v := .slice none 0 0) hrow
          refine bodyPost_ret (v := .tuple #[.pointer none, .agg (Ln.cells Ln.zeroM (.slice none 0 0)), .int .i64 63]) (by simp [results, Try.results49, go_sem, asAddr, o0, o1, o2, o3, o4, o5, o6, o7]; rfl) rfl ⟨hbr, by rw [HF.out]; rfl⟩
        | true =>
          rw [hti, if_pos rfl] at hF
          exact absurd hF HNE.out

end Go.Proofs.Ytgdeoodihhcdjaa
