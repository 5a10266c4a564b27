/- The contract of Take. -/
import Derived.Test.YtgdeoodihhcdjaaQi
import Derived.StillTailTactics
namespace Go.Proofs.Ytgdeoodihhcdjaa
open Go.RowKit
set_option linter.unusedVariables false
set_option linter.unusedSimpArgs false

def Qu.sum (xs : List (Int × Int)) : Int := (xs.map Prod.snd).sum
/-- Who goes out, who stays. -/
def Qu.takeF (most bytes : Int) : List (Int × Int) → Int → List (Int × Int) → List (Int × Int) × List (Int × Int)
  | out, _, [] => (out, [])
  | out, size, p :: xs => if (out.length : Int) < most then (if 0 < out.length ∧ bytes < size + p.2 then (out, p :: xs) else Qu.takeF most bytes (out ++ [p]) (size + p.2) xs) else (out, p :: xs)

/-- The queue as Take's loop has it. -/
structure Qu.TakeRel (w : World) (sb c : Nat) (b : Int) (mb : Nat) (R LB : Option Nat) (ys xs0 : List (Int × Int)) (F : List (Int × Int) × List (Int × Int)) (most bytes : Int) (gk : Nat) (l sz : Value) (wr : World) : Prop where
  mk :: (out : ∃ (xs out : List (Int × Int)), gk = xs.length ∧ Qu.At wr sb c b (Qu.sum xs) xs ys (.map (some mb)) R LB ∧ Qu.Keys wr mb ((xs ++ ys).map Prod.fst) ∧ wr.ownsRow w.heap.size 38 2 l out.length (Qu.enc out) ∧ sz = .int .i64 (Qu.sum out) ∧
    Qu.Fr (fun i => i = sb ∨ i = mb) w wr ∧ F = Qu.takeF most bytes out (Qu.sum out) xs ∧ out ++ xs = xs0)

def Qu.Taken (w : World) (sb c : Nat) (b : Int) (mb : Nat) (R LB : Option Nat) (ys : List (Int × Int)) (F : List (Int × Int) × List (Int × Int)) (v1 v2 : Value) (w' : World) : Prop :=
  ∃ R', Qu.At w' sb c b (Qu.enterF c b F.2 ys (Qu.sum F.2)).2.2.1 (Qu.enterF c b F.2 ys (Qu.sum F.2)).1 (Qu.enterF c b F.2 ys (Qu.sum F.2)).2.1 (.map (some mb)) R' LB ∧ Qu.Keys w' mb ((F.2 ++ ys).map Prod.fst) ∧
    w'.ownsRow w.heap.size 38 2 v1 F.1.length (Qu.enc F.1) ∧ w'.ownsRow w.heap.size 2 1 v2 (Qu.enterF c b F.2 ys (Qu.sum F.2)).2.2.2.length (Qu.ints (Qu.enterF c b F.2 ys (Qu.sum F.2)).2.2.2) ∧
    Qu.Fr (fun i => i = sb ∨ R = some i ∨ i = mb) w w' ∧ (R' = R ∨ ∃ i, R' = some i ∧ w.heap.size ≤ i)

theorem Qu.sum_nil : Qu.sum [] = 0 := rfl
theorem Qu.sum_cons (p : Int × Int) (xs : List (Int × Int)) : Qu.sum (p :: xs) = p.2 + Qu.sum xs := by simp [Qu.sum]
theorem Qu.sum_append (xs ys : List (Int × Int)) : Qu.sum (xs ++ ys) = Qu.sum xs + Qu.sum ys := by simp [Qu.sum]
theorem Qu.sum_nonneg : ∀ (xs : List (Int × Int)), (∀ p ∈ xs, 0 ≤ p.2) → 0 ≤ Qu.sum xs
  | [], _ => by simp [Qu.sum]
  | p :: xs, h => by
    rw [Qu.sum_cons]
    have := Qu.sum_nonneg xs (fun q hq => h q (by simp [hq]))
    have := h p (by simp)
    omega

theorem Qu.own_slice {w : World} {base n : Nat} {e : TypeId} {size : Nat} {v : Value} {xs : List Value} (h : w.ownsRow base e size v n xs) : ∃ A c, v = .slice A n c := by
  rcases h.2 with ⟨rfl, rfl⟩ | ⟨g, cap, cur, rfl, _⟩
  · exact ⟨none, 0, rfl⟩
  · exact ⟨_, _, rfl⟩
theorem Qu.own_kept {w w1 : World} {base : Nat} {e : TypeId} {size n : Nat} {v : Value} {xs : List Value} (h : w.ownsRow base e size v n xs) (hb : ∀ (i : Nat) (cs : Array Value) (t : TypeId) (f : Nat × Nat), w.heap[i]? = some (Obj.cells cs t f) → w1.heap[i]? = w.heap[i]?) : w1.ownsRow base e size v n xs := by
  refine ⟨h.1, ?_⟩
  rcases h.2 with h2 | ⟨g, cap, cur, rfl, hg, hh, r⟩
  · exact .inl h2
  · exact .inr ⟨g, cap, cur, rfl, hg, (hb g _ _ _ hh).trans hh, r⟩
/-- Behind the loop: enter has been called. -/
theorem Qu.taken_end {w w4 w5 : World} {sb c : Nat} {b : Int} {mb : Nat} {R LB : Option Nat} {ys out xs : List (Int × Int)} {F : List (Int × Int) × List (Int × Int)} {v1 v2 : Value}
    (hR : ∀ i, R = some i → i < w.heap.size)
    (hat : Qu.At w4 sb c b (Qu.sum xs) xs ys (.map (some mb)) R LB) (hk : Qu.Keys w4 mb ((xs ++ ys).map Prod.fst)) (ho : w4.ownsRow w.heap.size 38 2 v1 out.length (Qu.enc out)) (hf : Qu.Fr (fun i => i = sb ∨ i = mb) w w4) (hF : F = (out, xs))
    (he : Qu.Entered w4 sb c b (.map (some mb)) R LB (Qu.enterF c b xs ys (Qu.sum xs)) v2 w5) : Qu.Taken w sb c b mb R LB ys F v1 v2 w5 := by
  subst hF
  obtain ⟨R', h1, h2, h3, h4⟩ := he
  obtain ⟨L, k, LV, hb, hr, hl, hne⟩ := hat
  refine ⟨R', h1, hk.keep (h3.block _ hk.lt ?_), Qu.own_fr ho h3 ?_, ?_, ?_, ?_⟩
  · rintro (h | h)
    · exact hk.ne hb h.symm
    · rcases hr with ⟨_, _, _, h0⟩ | ⟨rb, m, arr, h0, _, _, _, _, h5, _⟩
      · rw [h0] at h; cases h
      · rw [h0] at h; injection h with h; exact hk.ne h5 h
  · rintro i hi (h | h)
    · subst h; exact Qu.own_ne ho hb (by decide) hi.symm
    · have := hR i h
      have := (ho.lt i hi).1
      omega
  · obtain ⟨q1, q2⟩ := h2
    refine ⟨q1, ?_⟩
    rcases q2 with q2 | ⟨g, cap, cur, e, hg, r⟩
    · exact .inl q2
    · exact .inr ⟨g, cap, cur, e, Nat.le_trans hf.size hg, r⟩
  · refine (hf.mono ?_).trans h3 ?_
    · rintro i _ (h | h)
      · exact .inl h
      · exact .inr (.inr h)
    · rintro i _ (h | h)
      · exact .inl h
      · exact .inr (.inl h)
  · rcases h4 with h | ⟨i, h, hi⟩
    · exact .inl h
    · exact .inr ⟨i, h, Nat.le_trans hf.size hi⟩

theorem ring_head (sb : Nat) (L : Value) (k : Nat) (px py : Int) (xs : List (Int × Int)) (R : Option Nat) (a0 a1 a2 a5 a6 a7 : Value) (w : World)
    (hblk : w.heap[sb]? = some (.cells #[a0, a1, a2, L, .int .i64 k, a5, a6, a7] 81 (0, 0))) (hr : Qu.Ring w L k ((px, py) :: xs) R) :
    Calls Try.prog 35 #[.pointer (some ⟨sb, 3, none⟩), .int .i64 0] w fun e w' => e = .returned (.agg #[.int .i64 px, .int .i64 py]) ∧ Below w.heap.size w w' := by
  rcases hr with ⟨_, _, h, _⟩ | ⟨rb, m, arr, rfl, rfl, hm, hk, hn, hrb, hs, hri⟩
  · cases h
  obtain ⟨q0, q1⟩ := hri 0 (by simp)
  simp only [Nat.add_zero, List.getD_cons_zero] at q0 q1
  rw [Nat.mod_eq_of_lt hk] at q0 q1
  exact ring_at sb 3 rb m k 0 px py w hm hk (by omega) ((Qu.blk_cell hblk 3).trans rfl) ((Qu.blk_cell hblk 4).trans rfl)
      (by rw [Qu.blk_cell hrb]; simpa [Nat.mod_eq_of_lt hk] using q0) (by rw [Qu.blk_cell hrb]; simpa [Nat.mod_eq_of_lt hk] using q1)

set_option maxHeartbeats 1000000 in
set_option maxRecDepth 100000 in
theorem take_any (sb c : Nat) (b : Int) (xs0 ys : List (Int × Int)) (mb : Nat) (R LB : Option Nat) (most bytes : Int) (w : World) (hc0 : 0 < c) (hc : c ≤ 1024) (hb0 : b ≤ 17000000)
    (hat : Qu.At w sb c b (Qu.sum xs0) xs0 ys (.map (some mb)) R LB) (hk : Qu.Keys w mb ((xs0 ++ ys).map Prod.fst)) (hx : xs0.length ≤ c) (hu : Qu.sum xs0 ≤ b) (hpx : ∀ p ∈ xs0, 0 ≤ p.2) (hp : ∀ p ∈ ys, 0 ≤ p.2 ∧ p.2 ≤ b) (hy : ys.length ≤ 2000)
    (hnd : ((xs0 ++ ys).map Prod.fst).Nodup) (h64 : ∀ p ∈ xs0, Qu.In64 p.1) :
    Calls Try.prog 11 #[.pointer (some ⟨sb, 0, none⟩), .int .i64 most, .int .i64 bytes] w fun e w' => ∃ v1 v2, e = .returned (.tuple #[v1, v2]) ∧ Qu.Taken w sb c b mb R LB ys (Qu.takeF most bytes [] 0 xs0) v1 v2 w' := by
  have HAT := Lib.hid hat
  have HK := Lib.hid hk
  have HPX := Lib.hid hpx
  have HP := Lib.hid hp
  have HND := Lib.hid hnd
  have H64 := Lib.hid h64
  obtain ⟨L, k, LV, hb, hr, hl, hne⟩ := hat
  have c0 := (Qu.cells8 hb).1
  have hRlt : ∀ i, R = some i → i < w.heap.size := hr.lt
  have HRLT := Lib.hid hRlt
  have hLlt : ∀ i, LB = some i → i < w.heap.size := hl.lt
  have HLLT := Lib.hid hLlt
  clear hk hpx hp hnd h64 hb hr hl hne hRlt hLlt
  go_enter Try.func11, Try.ntmps11
  go_wp2_with (go_at_call 32; refine (there_some sb c _ c0 (by omega)).mono ?_; rintro e w1 ⟨rfl, rfl⟩)
  clear c0
  go_loopg [8, 9] xs0.length (fun gk l sz wr => Qu.TakeRel w1 sb c b mb R LB ys xs0 (Qu.takeF most bytes [] 0 xs0) most bytes gk l sz wr)
  case atStart => exact ⟨xs0, [], rfl, HAT.out, HK.out, World.ownsRow_nil _ _ _ _, rfl, Qu.Fr.refl _ _, rfl, rfl⟩
  case round =>
    obtain ⟨xs, out, rfl, hat, hk, hown, rfl, hfr, hF, hx0⟩ := hrel.out
    clear hrel
    have hent := fun (W : World) (h : Qu.At W sb c b (Qu.sum xs) xs ys (.map (some mb)) R LB) => enter_any sb c b (Qu.sum xs) xs ys (.map (some mb)) R LB W hc hb0 h (by have := congrArg List.length hx0; simp at this; omega)
      (by
        have h0 := Qu.sum_append out xs
        rw [hx0] at h0
        have h1 := Qu.sum_nonneg out (fun p hp => HPX.out p (by rw [← hx0]; simp [hp]))
        have h2 := Qu.sum_nonneg xs (fun p hp => HPX.out p (by rw [← hx0]; simp [hp]))
        omega) HP.out hy
    obtain ⟨A, cp, rfl⟩ := Qu.own_slice hown
    have hsum : 0 ≤ Qu.sum out ∧ 0 ≤ Qu.sum xs ∧ Qu.sum out + Qu.sum xs ≤ b := by
      have h0 := Qu.sum_append out xs
      rw [hx0] at h0
      have h1 := Qu.sum_nonneg out (fun p hp => HPX.out p (by rw [← hx0]; simp [hp]))
      have h2 := Qu.sum_nonneg xs (fun p hp => HPX.out p (by rw [← hx0]; simp [hp]))
      omega
    have hlen : out.length + xs.length ≤ 1024 := by have := congrArg List.length hx0; simp at this; omega
    have HENT := Lib.hid hent
    have HAT := Lib.hid hat
    have HK := Lib.hid hk
    have HOWN := Lib.hid hown
    have HFR := Lib.hid hfr
    have HF := Lib.hid hF
    have HX0 := Lib.hid hx0
    obtain ⟨L, k, LV, hb, hr, hl, hne⟩ := hat
    have HB := Lib.hid hb
    have HR := Lib.hid hr
    have HL := Lib.hid hl
    have HNE := Lib.hid hne
    have hsb := Qu.blk_lt hb
    obtain ⟨c0, c1, c2, c3, c4, c5, c6, c7⟩ := Qu.cells8 hb
    obtain ⟨hs0, hs1, hs2⟩ := hsum
    clear hent hk hown hfr hF hx0 hb hr hl hne
    cases xs with
    | nil =>
      go_wp2_with (go_at_call 37; refine (HENT.out _ HAT.out).mono ?_; rintro e w5 ⟨v2, rfl, he⟩)
      go_ret2
      exact ⟨_, _, rfl, Qu.taken_end HRLT.out HAT.out HK.out HOWN.out HFR.out (by rw [HF.out]; rfl) he⟩
    | cons p xs =>
      obtain ⟨px, py⟩ := p
      by_cases hmost : (out.length : Int) < most
      · rw [Qu.sum_cons] at hs1 hs2
        have hpy : 0 ≤ py := HPX.out (px, py) (by rw [← HX0.out]; simp)
        have hsx : 0 ≤ Qu.sum xs := Qu.sum_nonneg xs (fun p hp => HPX.out p (by rw [← HX0.out]; simp [hp]))
        simp only at hs1 hs2
        have hd : decide ((out.length : Int) < most) = true := by simpa using hmost
        have HM := Lib.hid hmost
        clear hmost
        simp only [List.length_cons] at c5 hlen
        go_wp2_with fail
        refine (ring_head sb L k px py xs R _ _ _ _ _ _ wr HB.out HR.out).mono ?_
        rintro e w2 ⟨rfl, hb2⟩
        clear hd
        have hat2 := HAT.out.below hb2
        have hk2 := HK.out.keep (hb2.block mb HK.out.lt)
        have hown2 := Qu.own_below HOWN.out hb2
        have hfr2 : Qu.Fr (fun i => i = sb ∨ i = mb) w1 w2 := HFR.out.trans (S1 := fun _ => False) (Qu.Fr.of_below hb2) (fun _ _ h => h.elim)
        have hb22 : w2.heap[sb]? = _ := Qu.blk_below HB.out hb2
        have hsb2 : sb < w2.heap.size := Qu.blk_lt hb22
        have hr2 : Qu.Ring w2 L k ((px, py) :: xs) R := HR.out.keep (fun i hi => hb2.block i (HR.out.lt i hi))
        have hl2 : Qu.Line w2 LV ys LB := HL.out.keep (fun i hi => hb2.block i (HL.out.lt i hi))
        have HAT2 := Lib.hid hat2
        have HK2 := Lib.hid hk2
        have HOWN2 := Lib.hid hown2
        have HFR2 := Lib.hid hfr2
        have HB2 := Lib.hid hb22
        have HR2 := Lib.hid hr2
        have HL2 := Lib.hid hl2
        clear hat2 hk2 hown2 hfr2 hb22 hr2 hl2 hb2 c0 c1 c2 c3 c4 c5 c6 c7
        by_cases hstop : 0 < out.length ∧ bytes < Qu.sum out + py
        · have HST := Lib.hid hstop
          obtain ⟨hst1, hst2⟩ := hstop
          have hd2 : decide (bytes < Qu.sum out + py) = true := by simpa using hst2
          go_wp2_with (go_at_call 37; refine (HENT.out _ (HAT2.out.below ((Below.refl _ _).alloc (Nat.le_refl _) _))).mono ?_; rintro e w5 ⟨v2, rfl, he⟩)
          go_ret2
          refine ⟨_, _, rfl, Qu.taken_end HRLT.out (HAT2.out.below ((Below.refl _ _).alloc (Nat.le_refl _) _)) (HK2.out.keep (Below.heap_alloc _ _ _ HK2.out.lt)) (HOWN2.out.alloc _) (HFR2.out.alloc _) ?_ he⟩
          rw [HF.out, Qu.takeF, if_pos HM.out, if_pos HST.out]
        · have hcase : decide (0 < out.length) = false ∨ (0 < out.length ∧ decide (bytes < Qu.sum out + py) = false) := by
            by_cases h : 0 < out.length
            · exact .inr ⟨h, by simpa using fun hh => hstop ⟨h, hh⟩⟩
            · exact .inl (decide_eq_false h)
          have HST := Lib.hid hstop
          clear hstop
          have hW : ∀ o, (w2.alloc o).heap[sb]? = some (.cells #[.int .i64 c, .int .i64 b, .int .i64 (Qu.sum ((px, py) :: xs)), L, .int .i64 k, .int .i64 (xs.length + 1), LV, .map (some mb)] 81 (0, 0)) := fun o => by simpa using Qu.blk_alloc HB2.out o
          have hpop := fun o => pop_any sb L k px py xs R _ _ _ _ _ (w2.alloc o) (by omega) (hW o) (HR2.out.keep (fun i hi => Below.heap_alloc _ _ _ (HR2.out.lt i hi)))
          have HPOP := Lib.hid hpop
          clear hW hpop
          rcases hcase with hd2 | ⟨h0, hd2⟩
          all_goals
            go_wp2_with fail
            refine (HPOP.out _).mono ?_
            rintro e w3 ⟨rfl, k3, hb3, hr3, hf3⟩
            clear hd2
            have hbx3 : w3.heap[w2.heap.size]? = some (.cells #[.int .i64 px, .int .i64 py] 38 (0, 0)) := (hf3.block _ (by simp) (by omega)).trans (heap_alloc_new w2 _)
            have hf23 := ((Qu.Fr.refl (fun i => i = sb) w2).alloc (Obj.cells #[Value.int IntKind.i64 px, Value.int IntKind.i64 py] 38)).trans hf3 (fun _ _ h => h)
            have hown3 := Qu.own_fr HOWN2.out hf23 (fun i hi h => by subst h; exact Qu.own_ne HOWN2.out HB2.out (by decide) hi.symm)
            have hsz3 := hf23.size
            have hk3 := HK2.out.keep (hf23.block mb HK2.out.lt (fun h => HK2.out.ne HB2.out h.symm))
            have hl3 : Qu.Line w3 LV ys LB := HL2.out.keep (fun i hi => hf23.block i (HL2.out.lt i hi) (HL2.out.ne HB2.out i hi))
            have HB3 := Lib.hid hb3
            have HR3 := Lib.hid hr3
            have HX3 := Lib.hid hbx3
            have HF23 := Lib.hid hf23
            have HOWN3 := Lib.hid hown3
            have HK3 := Lib.hid hk3
            have HL3 := Lib.hid hl3
            clear hb3 hr3 hf3 hbx3 hf23 hown3 hk3 hl3
            go_wp2_with (at_builtin; refine Qu.append1 _ rfl (.tmp 41) (.tmp 46) 31 rfl w1.heap.size 38 _ 2 16 Try.underlying31 Try.info38 rfl (by decide) (by decide) _ out.length (Qu.enc out) rfl w3 #[.int .i64 px, .int .i64 py] rfl HOWN3.out rfl rfl (by simp [Value.oneCell']) (by omega) (Nat.le_trans HFR2.out.size hsz3) ?_)
            intro v4 w4 hown4 hgrow
            have hsz4 := hgrow.size
            have hob : ∀ i, (Value.slice A out.length cp).ownBlock = some i → w1.heap.size ≤ i := fun i hi => (HOWN3.out.lt i hi).1
            have hb4 := Qu.blk_grown HB3.out hgrow (Qu.own_ne HOWN3.out HB3.out (by decide))
            have hx4 := Qu.blk_grown HX3.out hgrow (fun h => by have := HOWN2.out.lt _ h.symm; omega)
            have hk4 := HK3.out.keep (hgrow.block mb HK3.out.lt (fun h => by
              obtain ⟨es, cl, hm⟩ := HK3.out.blk
              rcases HOWN3.out.2 with ⟨h0, _⟩ | ⟨g, cap, cur, h0, _, hg, _⟩
              · rw [h0] at h; cases h
              · rw [h0] at h; injection h with h; subst h; rw [hm] at hg; cases hg))
            have hr4 : Qu.Ring w4 L k3 xs R := HR3.out.keep (fun i hi => hgrow.block i (HR3.out.lt i hi) (fun h => by have := hob i h.symm; have := HRLT.out i hi; omega))
            have hl4 : Qu.Line w4 LV ys LB := HL3.out.keep (fun i hi => hgrow.block i (HL3.out.lt i hi) (fun h => by have := hob i h.symm; have := HLLT.out i hi; omega))
            have hf4 : Qu.Fr (fun i => i = sb ∨ i = mb) w1 w4 := (HFR2.out.trans HF23.out (fun i _ h => .inl h)).trans (Qu.Fr.of_grown (S := fun i => w1.heap.size ≤ i) hgrow (fun i hi _ => hob i hi)) (fun i hi h => by omega)
            obtain ⟨c0, c1, c2, c3, c4, c5, c6, c7⟩ := Qu.cells8 hb4
            have f2 := Qu.blk_frozen hb4 2
            have x0 := Qu.blk_cell hx4 0
            have x1 := Qu.blk_cell hx4 1
            simp only [List.getElem?_toArray, List.getElem?_cons_succ, List.getElem?_cons_zero, Qu.sum_cons] at x0 x1 c2
            have hlt4 := Qu.blk_lt hb4
            have hlx4 := Qu.blk_lt hx4
            have HB4 := Lib.hid hb4
            have HR4 := Lib.hid hr4
            have HL4 := Lib.hid hl4
            have HK4 := Lib.hid hk4
            have HF4 := Lib.hid hf4
            have HOWN4 := Lib.hid hown4
            have HX4 := Lib.hid hx4
            clear hb4 hx4 hk4 hr4 hl4 hf4 hown4 hgrow hob c0 c1 c3 c4 c5 c6
            go_wp2
            go_region
            go_wp2
            have hb5 : ((w4.setCell ⟨sb, 2, none⟩ (.int .i64 (py + Qu.sum xs - py))).drew).heap[sb]? = some (.cells #[.int .i64 c, .int .i64 b, .int .i64 (Qu.sum xs), L, .int .i64 k3, .int .i64 xs.length, LV, .map (some mb)] 81 (0, 0)) := by
              rw [Qu.heap_drew]
              have := Qu.blk_set HB4.out 2 (.int .i64 (py + Qu.sum xs - py))
              simpa only [List.setIfInBounds_toArray, List.set_cons_succ, List.set_cons_zero, show py + Qu.sum xs - py = Qu.sum xs from by omega] using this
            have hf5 : Qu.Fr (fun i => i = sb) w4 (w4.setCell ⟨sb, 2, none⟩ (.int .i64 (py + Qu.sum xs - py))).drew := ((Qu.Fr.refl (fun i => i = sb) w4).setCell (p := ⟨sb, 2, none⟩) (fun _ => rfl) _).drew
            have hx5 := Qu.blk_fr HX4.out hf5 (by omega)
            have hk5 := HK4.out.keep (hf5.block mb HK4.out.lt (fun h => HK4.out.ne HB4.out h.symm))
            have hr5 := HR4.out.keep (fun i hi => hf5.block i (HR4.out.lt i hi) (HR4.out.ne HB4.out i hi))
            have hl5 := HL4.out.keep (fun i hi => hf5.block i (HL4.out.lt i hi) (HL4.out.ne HB4.out i hi))
            have hown5 := Qu.own_fr HOWN4.out hf5 (fun i hi h => by subst h; exact Qu.own_ne HOWN4.out HB4.out (by decide) hi.symm)
            have hf15 := HF4.out.trans hf5 (fun i _ h => .inl h)
            generalize (w4.setCell ⟨sb, 2, none⟩ (.int .i64 (py + Qu.sum xs - py))).drew = w5 at hb5 hf5 hx5 hk5 hr5 hl5 hown5 hf15 ⊢
            have c7 := (Qu.cells8 hb5).2.2.2.2.2.2.2
            have x0 := Qu.blk_cell hx5 0
            simp only [List.getElem?_toArray, List.getElem?_cons_succ, List.getElem?_cons_zero] at x0
            have HB5 := Lib.hid hb5
            have HR5 := Lib.hid hr5
            have HL5 := Lib.hid hl5
            have HF15 := Lib.hid hf15
            have HOWN5 := Lib.hid hown5
            obtain ⟨D, hD1, hD2, hD3⟩ := hk5
            have HD1 := Lib.hid hD1
            have HD2 := Lib.hid hD2
            have HD3 := Lib.hid hD3
            have hmb5 := hD1.lt
            have hwf := Maps.keyOf_int_mk Try.underlying2 (Qu.In64.wf (H64.out (px, py) (by rw [← HX0.out]; simp)))
            have HWF := Lib.hid hwf
            clear hb5 hf5 hx5 hr5 hl5 hf15 hown5 hD1 hD2 hD3 hwf
            clear x1 f2 c2 hlt4 hlx4
            go_still_tail 6, (by kernel_rfl)
            refine wpList_delete_own _ rfl _ _ 77 2 rfl 82 Qu.law2 Try.underlying77 unitElem mb _ D rfl HD1.out _ _ rfl HWF.out ?_
            intro w6 hown6 hturn6
            go_wp2
            go_roundg xs.length
            case measure => simp
            case rel =>
              have hgr : w5.grownBy w6 (some mb) := ⟨hturn6.grown.os, hturn6.grown.tape, hturn6.grown.output, hturn6.grown.size, hturn6.grown.block⟩
              have hbm : ∀ (i : Nat) (cs : Array Value) (t : TypeId) (f : Nat × Nat), w5.heap[i]? = some (Obj.cells cs t f) → w6.heap[i]? = w5.heap[i]? := fun i cs t f hi => hgr.block i (Qu.blk_lt hi) (fun h => by
                injection h with h
                subst h
                obtain ⟨es, cl, hm, _⟩ := HD1.out
                rw [hm] at hi; cases hi)
              have hnd : (((px, py) :: xs ++ ys).map Prod.fst).Nodup := by
                have := HND.out
                rw [← HX0.out] at this
                rw [List.append_assoc, List.map_append] at this
                exact (List.nodup_append.1 this).2.1
              refine ⟨xs, out ++ [(px, py)], rfl, ⟨L, k3, LV, (hbm _ _ _ _ HB5.out).trans HB5.out, HR5.out.keep ?_, HL5.out.keep ?_, HNE.out⟩, ?_, ?_, ?_, ?_, ?_, ?_⟩
              · intro i hi
                rcases HR5.out with ⟨_, _, _, h⟩ | ⟨rb, m, arr, h, _, _, _, _, h5, _⟩
                · rw [h] at hi; cases hi
                · rw [h] at hi; injection hi with hi; subst hi; exact hbm _ _ _ _ h5
              · intro i hi
                rcases HL5.out with ⟨_, _, h⟩ | ⟨lb, off, cap, arr, h, _, _, _, h5, _⟩
                · rw [h] at hi; cases hi
                · rw [h] at hi; injection hi with hi; subst hi; exact hbm _ _ _ _ h5
              · have := Qu.Keys.del (w' := w6) HD1.out HD2.out HD3.out px (by simp) hnd hown6
                simpa using this
              · have h6 := Qu.own_kept HOWN5.out hbm
                simpa [Qu.enc] using h6
              · rw [Qu.sum_append, Qu.sum_cons, Qu.sum_nil]; simp
              · exact HF15.out.trans (S1 := fun i => i = mb) (Qu.Fr.of_grown hgr (fun i hi _ => by injection hi with hi; exact hi.symm)) (fun i _ h => .inr h)
              · rw [HF.out, Qu.takeF, if_pos HM.out, if_neg HST.out, Qu.sum_append, Qu.sum_cons, Qu.sum_nil]; simp
              · rw [← HX0.out]; simp
      · have hd : decide ((out.length : Int) < most) = false := by simpa using hmost
        have HM := Lib.hid hmost
        clear hmost
        go_wp2_with (go_at_call 37; refine (HENT.out _ HAT.out).mono ?_; rintro e w5 ⟨v2, rfl, he⟩)
        go_ret2
        exact ⟨_, _, rfl, Qu.taken_end HRLT.out HAT.out HK.out HOWN.out HFR.out (by rw [HF.out, Qu.takeF, if_neg (by have := HM.out; omega)]) he⟩
end Go.Proofs.Ytgdeoodihhcdjaa
