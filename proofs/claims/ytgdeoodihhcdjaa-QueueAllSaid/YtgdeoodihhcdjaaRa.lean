/- Held; the reference's New, Sum, has, room. -/
import Derived.Test.YtgdeoodihhcdjaaQp
namespace Go.Proofs.Ytgdeoodihhcdjaa
open Go.RowKit
set_option linter.unusedVariables false
set_option linter.unusedSimpArgs false

theorem ring_all_any (sb : Nat) (L : Value) (k : Nat) (xs : List (Int × Int)) (R : Option Nat) (a0 a1 a2 a6 a7 : Value) (w : World) (hx : xs.length ≤ 4096)
    (hblk : w.heap[sb]? = some (.cells #[a0, a1, a2, L, .int .i64 k, .int .i64 xs.length, a6, a7] 81 (0, 0))) (hr : Qu.Ring w L k xs R) :
    Calls Try.prog 47 #[.pointer (some ⟨sb, 3, none⟩)] w fun e w' => ∃ v, e = .returned v ∧ w'.ownsRow w.heap.size 38 2 v xs.length (Qu.enc xs) ∧ Below w.heap.size w w' := by
  rcases hr with ⟨rfl, rfl, rfl, rfl⟩ | ⟨rb, m, arr, rfl, rfl, hm, hk, hn, hrb, hs, hri⟩
  · exact ring_all sb 3 0 0 0 none [] w (by omega) (fun h => by simp at h) (Qu.blk_cell hblk 3) (Qu.blk_cell hblk 4) (Qu.blk_cell hblk 5) (by simp) (fun j hj => by simp at hj)
  · exact ring_all sb 3 rb m k (some ⟨rb, 0, none⟩) xs w hm (fun _ => ⟨rfl, hk, hn⟩) (Qu.blk_cell hblk 3) (Qu.blk_cell hblk 4) (Qu.blk_cell hblk 5) hx (Qu.ringAt_of hrb hri)

theorem held_any (sb c : Nat) (b u : Int) (xs ys : List (Int × Int)) (MV : Value) (R LB : Option Nat) (w : World) (hc0 : 0 < c) (hat : Qu.At w sb c b u xs ys MV R LB) (hx : xs.length ≤ 2000) :
    Calls Try.prog 24 #[.pointer (some ⟨sb, 0, none⟩)] w fun e w' => ∃ v, e = .returned v ∧ w'.ownsRow w.heap.size 38 2 v xs.length (Qu.enc xs) ∧ Below w.heap.size w w' := by
  obtain ⟨L, k, LV, hb, hr, hl, hne⟩ := hat
  have c0 := (Qu.cells8 hb).1
  have HALL := Lib.hid (ring_all_any sb L k xs R _ _ _ _ _ w (by omega) hb hr)
  clear hb hr hl hne
  go_enter Try.func24, Try.ntmps24
  go_wp2_with (first
    | (go_at_call 32; refine (there_some' sb c _ c0 (by omega)).mono ?_; rintro e w1 ⟨rfl, rfl⟩)
    | (go_at_call 47; refine HALL.out.mono ?_; rintro e w1 ⟨v, rfl, hown, hb⟩))
  go_ret
  exact ⟨_, rfl, hown, hb⟩

/-! ### the reference -/
/-- A slice of items that is read: nil, or in a block. -/
theorem Qu.Line.get {w : World} {V : Value} {ys : List (Int × Int)} {LB : Option Nat} (h : Qu.Line w V ys LB) {j : Nat} (hj : j < ys.length) :
    ∃ lb off cap, V = .slice (some ⟨lb, off, none⟩) ys.length cap ∧ lb < w.heap.size ∧ w.cell? ⟨lb, off + j * 2, none⟩ = some (.int .i64 (ys.getD j (0, 0)).1) ∧ w.cell? ⟨lb, off + j * 2 + 1, none⟩ = some (.int .i64 (ys.getD j (0, 0)).2) := by
  rcases h with ⟨_, rfl, _⟩ | ⟨lb, off, cap, arr, _, rfl, h2, h3, h4, h5, h6⟩
  · simp at hj
  · obtain ⟨e0, e1⟩ := h6 j hj
    exact ⟨lb, off, cap, rfl, Qu.blk_lt h4, (Qu.blk_cell h4 _).trans e0, (Qu.blk_cell h4 _).trans e1⟩

theorem may_any (c b : Int) (w : World) : Calls Try.prog 38 #[.int .i64 c, .int .i64 b] w fun e w' => e = .returned (.bool (decide (1 ≤ c ∧ c ≤ 1024 ∧ 1 ≤ b ∧ b ≤ 16777216))) ∧ w = w' := by
  by_cases h1 : 1 ≤ c
  · by_cases h2 : c ≤ 1024
    · by_cases h3 : 1 ≤ b
      · by_cases h4 : b ≤ 16777216
        · go_enter Try.func38, Try.ntmps38
          go_wp2
          go_ret
          exact ⟨by rw [decide_eq_true (by omega)]; rfl, rfl⟩
        · go_enter Try.func38, Try.ntmps38
          go_wp2
          go_ret
          exact ⟨by rw [decide_eq_false (by omega)]; rfl, rfl⟩
      · go_enter Try.func38, Try.ntmps38
        go_wp2
        go_ret
        exact ⟨by rw [decide_eq_false (by omega)]; rfl, rfl⟩
    · go_enter Try.func38, Try.ntmps38
      go_wp2
      go_ret
      exact ⟨by rw [decide_eq_false (by omega)]; rfl, rfl⟩
  · go_enter Try.func38, Try.ntmps38
    go_wp2
    go_ret
    exact ⟨by rw [decide_eq_false (by omega)]; rfl, rfl⟩

/-- The reference's memory: its struct at rb, who is held in B1, the line in B2. -/
def Qu.RAt (w : World) (rb c : Nat) (b : Int) (xs ys : List (Int × Int)) (B1 B2 : Option Nat) : Prop :=
  ∃ (V1 V2 : Value), w.heap[rb]? = some (.cells #[.int .i64 c, .int .i64 b, V1, V2] 90 (0, 0)) ∧ Qu.Line w V1 xs B1 ∧ Qu.Line w V2 ys B2 ∧ (∀ i, B1 = some i → B2 ≠ some i)

theorem rnew_no (c b : Int) (w : World) (h : c < 1 ∨ 1024 < c ∨ b < 1 ∨ 16777216 < b) : Calls Try.prog 14 #[.int .i64 c, .int .i64 b] w fun e w' => e = .returned (.tuple #[.pointer none, .int .i64 1]) ∧ w = w' := by
  have hd : decide (1 ≤ c ∧ c ≤ 1024 ∧ 1 ≤ b ∧ b ≤ 16777216) = false := decide_eq_false (by omega)
  have HM := Lib.hid (may_any c b w)
  have HD := Lib.hid hd
  clear hd h
  go_enter Try.func14, Try.ntmps14
  go_wp2_with fail
  refine HM.out.mono ?_
  rw [HD.out]
  rintro e w1 ⟨rfl, rfl⟩
  go_wp2
  go_ret2
  exact ⟨rfl, rfl⟩
theorem rnew_yes (c : Nat) (b : Int) (w : World) (hc0 : 0 < c) (hc : c ≤ 1024) (hb0 : 1 ≤ b) (hb1 : b ≤ 16777216) : Calls Try.prog 14 #[.int .i64 c, .int .i64 b] w fun e w' => ∃ rb, e = .returned (.tuple #[.pointer (some ⟨rb, 0, none⟩), .int .i64 0]) ∧
    Qu.RAt w' rb c b [] [] none none ∧ Below w.heap.size w w' ∧ w.heap.size ≤ rb := by
  have hd : decide (1 ≤ (c : Int) ∧ (c : Int) ≤ 1024 ∧ 1 ≤ b ∧ b ≤ 16777216) = true := decide_eq_true (by omega)
  have HM := Lib.hid (may_any c b w)
  have HD := Lib.hid hd
  clear hd
  go_enter Try.func14, Try.ntmps14
  go_wp2_with fail
  refine HM.out.mono ?_
  rw [HD.out]
  rintro e w1 ⟨rfl, rfl⟩
  go_wp2
  go_ret2
  exact ⟨w.heap.size, rfl, ⟨.slice none 0 0, .slice none 0 0, Qu.new_at rfl, .inl ⟨rfl, rfl, rfl⟩, .inl ⟨rfl, rfl, rfl⟩, (fun i h => by cases h)⟩, (Below.refl _ _).alloc (Nat.le_refl _) _, Nat.le_refl _⟩

theorem Qu.sum_take' (G : List (Int × Int)) (t : Nat) (ht : t < G.length) (h : ∀ p ∈ G, 0 ≤ p.2) : 0 ≤ Qu.sum (G.take t) ∧ Qu.sum (G.take t) + (G.getD t (0, 0)).2 = Qu.sum (G.take (t + 1)) ∧ Qu.sum (G.take (t + 1)) ≤ Qu.sum G := by
  refine ⟨Qu.sum_nonneg _ (fun p hp => h p (List.mem_of_mem_take hp)), ?_, ?_⟩
  · rw [List.take_succ_eq_append_getElem ht, Qu.sum_append, Qu.sum_cons, Qu.sum_nil, List.getD_eq_getElem?_getD, List.getElem?_eq_getElem ht]
    simp
  · have := Qu.sum_append (G.take (t + 1)) (G.drop (t + 1))
    rw [List.take_append_drop] at this
    have h2 := Qu.sum_nonneg (G.drop (t + 1)) (fun p hp => h p (List.mem_of_mem_drop hp))
    omega
theorem sum_any (V : Value) (ys : List (Int × Int)) (LB : Option Nat) (w : World) (h : Qu.Line w V ys LB) (hs : ∀ p ∈ ys, 0 ≤ p.2) (hb : Qu.sum ys ≤ 17000000) (hn : ys.length ≤ 100000) :
    Calls Try.prog 41 #[V] w fun e w' => e = .returned (.int .i64 (Qu.sum ys)) ∧ w = w' := by
  obtain ⟨A, cp, rfl⟩ := h.slice
  have HL := Lib.hid h
  have HS := Lib.hid hs
  clear h hs
  go_enter Try.func41, Try.ntmps41
  go_wp2
  go_loopg [3, 4] ys.length (fun gk s3 s4 wx => ∃ t : Nat, t ≤ ys.length ∧ gk = ys.length - t ∧ s3 = .int .i64 (Qu.sum (ys.take t)) ∧ s4 = .int .i64 t ∧ wx = w)
  case atStart => exact ⟨0, by omega, by omega, by simp [Qu.sum_nil], rfl, rfl⟩
  case round =>
    obtain ⟨t, ht, rfl, rfl, rfl, rfl⟩ := hrel
    by_cases htl : t < ys.length
    · obtain ⟨lb, off, cap, hv, hlt, x0, x1⟩ := HL.out.get htl
      obtain ⟨u0, u1, u2⟩ := Qu.sum_take' ys t htl HS.out
      obtain ⟨s4, hs4⟩ : ∃ s4, (ys.getD t (0, 0)).2 = s4 := ⟨_, rfl⟩
      rw [hs4] at x1 u1
      injection hv with hv1 _ hv3
      subst hv1
      subst hv3
      have hu2 : Qu.sum (ys.take t) + s4 ≤ 17000000 := by omega
      have hu3 : 0 ≤ Qu.sum (ys.take t) + s4 := by rw [u1]; exact Qu.sum_nonneg _ (fun p hp => HS.out p (List.mem_of_mem_take hp))
      have HU1 := Lib.hid u1
      clear u1 u2 hs4 x0
      go_wp2
      go_roundg (ys.length - (t + 1))
      case measure => omega
      case rel => exact ⟨t + 1, by omega, rfl, by rw [← HU1.out], by go_num, rfl⟩
    · have htl2 : t = ys.length := by omega
      have HT := Lib.hid htl2
      clear htl2
      go_wp2
      go_ret
      refine ⟨?_, rfl⟩
      rw [HT.out, List.take_of_length_le (Nat.le_refl _)]
      rfl

theorem Qu.not_mem_snoc {l l' : List Int} {x s : Int} (h : l' = l ++ [s]) (h1 : x ∉ l) (h2 : ¬ s = x) : x ∉ l' := by
  rw [h, List.mem_append]
  rintro (h | h)
  · exact h1 h
  · rw [List.mem_singleton] at h
    exact h2 h.symm
theorem has_any (V : Value) (ys : List (Int × Int)) (LB : Option Nat) (id : Int) (w : World) (h : Qu.Line w V ys LB) (hn : ys.length ≤ 100000) :
    Calls Try.prog 39 #[V, .int .i64 id] w fun e w' => e = .returned (.bool (decide (id ∈ ys.map Prod.fst))) ∧ w = w' := by
  obtain ⟨A, cp, rfl⟩ := h.slice
  have HL := Lib.hid h
  clear h
  go_enter Try.func39, Try.ntmps39
  go_wp2
  go_loopg [5] ys.length (fun gk s5 wx => ∃ t : Nat, t ≤ ys.length ∧ gk = ys.length - t ∧ s5 = .int .i64 t ∧ id ∉ (ys.take t).map Prod.fst ∧ wx = w)
  case atStart => exact ⟨0, by omega, by omega, rfl, by simp, rfl⟩
  case round =>
    obtain ⟨t, ht, rfl, rfl, hni, rfl⟩ := hrel
    have HNI := Lib.hid hni
    clear hni
    by_cases htl : t < ys.length
    · obtain ⟨lb, off, cap, hv, hlt, x0, x1⟩ := HL.out.get htl
      have hmem : (ys.getD t (0, 0)).1 ∈ ys.map Prod.fst := by
        rw [List.getD_eq_getElem?_getD, List.getElem?_eq_getElem htl, Option.getD_some]
        exact List.mem_map.2 ⟨_, List.getElem_mem htl, rfl⟩
      have hstep : (ys.take (t + 1)).map Prod.fst = (ys.take t).map Prod.fst ++ [(ys.getD t (0, 0)).1] := by
        rw [List.take_succ_eq_append_getElem htl, List.map_append, List.getD_eq_getElem?_getD, List.getElem?_eq_getElem htl]
        rfl
      obtain ⟨s4, hs4⟩ : ∃ s4, (ys.getD t (0, 0)).1 = s4 := ⟨_, rfl⟩
      rw [hs4] at x0 hmem hstep
      injection hv with hv1 _ hv3
      subst hv1
      subst hv3
      have HMEM := Lib.hid hmem
      have HST := Lib.hid hstep
      clear hs4 x1 hmem hstep
      by_cases he : s4 = id
      · have he2 : (s4 == id) = true := by simpa using he
        have HE := Lib.hid he
        clear he
        go_wp2
        go_ret
        refine ⟨?_, rfl⟩
        rw [decide_eq_true (HE.out ▸ HMEM.out)]
        rfl
      · have he2 : (s4 == id) = false := by simpa using he
        have HE := Lib.hid he
        clear he
        go_wp2
        go_roundg (ys.length - (t + 1))
        case measure => omega
        case rel => exact ⟨t + 1, by omega, rfl, by go_num, Qu.not_mem_snoc HST.out HNI.out HE.out, rfl⟩
    · have htl2 : t = ys.length := by omega
      have HT := Lib.hid htl2
      clear htl2
      go_wp2
      go_ret
      refine ⟨?_, rfl⟩
      have := HNI.out
      rw [HT.out, List.take_of_length_le (Nat.le_refl _)] at this
      rw [decide_eq_false this]
      rfl
end Go.Proofs.Ytgdeoodihhcdjaa
