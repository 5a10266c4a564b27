/- A whole number in 36 words: its bits, its length. -/
import Derived.Test.YtljmnafmnmmehaaGreatDoorBf
import Derived.Test.YtljmnafmnmmehaaGreatDoorLe
import Derived.Deep.LoopGhost
import Derived.Deep.Cut
import Derived.WalkKit
import Derived.BigQuiet
import Derived.Deep.QuietTactic
import Derived.BigRegion
import Derived.Below
import Derived.Lib.Hide
import Derived.Outline
import Derived.OwnWalk
import Derived.WalkLawsBesides
import Derived.Handy
namespace Go.Proofs.YtljmnafmnmmehaaGreatDoor
open Go.RowKit
set_option linter.unusedVariables false
set_option linter.unusedSimpArgs false

/-- The words at block b. -/
def Rl.wval (x : Nat) : Value := .int .u64 (x : Int)
def Rl.wenc (ws : List Nat) : Array Value := (ws.map Rl.wval).toArray
structure Rl.Wd (w : World) (b : Nat) (ws : List Nat) : Prop where
  at' : w.heap[b]? = some (.cells (Rl.wenc ws) 61 (0, 0))
  len : ws.length = 36
  lt : ∀ x ∈ ws, x < 18446744073709551616
theorem Rl.wenc_get (ws : List Nat) (i : Nat) (hi : i < ws.length) : (Rl.wenc ws)[i]? = some (.int .u64 (ws.getD i 0 : Nat)) := by
  simp [Rl.wenc, Rl.wval, List.getD_eq_getElem?_getD, List.getElem?_eq_getElem hi]
theorem Rl.Wd.cell {w : World} {b : Nat} {ws : List Nat} (h : Rl.Wd w b ws) (i : Nat) (hi : i < 36) : w.cell? ⟨b, i, none⟩ = some (.int .u64 (ws.getD i 0 : Nat)) := by
  rw [Rl.blk_cell h.at', Rl.wenc_get ws i (by rw [h.len]; exact hi)]
theorem Rl.Wd.get {w : World} {b : Nat} {ws : List Nat} (h : Rl.Wd w b ws) (i : Nat) : ws.getD i 0 < 18446744073709551616 := by
  rw [List.getD_eq_getElem?_getD]
  by_cases hi : i < ws.length
  · rw [List.getElem?_eq_getElem hi]; exact h.lt _ (List.getElem_mem _)
  · rw [List.getElem?_eq_none (by omega)]; decide
def Rl.bitF (ws : List Nat) (i : Nat) : Nat := ws.getD (i / 64) 0 / 2 ^ (i % 64) % 2
theorem Rl.bitF_lt (ws : List Nat) (i : Nat) : Rl.bitF ws i < 2 := Nat.mod_lt _ (by decide)
theorem Rl.and_one (x : Nat) (h : x < 18446744073709551616) : bits .and .u64 (x : Int) 1 = ((x % 2 : Nat) : Int) := by
  have h1 := u64_and_nat x 1 h (by decide)
  rw [Nat.and_one_is_mod] at h1
  exact h1
set_option maxHeartbeats 8000000 in
set_option maxRecDepth 100000 in
theorem bit_any (w : World) (b : Nat) (ws : List Nat) (h : Rl.Wd w b ws) (i : Nat) (hi : i < 2304) : Calls Tryz.prog 69 #[.pointer (some ⟨b, 0, none⟩), .int .i64 (i : Nat)] w fun e w' => e = .returned (.int .u64 (Rl.bitF ws i : Nat)) ∧ w = w' := by
  have hc := h.cell (i / 64) (by omega)
  have hlt := Rl.blk_lt h.at'
  have hg := h.get (i / 64)
  unfold Rl.bitF
  generalize ws.getD (i / 64) 0 = x at hc hg ⊢
  obtain ⟨q, hq⟩ : ∃ q, i / 64 = q := ⟨_, rfl⟩
  obtain ⟨r, hr⟩ : ∃ r, i % 64 = r := ⟨_, rfl⟩
  rw [hq] at hc
  rw [hr]
  have ka := Rl.and_one (x / 2 ^ r) (Nat.lt_of_le_of_lt (Nat.div_le_self _ _) hg)
  rw [show (((x / 2 ^ r : Nat)) : Int) = (x : Int) / 2 ^ r from by simp] at ka
  have KA := Lib.hid ka
  clear h ka
  go_enter Tryz.func69, Tryz.ntmps69
  go_wp2
  go_ret
  refine ⟨?_, rfl⟩
  show Ending.returned (Value.int IntKind.u64 (bits BinOp.and IntKind.u64 ((x : Int) / 2 ^ r) 1)) = _
  rw [KA.out]
/-- n bits from i on: j of them, the highest first. -/
def Rl.fromF (ws : List Nat) (t : Nat) : Nat → Nat
  | 0 => 0
  | j + 1 => Rl.fromF ws t j * 2 + Rl.bitF ws (t - 1 - j)
theorem Rl.fromF_lt (ws : List Nat) (t : Nat) : ∀ j, Rl.fromF ws t j < 2 ^ j
  | 0 => by simp [Rl.fromF]
  | j + 1 => by
    have h1 := Rl.fromF_lt ws t j
    have h2 := Rl.bitF_lt ws (t - 1 - j)
    rw [Nat.pow_succ]
    simp only [Rl.fromF]
    omega
theorem Rl.or_bit (x b : Nat) (h : x < 9223372036854775808) (hb : b < 2) : bits .or .u64 ((x * 2 : Nat) : Int) (b : Int) = ((x * 2 + b : Nat) : Int) := by
  have h1 := u64_or_nat (x * 2) b (by omega) (by omega)
  have h2 : x * 2 ||| b = x * 2 + b := by
    have := Nat.two_pow_add_eq_or_of_lt (i := 1) (b := b) (by omega) x
    rw [Nat.mul_comm]
    simpa using this.symm
  rw [h2] at h1
  exact h1
def Rl.FromRel (ws : List Nat) (i n : Nat) (w : World) (gk : Nat) (ov kv : Value) (wr : World) : Prop :=
  ∃ j : Nat, j ≤ n ∧ gk = n - j ∧ kv = .int .i64 ((i : Int) + (n : Int) - 1 - (j : Int)) ∧ ov = .int .u64 (Rl.fromF ws (i + n) j : Nat) ∧ w = wr
set_option maxHeartbeats 8000000 in
set_option maxRecDepth 100000 in
theorem from_any (w : World) (b : Nat) (ws : List Nat) (h : Rl.Wd w b ws) (i n : Nat) (hi : i + n ≤ 2304) (hn : n ≤ 63) : Calls Tryz.prog 68 #[.pointer (some ⟨b, 0, none⟩), .int .i64 (i : Nat), .int .i64 (n : Nat)] w fun e w' => e = .returned (.int .u64 (Rl.fromF ws (i + n) n : Nat)) ∧ w = w' := by
  have HB := fun (k : Nat) (hk : k < 2304) => bit_any w b ws h k hk
  have HBIT := Lib.hid HB
  clear h HB
  go_enter Tryz.func68, Tryz.ntmps68
  go_wp2_with fail
  go_loopg [7, 8] n (fun gk ov kv wx => Rl.FromRel ws i n w gk ov kv wx)
  case atStart => exact ⟨0, by omega, by omega, by go_num, rfl, rfl⟩
  case round =>
    obtain ⟨j, hj, rfl, rfl, rfl, rfl⟩ := hrel
    have hf := Rl.fromF_lt ws (i + n) j
    have hf2 : Rl.fromF ws (i + n) j < 9223372036854775808 := Nat.lt_of_lt_of_le hf (show 2 ^ j ≤ 2 ^ 63 from Nat.pow_le_pow_right (by decide) (by omega))
    by_cases hlt : j < n
    · obtain ⟨k, hk⟩ : ∃ k : Nat, k = i + n - 1 - j := ⟨_, rfl⟩
      have hki : (i : Int) + (n : Int) - 1 - (j : Int) = (k : Int) := by omega
      have hik : i ≤ k := by omega
      have hkb : k < 2304 := by omega
      have hb := HBIT.out k (by omega)
      have hsuc : Rl.fromF ws (i + n) (j + 1) = Rl.fromF ws (i + n) j * 2 + Rl.bitF ws k := by rw [hk]; rfl
      have hor := Rl.or_bit (Rl.fromF ws (i + n) j) (Rl.bitF ws k) hf2 (Rl.bitF_lt ws k)
      rw [← hsuc, Int.natCast_mul] at hor
      have HBK := Lib.hid hb
      have HK := Lib.hid hk
      rw [hki]
      generalize Rl.fromF ws (i + n) j = x at *
      generalize hy : Rl.fromF ws (i + n) (j + 1) = y at *
      generalize Rl.bitF ws k = bk at *
      have hor2 : bits BinOp.or IntKind.u64 ((x : Int) * 2) (bk : Int) = (y : Int) := hor
      have HY := Lib.hid hy
      clear hor hf hb hsuc hk hki hy
      go_wp2_with (go_at_call 69; (with_reducible refine HBK.out.mono ?_); rintro e w2 ⟨rfl, rfl⟩)
      go_roundg (n - (j + 1))
      case measure => omega
      case rel => exact ⟨j + 1, by omega, rfl, by have := HK.out; go_num, by rw [HY.out], rfl⟩
    · have hje : j = n := by omega
      subst hje
      have hge : decide ((i : Int) ≤ (i : Int) + (j : Int) - 1 - (j : Int)) = false := decide_eq_false (by omega)
      go_wp2_with fail
      go_ret
      exact ⟨rfl, rfl⟩
theorem Rl.bitLenAux_le : ∀ (f x : Nat), Lib.bitLenAux f x ≤ f
  | 0, _ => Nat.le_refl _
  | f + 1, x => by
    unfold Lib.bitLenAux
    split
    · omega
    · have := Rl.bitLenAux_le f (x / 2); omega
theorem Rl.bitLen_le (x : Nat) : Lib.bitLen x ≤ 64 := Rl.bitLenAux_le 64 x
/-- The length of the first k words. -/
def Rl.lenF (ws : List Nat) : Nat → Nat
  | 0 => 0
  | k + 1 => if ws.getD k 0 = 0 then Rl.lenF ws k else k * 64 + Lib.bitLen (ws.getD k 0)
def Rl.LenRel (ws : List Nat) (w : World) (gk : Nat) (kv : Value) (wr : World) : Prop :=
  ∃ k : Nat, k ≤ 36 ∧ k = gk ∧ kv = .int .i64 ((k : Int) - 1) ∧ Rl.lenF ws k = Rl.lenF ws 36 ∧ w = wr
set_option maxHeartbeats 8000000 in
set_option maxRecDepth 100000 in
theorem length_any (w : World) (b : Nat) (ws : List Nat) (h : Rl.Wd w b ws) : Calls Tryz.prog 67 #[.pointer (some ⟨b, 0, none⟩)] w fun e w' => e = .returned (.int .i64 (Rl.lenF ws 36 : Nat)) ∧ w = w' := by
  have H := Lib.hid h
  have hlt := Rl.blk_lt h.at'
  clear h
  go_enter Tryz.func67, Tryz.ntmps67
  go_wp2_with fail
  go_loopg [3] 36 (fun gk kv wx => Rl.LenRel ws w gk kv wx)
  case atStart => exact ⟨36, by omega, rfl, by go_num, rfl, rfl⟩
  case round =>
    obtain ⟨k, hk, rfl, rfl, hF, rfl⟩ := hrel
    cases k with
    | zero =>
      have HF := Lib.hid hF
      clear hF
      go_wp2_with fail
      go_ret
      refine ⟨?_, rfl⟩
      rw [← HF.out]
      rfl
    | succ j =>
      have hj : ((j + 1 : Nat) : Int) - 1 = (j : Int) := by omega
      have hc := H.out.cell j (by omega)
      have hg := H.out.get j
      replace hF : (if ws.getD j 0 = 0 then Rl.lenF ws j else j * 64 + Lib.bitLen (ws.getD j 0)) = Rl.lenF ws 36 := hF
      rw [hj]
      clear hj
      generalize ws.getD j 0 = x at hc hg hF
      by_cases hx : x = 0
      · rw [if_pos hx] at hF
        have HF := Lib.hid hF
        have hx2 : ((x : Int) != 0) = false := by rw [hx]; rfl
        clear hF hx
        go_wp2_with fail
        go_roundg j
        case measure => omega
        case rel => exact ⟨j, by omega, rfl, by go_num, HF.out, rfl⟩
      · rw [if_neg hx] at hF
        have HF := Lib.hid hF
        have hx2 : ((x : Int) != 0) = true := bne_iff_ne.2 (by omega)
        have hL := Tryz.bits_Len64 (x : Int) w (by omega) (by omega)
        rw [Int.toNat_natCast] at hL
        have hbl : Lib.bitLen x ≤ 64 := Rl.bitLen_le x
        have HL := Lib.hid hL
        clear hF hx hL
        go_wp2_with (go_at_call 76; (with_reducible refine HL.out.mono ?_); rintro e w2 ⟨rfl, rfl⟩)
        go_ret
        refine ⟨?_, rfl⟩
        rw [← HF.out]
        go_num
set_option maxHeartbeats 8000000 in
set_option maxRecDepth 100000 in
theorem below_any (w : World) (b : Nat) (ws : List Nat) (h : Rl.Wd w b ws) : Calls Tryz.prog 54 #[.pointer (some ⟨b, 0, none⟩)] w fun e w' => e = .returned (.bool (decide (9223372036854775808 ≤ ws.getD 35 0))) ∧ w = w' := by
  have hc := h.cell 35 (by omega)
  have hlt := Rl.blk_lt h.at'
  generalize ws.getD 35 0 = x at hc ⊢
  clear h
  go_enter Tryz.func54, Tryz.ntmps54
  go_wp2
  go_ret
  refine ⟨?_, rfl⟩
  show Ending.returned (Value.bool (decide ((9223372036854775808 : Int) ≤ (x : Int)))) = _
  congr 3
  rw [eq_iff_iff]
  omega
/-- Is one of the first n bits 1? -/
def Rl.someF (ws : List Nat) : Nat → Bool
  | 0 => false
  | n + 1 => Rl.someF ws n || decide (Rl.bitF ws n = 1)
theorem Rl.someF_step (ws : List Nat) (k n : Nat) (hk : k < n) (h : Rl.bitF ws k = 1) : Rl.someF ws n = true := by
  induction n with
  | zero => omega
  | succ n ih =>
    simp only [Rl.someF, Bool.or_eq_true, decide_eq_true_eq]
    by_cases e : k = n
    · exact .inr (e ▸ h)
    · exact .inl (ih (by omega))
def Rl.SomeRel (ws : List Nat) (n : Nat) (w : World) (gk : Nat) (kv : Value) (wr : World) : Prop :=
  ∃ k : Nat, k ≤ n ∧ gk = n - k ∧ kv = .int .i64 (k : Int) ∧ Rl.someF ws k = false ∧ w = wr
set_option maxHeartbeats 8000000 in
set_option maxRecDepth 100000 in
theorem some_any (w : World) (b : Nat) (ws : List Nat) (h : Rl.Wd w b ws) (n : Nat) (hn : n ≤ 2304) : Calls Tryz.prog 70 #[.pointer (some ⟨b, 0, none⟩), .int .i64 (n : Nat)] w fun e w' => e = .returned (.bool (Rl.someF ws n)) ∧ w = w' := by
  have HB := fun (k : Nat) (hk : k < 2304) => bit_any w b ws h k hk
  have HBIT := Lib.hid HB
  clear h HB
  go_enter Tryz.func70, Tryz.ntmps70
  go_wp2_with fail
  go_loopg [7] n (fun gk kv wx => Rl.SomeRel ws n w gk kv wx)
  case atStart => exact ⟨0, by omega, by omega, rfl, rfl, rfl⟩
  case round =>
    obtain ⟨k, hk, rfl, rfl, hF, rfl⟩ := hrel
    by_cases hlt : k < n
    · have hb := HBIT.out k (by omega)
      have hbl := Rl.bitF_lt ws k
      by_cases h1 : Rl.bitF ws k = 1
      · rw [h1] at hb
        have HBK := Lib.hid hb
        have HF := Lib.hid (Rl.someF_step ws k n hlt h1)
        clear hF hb h1 hbl
        go_wp2_with (go_at_call 69; (with_reducible refine HBK.out.mono ?_); rintro e w2 ⟨rfl, rfl⟩)
        go_ret
        exact ⟨by rw [HF.out]; rfl, rfl⟩
      · have hn : Rl.someF ws (k + 1) = false := by simp only [Rl.someF, hF, Bool.false_or, decide_eq_false h1]
        have h0 : Rl.bitF ws k = 0 := by omega
        rw [h0] at hb
        have HBK := Lib.hid hb
        have HN := Lib.hid hn
        clear hF hb h1 hbl hn h0
        go_wp2_with (go_at_call 69; (with_reducible refine HBK.out.mono ?_); rintro e w2 ⟨rfl, rfl⟩)
        go_roundg (n - (k + 1))
        case measure => omega
        case rel => exact ⟨k + 1, by omega, rfl, by go_num, HN.out, rfl⟩
    · have hke : k = n := by omega
      subst hke
      have HF := Lib.hid hF
      clear hF
      go_wp2_with fail
      go_ret
      exact ⟨by rw [HF.out]; rfl, rfl⟩
/-- The bits of the number that lies nearest. -/
def Rl.roundUp (ws : List Nat) (n : Nat) : Bool := decide (Rl.bitF ws (n - 54) = 1) && (decide (Rl.fromF ws n 53 % 2 = 1) || Rl.someF ws (n - 54))
def Rl.packF (d b : Nat) : Nat := if 2047 ≤ b + 1 then 9218868437227405312 else ((b + 1) * 4503599627370496) ||| (d &&& (18446744073709551615 - 4503599627370496))
def Rl.normF (d b : Nat) : Nat := if d = 9007199254740992 then Rl.packF 4503599627370496 (b + 1) else Rl.packF d b
def Rl.nearF (ws : List Nat) : Nat :=
  if Rl.lenF ws 36 ≤ 53 then ws.getD 0 0
  else Rl.normF (if Rl.roundUp ws (Rl.lenF ws 36) = true then Rl.fromF ws (Rl.lenF ws 36) 53 + 1 else Rl.fromF ws (Rl.lenF ws 36) 53) (Rl.lenF ws 36 - 53)
theorem Rl.lenF_le (ws : List Nat) : ∀ k, Rl.lenF ws k ≤ k * 64
  | 0 => by simp [Rl.lenF]
  | k + 1 => by
    have h1 := Rl.lenF_le ws k
    have h2 := Rl.bitLen_le (ws.getD k 0)
    show (if ws.getD k 0 = 0 then Rl.lenF ws k else k * 64 + Lib.bitLen (ws.getD k 0)) ≤ _
    split <;> omega
theorem Rl.pack_eq (b d : Nat) (hb : b + 1 < 2047) (hd : d < 18446744073709551616) :
    bits .or .u64 (((b : Int) + 1) * 4503599627370496) (bits .andNot .u64 (d : Int) 4503599627370496) = ((((b + 1) * 4503599627370496) ||| (d &&& (18446744073709551615 - 4503599627370496)) : Nat) : Int) := by
  have h1 := u64_andNot_nat d 4503599627370496 hd (by decide)
  have h2 := u64_or_nat ((b + 1) * 4503599627370496) (d &&& (18446744073709551615 - 4503599627370496)) (by omega) (Nat.lt_of_le_of_lt Nat.and_le_left hd)
  rw [show ((4503599627370496 : Nat) : Int) = 4503599627370496 from rfl] at h1
  rw [h1, ← h2]
  congr 1
set_option maxHeartbeats 8000000 in
set_option maxRecDepth 100000 in
theorem nearest_any (w : World) (b : Nat) (ws : List Nat) (h : Rl.Wd w b ws) : Calls Tryz.prog 53 #[.pointer (some ⟨b, 0, none⟩)] w fun e w' => e = .returned (.int .u64 (Rl.nearF ws : Nat)) ∧ w = w' := by
  have hlen := length_any w b ws h
  have hle := Rl.lenF_le ws 36
  have hc := h.cell 0 (by omega)
  have hlt := Rl.blk_lt h.at'
  have HBIT := Lib.hid (fun (k : Nat) (hk : k < 2304) => bit_any w b ws h k hk)
  have HFROM := Lib.hid (fun (i n : Nat) (hi : i + n ≤ 2304) (hn : n ≤ 63) => from_any w b ws h i n hi hn)
  have HSOME := Lib.hid (fun (n : Nat) (hn : n ≤ 2304) => some_any w b ws h n hn)
  unfold Rl.nearF
  generalize Rl.lenF ws 36 = n at hlen hle ⊢
  have HLEN := Lib.hid hlen
  clear hlen h
  by_cases h53 : n ≤ 53
  · rw [if_pos h53]
    go_enter Tryz.func53, Tryz.ntmps53
    go_wp2_with (go_at_call 67; (with_reducible refine HLEN.out.mono ?_); rintro e w2 ⟨rfl, rfl⟩)
    go_ret
    exact ⟨rfl, rfl⟩
  · rw [if_neg h53]
    obtain ⟨p, hp⟩ : ∃ p, p = n - 53 := ⟨_, rfl⟩
    obtain ⟨m, hmn⟩ : ∃ m, m = n - 54 := ⟨_, rfl⟩
    have e1 : (n : Int) - 52 - 1 = (p : Int) := by omega
    have e2 : (p : Int) - 1 = (m : Int) := by omega
    have hpb : p ≤ 2251 := by omega
    have hmb : m ≤ 2250 := by omega
    have h53' : 53 < n := by omega
    have hfr := HFROM.out p 53 (by omega) (by decide)
    have hbt := HBIT.out m (by omega)
    have hsm := HSOME.out m (by omega)
    have hdl := Rl.fromF_lt ws n 53
    have hbl := Rl.bitF_lt ws m
    rw [show p + 53 = n from by omega] at hfr
    have hru : Rl.roundUp ws n = (decide (Rl.bitF ws m = 1) && (decide (Rl.fromF ws n 53 % 2 = 1) || Rl.someF ws m)) := by unfold Rl.roundUp; rw [← hmn]
    rw [hru, ← hp]
    change Calls Tryz.prog 68 #[Value.pointer (some ⟨b, 0, none⟩), Value.int IntKind.i64 (p : Int), Value.int IntKind.i64 53] w _ at hfr
    clear hp hmn h53
    generalize Rl.fromF ws n 53 = d at hfr hdl ⊢
    generalize Rl.bitF ws m = bm at hbt hbl ⊢
    generalize Rl.someF ws m = sm at hsm ⊢
    have hdl : d < 9007199254740992 := hdl
    have had := Rl.and_one d (by omega)
    have HFR := Lib.hid hfr
    clear hfr hru
    by_cases b1 : bm = 1
    · subst b1
      have HBT := Lib.hid hbt
      clear hbt hbl
      by_cases d1 : d % 2 = 1
      · rw [d1] at had
        have HAD : bits .and .u64 (d : Int) 1 = 1 := had
        rw [if_pos (by simp [d1])]
        clear had hsm d1
        unfold Rl.normF Rl.packF
        by_cases e53 : d + 1 = 9007199254740992
        · obtain rfl : d = 9007199254740991 := by omega
          rw [if_pos rfl]
          clear hdl e53
          by_cases hin : 2047 ≤ p + 1 + 1
          · rw [if_pos hin]
            go_enter Tryz.func53, Tryz.ntmps53
            go_wp2_with (first | (go_at_call 67; (with_reducible refine HLEN.out.mono ?_); rintro e w2 ⟨rfl, rfl⟩) | (go_at_call 68; (with_reducible refine HFR.out.mono ?_); rintro e w2 ⟨rfl, rfl⟩) | (go_at_call 69; (with_reducible refine HBT.out.mono ?_); rintro e w2 ⟨rfl, rfl⟩))
            go_ret
            exact ⟨rfl, rfl⟩
          · rw [if_neg hin]
            have ho := Rl.pack_eq (p + 1) 4503599627370496 (by omega) (by decide)
            have HO := Lib.hid ho
            clear ho
            go_enter Tryz.func53, Tryz.ntmps53
            go_wp2_with (first | (go_at_call 67; (with_reducible refine HLEN.out.mono ?_); rintro e w2 ⟨rfl, rfl⟩) | (go_at_call 68; (with_reducible refine HFR.out.mono ?_); rintro e w2 ⟨rfl, rfl⟩) | (go_at_call 69; (with_reducible refine HBT.out.mono ?_); rintro e w2 ⟨rfl, rfl⟩))
            go_ret
            refine ⟨?_, rfl⟩
            exact congrArg (fun z => Ending.returned (Value.int IntKind.u64 z)) HO.out
        · rw [if_neg e53]
          have e54 : (((d : Int) + 1) == 9007199254740992) = false := beq_eq_false_iff_ne.2 (by omega)
          by_cases hin : 2047 ≤ p + 1
          · rw [if_pos hin]
            clear e53
            go_enter Tryz.func53, Tryz.ntmps53
            go_wp2_with (first | (go_at_call 67; (with_reducible refine HLEN.out.mono ?_); rintro e w2 ⟨rfl, rfl⟩) | (go_at_call 68; (with_reducible refine HFR.out.mono ?_); rintro e w2 ⟨rfl, rfl⟩) | (go_at_call 69; (with_reducible refine HBT.out.mono ?_); rintro e w2 ⟨rfl, rfl⟩))
            go_ret
            exact ⟨rfl, rfl⟩
          · rw [if_neg hin]
            have ho := Rl.pack_eq p (d + 1) (by omega) (by omega)
            have HO := Lib.hid ho
            clear ho e53
            go_enter Tryz.func53, Tryz.ntmps53
            go_wp2_with (first | (go_at_call 67; (with_reducible refine HLEN.out.mono ?_); rintro e w2 ⟨rfl, rfl⟩) | (go_at_call 68; (with_reducible refine HFR.out.mono ?_); rintro e w2 ⟨rfl, rfl⟩) | (go_at_call 69; (with_reducible refine HBT.out.mono ?_); rintro e w2 ⟨rfl, rfl⟩))
            go_ret
            refine ⟨?_, rfl⟩
            exact congrArg (fun z => Ending.returned (Value.int IntKind.u64 z)) HO.out
      · rw [show d % 2 = 0 from by omega] at had
        have HAD : bits .and .u64 (d : Int) 1 = 0 := had
        cases sm with
        | true =>
          have HSM := Lib.hid hsm
          rw [if_pos (by simp)]
          clear had hsm
          unfold Rl.normF Rl.packF
          have e53 : ¬ d + 1 = 9007199254740992 := by omega
          clear d1
          · rw [if_neg e53]
            have e54 : (((d : Int) + 1) == 9007199254740992) = false := beq_eq_false_iff_ne.2 (by omega)
            by_cases hin : 2047 ≤ p + 1
            · rw [if_pos hin]
              clear e53
              go_enter Tryz.func53, Tryz.ntmps53
              go_wp2_with (first | (go_at_call 67; (with_reducible refine HLEN.out.mono ?_); rintro e w2 ⟨rfl, rfl⟩) | (go_at_call 68; (with_reducible refine HFR.out.mono ?_); rintro e w2 ⟨rfl, rfl⟩) | (go_at_call 69; (with_reducible refine HBT.out.mono ?_); rintro e w2 ⟨rfl, rfl⟩) | (go_at_call 70; (with_reducible refine HSM.out.mono ?_); rintro e w2 ⟨rfl, rfl⟩))
              go_ret
              exact ⟨rfl, rfl⟩
            · rw [if_neg hin]
              have ho := Rl.pack_eq p (d + 1) (by omega) (by omega)
              have HO := Lib.hid ho
              clear ho e53
              go_enter Tryz.func53, Tryz.ntmps53
              go_wp2_with (first | (go_at_call 67; (with_reducible refine HLEN.out.mono ?_); rintro e w2 ⟨rfl, rfl⟩) | (go_at_call 68; (with_reducible refine HFR.out.mono ?_); rintro e w2 ⟨rfl, rfl⟩) | (go_at_call 69; (with_reducible refine HBT.out.mono ?_); rintro e w2 ⟨rfl, rfl⟩) | (go_at_call 70; (with_reducible refine HSM.out.mono ?_); rintro e w2 ⟨rfl, rfl⟩))
              go_ret
              refine ⟨?_, rfl⟩
              exact congrArg (fun z => Ending.returned (Value.int IntKind.u64 z)) HO.out
        | false =>
          have HSM := Lib.hid hsm
          rw [if_neg (by simp [d1])]
          clear had hsm d1
          unfold Rl.normF Rl.packF
          have e53 : ¬ d = 9007199254740992 := by omega
          · rw [if_neg e53]
            have e54 : ((d : Int) == 9007199254740992) = false := beq_eq_false_iff_ne.2 (by omega)
            by_cases hin : 2047 ≤ p + 1
            · rw [if_pos hin]
              clear e53
              go_enter Tryz.func53, Tryz.ntmps53
              go_wp2_with (first | (go_at_call 67; (with_reducible refine HLEN.out.mono ?_); rintro e w2 ⟨rfl, rfl⟩) | (go_at_call 68; (with_reducible refine HFR.out.mono ?_); rintro e w2 ⟨rfl, rfl⟩) | (go_at_call 69; (with_reducible refine HBT.out.mono ?_); rintro e w2 ⟨rfl, rfl⟩) | (go_at_call 70; (with_reducible refine HSM.out.mono ?_); rintro e w2 ⟨rfl, rfl⟩))
              go_ret
              exact ⟨rfl, rfl⟩
            · rw [if_neg hin]
              have ho := Rl.pack_eq p d (by omega) (by omega)
              have HO := Lib.hid ho
              clear ho e53
              go_enter Tryz.func53, Tryz.ntmps53
              go_wp2_with (first | (go_at_call 67; (with_reducible refine HLEN.out.mono ?_); rintro e w2 ⟨rfl, rfl⟩) | (go_at_call 68; (with_reducible refine HFR.out.mono ?_); rintro e w2 ⟨rfl, rfl⟩) | (go_at_call 69; (with_reducible refine HBT.out.mono ?_); rintro e w2 ⟨rfl, rfl⟩) | (go_at_call 70; (with_reducible refine HSM.out.mono ?_); rintro e w2 ⟨rfl, rfl⟩))
              go_ret
              refine ⟨?_, rfl⟩
              exact congrArg (fun z => Ending.returned (Value.int IntKind.u64 z)) HO.out
    · obtain rfl : bm = 0 := by omega
      have HBT := Lib.hid hbt
      rw [if_neg (by simp)]
      clear hbt hbl had hsm b1
      unfold Rl.normF Rl.packF
      have e53 : ¬ d = 9007199254740992 := by omega
      · rw [if_neg e53]
        have e54 : ((d : Int) == 9007199254740992) = false := beq_eq_false_iff_ne.2 (by omega)
        by_cases hin : 2047 ≤ p + 1
        · rw [if_pos hin]
          clear e53
          go_enter Tryz.func53, Tryz.ntmps53
          go_wp2_with (first | (go_at_call 67; (with_reducible refine HLEN.out.mono ?_); rintro e w2 ⟨rfl, rfl⟩) | (go_at_call 68; (with_reducible refine HFR.out.mono ?_); rintro e w2 ⟨rfl, rfl⟩) | (go_at_call 69; (with_reducible refine HBT.out.mono ?_); rintro e w2 ⟨rfl, rfl⟩))
          go_ret
          exact ⟨rfl, rfl⟩
        · rw [if_neg hin]
          have ho := Rl.pack_eq p d (by omega) (by omega)
          have HO := Lib.hid ho
          clear ho e53
          go_enter Tryz.func53, Tryz.ntmps53
          go_wp2_with (first | (go_at_call 67; (with_reducible refine HLEN.out.mono ?_); rintro e w2 ⟨rfl, rfl⟩) | (go_at_call 68; (with_reducible refine HFR.out.mono ?_); rintro e w2 ⟨rfl, rfl⟩) | (go_at_call 69; (with_reducible refine HBT.out.mono ?_); rintro e w2 ⟨rfl, rfl⟩))
          go_ret
          refine ⟨?_, rfl⟩
          exact congrArg (fun z => Ending.returned (Value.int IntKind.u64 z)) HO.out
end Go.Proofs.YtljmnafmnmmehaaGreatDoor
