/- The model's state in memory; the contracts of may, sane, raise, record, front. -/
import Derived.Test.YtgdeoodihhcdjaaQc
import Derived.Test.YtgdeoodihhcdjaaLa
import Derived.WalkLawsBesides
import Derived.WalkSpells
import Derived.StillTailTactics
namespace Go.Proofs.Ytgdeoodihhcdjaa
open Go.RowKit
set_option linter.unusedVariables false
set_option linter.unusedSimpArgs false

def Ln.died : Ending := .panicked [{ v := .iface 127 (.agg #[]), recovered := false }]

theorem may_true (w : World) : Calls Try.prog 58 #[.bool true] w fun e w' => e = .returned (.tuple #[]) ∧ w = w' := by
  go_enter Try.func58, Try.ntmps58
  go_wp2
  go_end0
  exact ⟨rfl, rfl⟩

theorem may_false (w : World) : Calls Try.prog 58 #[.bool false] w fun e w' => e = .panicked [{ v := .iface 127 (.agg #[]), recovered := false }] ∧ w = w' := by
  go_enter Try.func58, Try.ntmps58
  go_wp2
  exact ⟨rfl, rfl, rfl⟩

/-- Bytes as cells. -/
def Ln.u8s (d : List UInt8) : List Value := d.map fun x => .int .u8 (x.toNat : Int)
/-- Records in memory, from block B on. -/
def Ln.Recs (B : Nat) (w : World) (v : Value) (rs : List (List UInt8)) : Prop :=
  ∃ xs : List Value, w.ownsRow B 60 1 v rs.length xs ∧ ∀ i, i < rs.length → w.ownsRow B 5 1 (xs.getD i undef) (rs.getD i []).length (Ln.u8s (rs.getD i []))
/-- The cells of a model. -/
def Ln.cells (m : Ln.Mod) (v : Value) : Array Value := #[.int .i64 m.base, .int .i64 m.first, .int .i64 m.durable, .int .i64 m.next, .int .i64 m.limit, v, .bool m.failed, .bool m.closed]
/-- A state that is being changed, at block sb; all of it from block B on. -/
def Ln.StAt (B : Nat) (w : World) (sb : Nat) (m : Ln.Mod) : Prop :=
  B ≤ sb ∧ ∃ v, w.heap[sb]? = some (.cells (Ln.cells m v) 118 (0, 0)) ∧ Ln.Recs B w v m.recs
/-- A model by value. -/
def Ln.ModAt (w : World) (v : Value) (m : Ln.Mod) : Prop := ∃ rv, v = .agg (Ln.cells m rv) ∧ Ln.Recs 0 w rv m.recs
/-- w' is w but for the state at sb, its records' rows and new blocks; and all below B is as it was. -/
structure Ln.Fra (B sb : Nat) (w w' : World) : Prop where
  low : Below B w w'
  kp : ∀ (i : Nat) (cs : Array Value) (t : TypeId) (f : Nat × Nat), w.heap[i]? = some (.cells cs t f) → t ≠ 60 → i ≠ sb → w'.heap[i]? = some (.cells cs t f)
theorem Ln.Fra.refl (B sb : Nat) (w : World) : Ln.Fra B sb w w := ⟨Below.refl _ _, fun _ _ _ _ h _ _ => h⟩
theorem Ln.Fra.trans {B sb : Nat} {w w1 w2 : World} (h : Ln.Fra B sb w w1) (k : Ln.Fra B sb w1 w2) : Ln.Fra B sb w w2 :=
  ⟨h.low.trans k.low, fun i cs t f hi ht hs => k.kp i cs t f (h.kp i cs t f hi ht hs) ht hs⟩
theorem Ln.Fra.set {B sb : Nat} {w w1 : World} (h : Ln.Fra B sb w w1) (h0 : B ≤ sb) (j : Nat) (u : Value) : Ln.Fra B sb w (w1.setCell ⟨sb, j, none⟩ u) :=
  ⟨h.low.setCell h0 u, fun i cs t f hi ht hs => (Below.heap_setCell _ _ _ _ hs).trans (h.kp i cs t f hi ht hs)⟩
theorem Ln.Fra.alloc {B sb : Nat} {w w1 : World} (h : Ln.Fra B sb w w1) (h0 : B ≤ w1.heap.size) (o : Obj) : Ln.Fra B sb w (w1.alloc o) :=
  ⟨h.low.alloc h0 o, fun i cs t f hi ht hs => Qu.blk_alloc (h.kp i cs t f hi ht hs) o⟩
theorem Ln.Fra.new {B sb : Nat} {w : World} (h0 : B ≤ w.heap.size) (o : Obj) : Ln.Fra B sb w (w.alloc o) := (Ln.Fra.refl B sb w).alloc h0 o
theorem Ln.Fra.drew {B sb : Nat} {w w1 : World} (h : Ln.Fra B sb w w1) : Ln.Fra B sb w w1.drew := ⟨h.low.drew, h.kp⟩

/-- What a method of the state has done. -/
def Ln.Did (B sb : Nat) (w : World) (o : Option Ln.Mod) (e : Ending) (w' : World) : Prop :=
  Ln.Fra B sb w w' ∧ match o with
    | none => e = Ln.died
    | some m => e = .returned (.tuple #[]) ∧ Ln.StAt B w' sb m

theorem Ln.own_keep {w w' : World} {base : Nat} {e : TypeId} {size n : Nat} {v : Value} {xs : List Value} (h : w.ownsRow base e size v n xs) (hb : ∀ (i : Nat) (cs : Array Value) (f : Nat × Nat), w.heap[i]? = some (.cells cs e f) → w'.heap[i]? = w.heap[i]?) : w'.ownsRow base e size v n xs := by
  obtain ⟨hl, h⟩ := h
  refine ⟨hl, ?_⟩
  rcases h with h | ⟨b, cap, row, h1, h2, h3, h4⟩
  · exact .inl h
  · exact .inr ⟨b, cap, row, h1, h2, (hb b row _ h3).trans h3, h4⟩
theorem Ln.own_base {w : World} {base base' : Nat} {e : TypeId} {size n : Nat} {v : Value} {xs : List Value} (h : w.ownsRow base e size v n xs) (hb : base' ≤ base) : w.ownsRow base' e size v n xs := by
  obtain ⟨hl, h⟩ := h
  refine ⟨hl, ?_⟩
  rcases h with h | ⟨b, cap, row, h1, h2, h3⟩
  · exact .inl h
  · exact .inr ⟨b, cap, row, h1, Nat.le_trans hb h2, h3⟩
theorem Ln.Recs.keep {B : Nat} {w w' : World} {v : Value} {rs : List (List UInt8)} (h : Ln.Recs B w v rs) (hb : ∀ (i : Nat) (cs : Array Value) (t : TypeId) (f : Nat × Nat), w.heap[i]? = some (.cells cs t f) → t ≠ 118 → w'.heap[i]? = w.heap[i]?) : Ln.Recs B w' v rs := by
  obtain ⟨xs, h1, h2⟩ := h
  exact ⟨xs, Ln.own_keep h1 (fun i cs f h => hb i cs _ f h (by decide)), fun i hi => Ln.own_keep (h2 i hi) (fun i cs f h => hb i cs _ f h (by decide))⟩
theorem Ln.Recs.base {B B' : Nat} {w : World} {v : Value} {rs : List (List UInt8)} (h : Ln.Recs B w v rs) (hb : B' ≤ B) : Ln.Recs B' w v rs := by
  obtain ⟨xs, h1, h2⟩ := h
  exact ⟨xs, Ln.own_base h1 hb, fun i hi => Ln.own_base (h2 i hi) hb⟩
theorem Ln.Recs.below {B : Nat} {w w' : World} {v : Value} {rs : List (List UInt8)} (h : Ln.Recs B w v rs) (hb : Below w.heap.size w w') : Ln.Recs B w' v rs :=
  h.keep fun i cs t f hi _ => hb.block i (Qu.blk_lt hi)
theorem Ln.Recs.slice {B : Nat} {w : World} {v : Value} {rs : List (List UInt8)} (h : Ln.Recs B w v rs) : ∃ A cp, v = .slice A rs.length cp := by
  obtain ⟨xs, ⟨_, h⟩, _⟩ := h
  rcases h with ⟨rfl, h⟩ | ⟨b, cap, row, rfl, _⟩
  · have h0 : rs.length = 0 := by rename_i hl; rw [h] at hl; simp at hl; omega
    exact ⟨none, 0, by rw [h0]⟩
  · exact ⟨_, _, rfl⟩
theorem Ln.ModAt.below {w w' : World} {v : Value} {m : Ln.Mod} (h : Ln.ModAt w v m) (hb : Below w.heap.size w w') : Ln.ModAt w' v m := by
  obtain ⟨rv, rfl, h⟩ := h
  exact ⟨rv, rfl, h.below hb⟩
theorem Ln.StAt.below {B : Nat} {w w' : World} {sb : Nat} {m : Ln.Mod} (h : Ln.StAt B w sb m) (hb : Below w.heap.size w w') : Ln.StAt B w' sb m := by
  obtain ⟨h0, v, h1, h2⟩ := h
  exact ⟨h0, v, Qu.blk_below h1 hb, h2.below hb⟩
/-- A state's cell is written. -/
theorem Ln.StAt.set {B : Nat} {w : World} {sb : Nat} {m m' : Ln.Mod} {v : Value} (h0 : B ≤ sb) (h1 : w.heap[sb]? = some (.cells (Ln.cells m v) 118 (0, 0))) (h2 : Ln.Recs B w v m.recs) (i : Nat) (u : Value)
    (hm : (Ln.cells m v).setIfInBounds i u = Ln.cells m' v) (hr : m'.recs = m.recs) : Ln.StAt B (w.setCell ⟨sb, i, none⟩ u) sb m' := by
  refine ⟨h0, v, by rw [Qu.blk_set h1, hm], ?_⟩
  rw [hr]
  refine h2.keep fun j cs t f hj ht => Below.heap_setCell _ _ _ _ (fun e => ?_)
  subst e
  have hj : w.heap[_]? = _ := hj
  rw [h1] at hj
  injection hj with hj
  injection hj with _ hj
  exact ht hj.symm
theorem Ln.below_set {B : Nat} {w w1 : World} (h : Below B w w1) {sb : Nat} (hs : B ≤ sb) (i : Nat) (u : Value) : Below B w (w1.setCell ⟨sb, i, none⟩ u) := h.setCell hs u

theorem Ln.cells8 {w : World} {sb : Nat} {m : Ln.Mod} {v : Value} (h : w.heap[sb]? = some (.cells (Ln.cells m v) 118 (0, 0))) :
    w.cell? ⟨sb, 0, none⟩ = some (.int .i64 m.base) ∧ w.cell? ⟨sb, 1, none⟩ = some (.int .i64 m.first) ∧ w.cell? ⟨sb, 2, none⟩ = some (.int .i64 m.durable) ∧ w.cell? ⟨sb, 3, none⟩ = some (.int .i64 m.next) ∧
    w.cell? ⟨sb, 4, none⟩ = some (.int .i64 m.limit) ∧ w.cell? ⟨sb, 5, none⟩ = some v ∧ w.cell? ⟨sb, 6, none⟩ = some (.bool m.failed) ∧ w.cell? ⟨sb, 7, none⟩ = some (.bool m.closed) :=
  ⟨Qu.blk_cell h 0, Qu.blk_cell h 1, Qu.blk_cell h 2, Qu.blk_cell h 3, Qu.blk_cell h 4, Qu.blk_cell h 5, Qu.blk_cell h 6, Qu.blk_cell h 7⟩

theorem sane_yes (sb : Nat) (w : World) (h6 : w.cell? ⟨sb, 6, none⟩ = some (.bool false)) (h7 : w.cell? ⟨sb, 7, none⟩ = some (.bool false)) :
    Calls Try.prog 76 #[.pointer (some ⟨sb, 0, none⟩)] w fun e w' => e = .returned (.tuple #[]) ∧ w = w' := by
  go_enter Try.func76, Try.ntmps76
  go_wp2_with (go_at_call 58; refine (may_true _).mono ?_; rintro e w' ⟨rfl, rfl⟩)
  go_end0
  exact ⟨rfl, rfl⟩

theorem sane_no (sb : Nat) (f c : Bool) (w : World) (h6 : w.cell? ⟨sb, 6, none⟩ = some (.bool f)) (h7 : w.cell? ⟨sb, 7, none⟩ = some (.bool c)) (h : (!f && !c) = false) :
    Calls Try.prog 76 #[.pointer (some ⟨sb, 0, none⟩)] w fun e w' => e = .panicked [{ v := .iface 127 (.agg #[]), recovered := false }] ∧ w = w' := by
  cases f
  · cases c
    · cases h
    · go_enter Try.func76, Try.ntmps76
      go_wp2_with (go_at_call 58; refine (may_false _).mono ?_; rintro e w' ⟨rfl, rfl⟩)
      exact ⟨rfl, rfl, rfl⟩
  · go_enter Try.func76, Try.ntmps76
    go_wp2_with (go_at_call 58; refine (may_false _).mono ?_; rintro e w' ⟨rfl, rfl⟩)
    exact ⟨rfl, rfl, rfl⟩

theorem raise_any (B sb : Nat) (n : Int) (m : Ln.Mod) (w : World) (h : Ln.StAt B w sb m) :
    Calls Try.prog 75 #[.pointer (some ⟨sb, 0, none⟩), .int .i64 n] w (Ln.Did B sb w (Ln.raiseF m n)) := by
  obtain ⟨h0, v, h1, h2⟩ := h
  have H1 := Lib.hid h1
  have H2 := Lib.hid h2
  obtain ⟨c0, c1, c2, c3, c4, c5, c6, c7⟩ := Ln.cells8 h1
  have f2 := Qu.blk_frozen h1 2
  have hlt := Qu.blk_lt h1
  clear h1 h2 c0 c1 c3 c5 c6 c7
  unfold Ln.raiseF
  by_cases hn : n ≤ m.limit
  · rw [if_pos hn]
    have hd : decide (n ≤ m.limit) = true := by simpa using hn
    clear hn
    go_enter Try.func75, Try.ntmps75
    go_wp2_with (go_at_call 58; refine (may_true _).mono ?_; rintro e w' ⟨rfl, rfl⟩)
    all_goals go_end0
    · exact ⟨(Ln.Fra.refl _ _ _).set h0 _ _, rfl, Ln.StAt.set h0 H1.out H2.out 2 _ (by simp only [Ln.cells]; rw [Int.max_eq_right (by omega)]; rfl) rfl⟩
    · exact ⟨(Ln.Fra.refl _ _ _).set h0 _ _, rfl, Ln.StAt.set h0 H1.out H2.out 2 _ (by simp only [Ln.cells]; rw [Int.max_eq_left (by omega)]; rfl) rfl⟩
  · rw [if_neg hn]
    have hd : decide (n ≤ m.limit) = false := by simpa using hn
    clear hn
    go_enter Try.func75, Try.ntmps75
    go_wp2_with (go_at_call 58; refine (may_false _).mono ?_; rintro e w' ⟨rfl, rfl⟩)
    exact ⟨rfl, Ln.Fra.refl _ _ _, rfl⟩

theorem Ln.Did.none {B sb : Nat} {w w' : World} {e : Ending} (h : Ln.Did B sb w none e w') : e = .panicked [{ v := .iface 127 (.agg #[]), recovered := false }] ∧ Ln.Fra B sb w w' := ⟨h.2, h.1⟩
theorem Ln.Did.some {B sb : Nat} {w w' : World} {e : Ending} {m : Ln.Mod} (h : Ln.Did B sb w (some m) e w') : e = .returned (.tuple #[]) ∧ Ln.Fra B sb w w' ∧ Ln.StAt B w' sb m := ⟨h.2.1, h.1, h.2.2⟩

theorem front_any (B sb : Nat) (n : Int) (m : Ln.Mod) (w : World) (h : Ln.StAt B w sb m) :
    Calls Try.prog 77 #[.pointer (some ⟨sb, 0, none⟩), .int .i64 n] w (Ln.Did B sb w (Ln.frontF m n)) := by
  have HS := Lib.hid h
  obtain ⟨h0, v, h1, h2⟩ := h
  obtain ⟨c0, c1, c2, c3, c4, c5, c6, c7⟩ := Ln.cells8 h1
  have hlt := Qu.blk_lt h1
  clear h1 h2 c0 c1 c2 c4 c5 c6 c7
  unfold Ln.frontF
  by_cases hn : n ≤ m.next
  · rw [if_pos hn]
    have hd : decide (n ≤ m.next) = true := by simpa using hn
    clear hn
    have HR := Lib.hid (raise_any B sb n m w HS.out)
    cases hr : Ln.raiseF m n with
    | none =>
      rw [hr] at HR
      clear hr
      go_enter Try.func77, Try.ntmps77
      go_wp2_with (first | (go_at_call 58; refine (may_true _).mono ?_; rintro e w' ⟨rfl, rfl⟩) | (go_at_call 75; refine HR.out.mono ?_; intro e w' hdid; obtain ⟨rfl, hb⟩ := hdid.none; clear hdid))
      exact ⟨rfl, hb, rfl⟩
    | some t =>
      rw [hr] at HR
      clear hr
      go_enter Try.func77, Try.ntmps77
      go_wp2_with (go_at_call 58; refine (may_true _).mono ?_; rintro e w' ⟨rfl, rfl⟩)
      refine HR.out.mono ?_
      intro e w1 hdid
      obtain ⟨rfl, hb, hs⟩ := hdid.some
      clear hdid
      obtain ⟨_, v1, h1, h2⟩ := hs
      have H1 := Lib.hid h1
      have H2 := Lib.hid h2
      have c1 := (Ln.cells8 h1).2.1
      have f1 := Qu.blk_frozen h1 1
      have hlt1 := Qu.blk_lt h1
      clear h1 h2
      go_wp2
      go_end0
      exact ⟨hb.set h0 _ _, rfl, Ln.StAt.set h0 H1.out H2.out 1 _ rfl rfl⟩
  · rw [if_neg hn]
    have hd : decide (n ≤ m.next) = false := by simpa using hn
    clear hn
    go_enter Try.func77, Try.ntmps77
    go_wp2_with (go_at_call 58; refine (may_false _).mono ?_; rintro e w' ⟨rfl, rfl⟩)
    exact ⟨rfl, Ln.Fra.refl _ _ _, rfl⟩

end Go.Proofs.Ytgdeoodihhcdjaa
