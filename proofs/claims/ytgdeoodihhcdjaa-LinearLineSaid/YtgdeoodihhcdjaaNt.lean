/- The law's begun: linear is begun. -/
import Derived.Test.YtgdeoodihhcdjaaNs
import Derived.Lib.SlBytesConst
namespace Go.Proofs.Ytgdeoodihhcdjaa
open Go.RowKit
set_option linter.unusedVariables false
set_option linter.unusedSimpArgs false


/-- The two pasts that begun lays. -/
def Ln.two24 : List Ln.Past := [⟨⟨1, 0, [97]⟩, ⟨0, 2, []⟩, 1, 9⟩, ⟨⟨1, 0, [98]⟩, ⟨0, 1, []⟩, 2, 5⟩]
theorem Ln.b24 : Ln.begunF 1 Ln.two24 = 0 := by decide +kernel
theorem Ln.s24 : (Ln.searchF 1 Ln.two24).1 = true := by decide +kernel
theorem Ln.o24 : (Ln.searchF 1 Ln.two24).2.order = [1, 0] := by decide +kernel
theorem Ln.m24 : Ln.mostF 1 Ln.two24 = 2 := by decide +kernel
theorem Ln.l24 : Ln.legalF 1 Ln.two24 [1, 0] = true := by decide +kernel
theorem Ln.n24 : Ln.legalF 1 Ln.two24 [0, 1] = false := by decide +kernel
/-- An own row as an order. -/
theorem Ln.Ord.own {w : World} {base : Nat} {V : Value} {xs : List Nat} (h : w.ownsRow base 3 1 V xs.length (Ln.nats xs)) : Ln.Ord w V (xs.map Int.ofNat) := by
  obtain ⟨hl, h⟩ := h
  rcases h with ⟨rfl, h0⟩ | ⟨g, cap, cur, rfl, h2, h3, h4, h5, h6, h7⟩
  · have : xs = [] := List.eq_nil_of_length_eq_zero h0
    subst this
    exact .inl ⟨none, 0, rfl, rfl⟩
  · refine .inr ⟨g, 0, cap, by rw [List.length_map], by simpa using h4, by unfold maxLen at h5; omega, Qu.blk_lt h3, fun j hj => ?_⟩
    have hj2 : j < xs.length := by simpa using hj
    rw [Nat.zero_add, Qu.blk_cell h3]
    have e := congrArg (fun l => l[j]?) h7
    simp only [Nat.mul_one] at e
    rw [List.getElem?_take, if_pos hj2, Array.getElem?_toList] at e
    rw [e]
    simp [Ln.nats, List.getElem?_map, List.getElem?_eq_getElem hj2, List.getD_eq_getElem?_getD]
theorem Ln.Ord.keep {w w' : World} {V : Value} {order : List Int} (h : Ln.Ord w V order) (hb : Below w.heap.size w w') : Ln.Ord w' V order := by
  rcases h with h | ⟨b, o, cp, h1, h2, h3, h4, h5⟩
  · exact .inl h
  · exact .inr ⟨b, o, cp, h1, h2, h3, Nat.lt_of_lt_of_le h4 hb.size, fun j hj => (hb.cell (p := ⟨b, o + j, none⟩) h4).trans (h5 j hj)⟩
theorem Ln.ord_new (w : World) : Ln.Ord (w.alloc (Obj.cells #[Value.int IntKind.i64 0, Value.int IntKind.i64 1] 3)) (.slice (some ⟨w.heap.size, 0, none⟩) 2 2) [0, 1] := by
  have h := heap_alloc_new w (Obj.cells #[Value.int IntKind.i64 0, Value.int IntKind.i64 1] 3)
  refine .inr ⟨w.heap.size, 0, 2, rfl, by decide, by decide, Qu.blk_lt h, fun j hj => ?_⟩
  rw [Nat.zero_add, Qu.blk_cell h]
  have : j = 0 ∨ j = 1 := by simp at hj; omega
  rcases this with rfl | rfl <;> rfl
theorem Qu.add_plain' (b o i : Nat) : (⟨b, o, none⟩ : Addr).add i = ⟨b, o + i, none⟩ := by
  unfold Addr.add
  split
  · rename_i h; subst h; rfl
  · rfl
theorem Ln.cell_f {w : World} {b : Nat} {arr : Array Value} {t : TypeId} {f : Nat × Nat} (h : w.heap[b]? = some (.cells arr t f)) (i : Nat) : w.cell? ⟨b, i, none⟩ = arr[i]? := by
  simp [World.cell?, h]
theorem Ln.rd_one {w : World} {b : Nat} {v : Value} {t : TypeId} {f : Nat × Nat} (h : w.heap[b]? = some (.cells #[v] t f)) : Ln.Rd w (.slice (some ⟨b, 0, none⟩) 1 1) [v] := by
  refine .inr ⟨⟨b, 0, none⟩, 1, rfl, fun j u hj => ?_⟩
  have hj0 : j = 0 := by
    have := (List.getElem?_eq_some_iff.1 hj).1
    simp at this
    omega
  subst hj0
  refine ⟨(Array.getElem?_eq_some_iff.1 h).1, ?_⟩
  rw [Qu.add_plain', Ln.cell_f h]
  simpa using hj
theorem Ln.pasts24 (w : World) : Below w.heap.size w (((w.alloc (Obj.cells #[Value.int IntKind.u8 97] 5 (1, 2))).alloc (Obj.cells #[Value.int IntKind.u8 98] 5 (1, 2))).alloc (Obj.cells #[Value.int IntKind.i64 1, Value.int IntKind.i64 0, Value.slice (some { block := w.heap.size, off := 0 }) 1 1, Value.int IntKind.i64 0, Value.int IntKind.i64 2, Value.slice none 0 0, Value.int IntKind.i64 1, Value.int IntKind.i64 9, Value.int IntKind.i64 1, Value.int IntKind.i64 0, Value.slice (some { block := w.heap.size + 1, off := 0 }) 1 1, Value.int IntKind.i64 0, Value.int IntKind.i64 1, Value.slice none 0 0, Value.int IntKind.i64 2, Value.int IntKind.i64 5] 66)) ∧
    Ln.Pasts (((w.alloc (Obj.cells #[Value.int IntKind.u8 97] 5 (1, 2))).alloc (Obj.cells #[Value.int IntKind.u8 98] 5 (1, 2))).alloc (Obj.cells #[Value.int IntKind.i64 1, Value.int IntKind.i64 0, Value.slice (some { block := w.heap.size, off := 0 }) 1 1, Value.int IntKind.i64 0, Value.int IntKind.i64 2, Value.slice none 0 0, Value.int IntKind.i64 1, Value.int IntKind.i64 9, Value.int IntKind.i64 1, Value.int IntKind.i64 0, Value.slice (some { block := w.heap.size + 1, off := 0 }) 1 1, Value.int IntKind.i64 0, Value.int IntKind.i64 1, Value.slice none 0 0, Value.int IntKind.i64 2, Value.int IntKind.i64 5] 66)) (some ⟨w.heap.size + 1 + 1, 0, none⟩) 2 Ln.two24 := by
  have h3 := Ln.made3s w (Obj.cells #[Value.int IntKind.u8 97] 5 (1, 2)) (Obj.cells #[Value.int IntKind.u8 98] 5 (1, 2)) (Obj.cells #[Value.int IntKind.i64 1, Value.int IntKind.i64 0, Value.slice (some { block := w.heap.size, off := 0 }) 1 1, Value.int IntKind.i64 0, Value.int IntKind.i64 2, Value.slice none 0 0, Value.int IntKind.i64 1, Value.int IntKind.i64 9, Value.int IntKind.i64 1, Value.int IntKind.i64 0, Value.slice (some { block := w.heap.size + 1, off := 0 }) 1 1, Value.int IntKind.i64 0, Value.int IntKind.i64 1, Value.slice none 0 0, Value.int IntKind.i64 2, Value.int IntKind.i64 5] 66)
  have hb := Ln.below3 w (Obj.cells #[Value.int IntKind.u8 97] 5 (1, 2)) (Obj.cells #[Value.int IntKind.u8 98] 5 (1, 2)) (Obj.cells #[Value.int IntKind.i64 1, Value.int IntKind.i64 0, Value.slice (some { block := w.heap.size, off := 0 }) 1 1, Value.int IntKind.i64 0, Value.int IntKind.i64 2, Value.slice none 0 0, Value.int IntKind.i64 1, Value.int IntKind.i64 9, Value.int IntKind.i64 1, Value.int IntKind.i64 0, Value.slice (some { block := w.heap.size + 1, off := 0 }) 1 1, Value.int IntKind.i64 0, Value.int IntKind.i64 1, Value.slice none 0 0, Value.int IntKind.i64 2, Value.int IntKind.i64 5] 66)
  generalize ((w.alloc (Obj.cells #[Value.int IntKind.u8 97] 5 (1, 2))).alloc (Obj.cells #[Value.int IntKind.u8 98] 5 (1, 2))).alloc (Obj.cells #[Value.int IntKind.i64 1, Value.int IntKind.i64 0, Value.slice (some { block := w.heap.size, off := 0 }) 1 1, Value.int IntKind.i64 0, Value.int IntKind.i64 2, Value.slice none 0 0, Value.int IntKind.i64 1, Value.int IntKind.i64 9, Value.int IntKind.i64 1, Value.int IntKind.i64 0, Value.slice (some { block := w.heap.size + 1, off := 0 }) 1 1, Value.int IntKind.i64 0, Value.int IntKind.i64 1, Value.slice none 0 0, Value.int IntKind.i64 2, Value.int IntKind.i64 5] 66) = w3 at h3 hb ⊢
  obtain ⟨_, ha, hbk, hc⟩ := h3
  refine ⟨hb, by decide, by decide, fun i hi => ?_⟩
  have hi2 : i = 0 ∨ i = 1 := by simp [Ln.two24] at hi; omega
  rcases hi2 with rfl | rfl
  · exact ⟨_, _, .slice (some ⟨w.heap.size, 0, none⟩) 1 1, .slice none 0 0, rfl, Ln.cell_f hc 0, Ln.cell_f hc 1, Ln.cell_f hc 2, Ln.cell_f hc 3, Ln.cell_f hc 4, Ln.cell_f hc 5, Ln.cell_f hc 6, Ln.cell_f hc 7, Ln.rd_one ha, .inl ⟨rfl, rfl⟩⟩
  · exact ⟨_, _, .slice (some ⟨w.heap.size + 1, 0, none⟩) 1 1, .slice none 0 0, rfl, Ln.cell_f hc 8, Ln.cell_f hc 9, Ln.cell_f hc 10, Ln.cell_f hc 11, Ln.cell_f hc 12, Ln.cell_f hc 13, Ln.cell_f hc 14, Ln.cell_f hc 15, Ln.rd_one hbk, .inl ⟨rfl, rfl⟩⟩
set_option maxHeartbeats 2000000 in
set_option maxRecDepth 100000 in
theorem begun24 (w : World) : Calls Try.prog 25 #[] w fun e w' => e = .returned (.bool true) ∧ Below w.heap.size w w' := by
  have kc := fun (w : World) (C : Array Value) (n c : Nat) => Go.Lib.run_convert_bytes_const (P := Try.prog) w 60 5 C n c Try.underlying60 Try.underlying5
  have kc2 : ∀ (o : Obj) (C : Array Value) (n c : Nat), (Go.convert 60 60 (.slice (some ⟨w.heap.size + 1, 0, none⟩) n c)).run Try.prog ((w.alloc o).alloc (.cells C 5)) = Result.ok (.slice (some ⟨w.heap.size + 1, 0, none⟩) n c) ((w.alloc o).alloc (.cells C 5 (C.size, C.size + 1))) := fun o C n c => by
    have h := kc (w.alloc o) C n c
    rwa [show (w.alloc o).heap.size = w.heap.size + 1 from by simp] at h
  go_enter Try.func25, Try.ntmps25
  go_wp2_with fail
  have hw3 := Ln.pasts24 w
  generalize ((w.alloc (Obj.cells #[Value.int IntKind.u8 97] 5 (1, 2))).alloc (Obj.cells #[Value.int IntKind.u8 98] 5 (1, 2))).alloc (Obj.cells #[Value.int IntKind.i64 1, Value.int IntKind.i64 0, Value.slice (some { block := w.heap.size, off := 0 }) 1 1, Value.int IntKind.i64 0, Value.int IntKind.i64 2, Value.slice none 0 0, Value.int IntKind.i64 1, Value.int IntKind.i64 9, Value.int IntKind.i64 1, Value.int IntKind.i64 0, Value.slice (some { block := w.heap.size + 1, off := 0 }) 1 1, Value.int IntKind.i64 0, Value.int IntKind.i64 1, Value.slice none 0 0, Value.int IntKind.i64 2, Value.int IntKind.i64 5] 66) = w3 at hw3 ⊢
  obtain ⟨hb3, hp3⟩ := hw3
  have hchk : Calls Try.prog 27 #[.int .i64 1, .slice (some ⟨w.heap.size + 1 + 1, 0, none⟩) 2 2] w3 (fun e w' => ∃ b o cp, e = .returned (.tuple #[.slice (some ⟨b, o, none⟩) 2 cp, .bool true, .int .i64 0]) ∧ Below w3.heap.size w3 w' ∧ Ln.Ord w' (.slice (some ⟨b, o, none⟩) 2 cp) [1, 0] ∧ w'.cell? ⟨b, o, none⟩ = some (.int .i64 1) ∧ b < w'.heap.size) := (check_any 1 _ 2 Ln.two24 w3 ⟨by decide, by decide⟩ hp3 (by decide)).mono (R' := fun e w' => ∃ b o cp, e = .returned (.tuple #[.slice (some ⟨b, o, none⟩) 2 cp, .bool true, .int .i64 0]) ∧ Below w3.heap.size w3 w' ∧ Ln.Ord w' (.slice (some ⟨b, o, none⟩) 2 cp) [1, 0] ∧ w'.cell? ⟨b, o, none⟩ = some (.int .i64 1) ∧ b < w'.heap.size) (by
    rintro e w' ⟨h1, h2⟩
    rw [if_pos Ln.b24, if_pos Ln.s24, Ln.o24] at h2
    obtain ⟨OV, he, ho⟩ := h2
    have hord := Ln.Ord.own ho
    rcases hord with ⟨_, _, _, h⟩ | ⟨b, o, cp, rfl, h3, h4, h5, h6⟩
    · cases h
    · exact ⟨b, o, cp, he, h1, .inr ⟨b, o, cp, rfl, h3, h4, h5, h6⟩, h6 0 (by decide), h5⟩)
  have hmost : ∀ (W : World), Below w3.heap.size w3 W → Calls Try.prog 29 #[.int .i64 1, .slice (some ⟨w.heap.size + 1 + 1, 0, none⟩) 2 2] W (fun e w' => e = .returned (.tuple #[.int .i64 2, .int .i64 0]) ∧ Below W.heap.size W w') := fun (W : World) (h : Below w3.heap.size w3 W) => (most_any 1 _ 2 Ln.two24 W ⟨by decide, by decide⟩ (hp3.keep h) (by decide)).mono (R' := fun e w' => e = .returned (.tuple #[.int .i64 2, .int .i64 0]) ∧ Below W.heap.size W w') (by
    rintro e w' ⟨h1, h2⟩
    rw [if_pos Ln.b24, Ln.m24] at h2
    exact ⟨h2, h1⟩)
  have hl1 : ∀ (W : World) (V : Value), Below w3.heap.size w3 W → Ln.Ord W V [1, 0] → Calls Try.prog 28 #[.int .i64 1, .slice (some ⟨w.heap.size + 1 + 1, 0, none⟩) 2 2, V] W (fun e w' => e = .returned (.bool (Ln.legalF 1 Ln.two24 [1, 0])) ∧ Below W.heap.size W w') := fun W V h ho => legal_any 1 _ 2 Ln.two24 V [1, 0] W ⟨by decide, by decide⟩ (hp3.keep h) (by decide) ho
  have hl2 : ∀ (W : World) (V : Value), Below w3.heap.size w3 W → Ln.Ord W V [0, 1] → Calls Try.prog 28 #[.int .i64 1, .slice (some ⟨w.heap.size + 1 + 1, 0, none⟩) 2 2, V] W (fun e w' => e = .returned (.bool (Ln.legalF 1 Ln.two24 [0, 1])) ∧ Below W.heap.size W w') := fun W V h ho => legal_any 1 _ 2 Ln.two24 V [0, 1] W ⟨by decide, by decide⟩ (hp3.keep h) (by decide) ho
  simp only [Ln.l24] at hl1
  simp only [Ln.n24] at hl2
  have HCHK := Lib.hid hchk
  have HMOST := Lib.hid hmost
  have HL1 := Lib.hid hl1
  have HL2 := Lib.hid hl2
  have HB3 := Lib.hid hb3
  clear hchk hmost hl1 hl2 hb3 hp3
  go_wp2_with (first
    | (go_at_call 27; (with_reducible refine HCHK.out.mono ?_); rintro e w4 ⟨b, o, cp, rfl, hb4, hord4, hc4, hblt4⟩; have HB4 := Lib.hid hb4; have HORD4 := Lib.hid hord4; have HC4 := Lib.hid hc4; clear hb4 hord4 hc4)
    | (go_at_call 29; (with_reducible refine (HMOST.out _ HB4.out).mono ?_); rintro e w5 ⟨rfl, hb5⟩; have c5 : w5.cell? ⟨b, o, none⟩ = some (.int .i64 1) := (hb5.cell (p := ⟨b, o, none⟩) hblt4).trans HC4.out; have hblt5 : b < w5.heap.size := Nat.lt_of_lt_of_le hblt4 hb5.size; have HORD5 := Lib.hid (HORD4.out.keep hb5); have HB5 := Lib.hid (HB4.out.trans (hb5.mono HB4.out.size)); clear hb5)
    | (go_at_call 28; (with_reducible refine (HL1.out _ _ HB5.out HORD5.out).mono ?_); rintro e w6 ⟨rfl, hb6⟩; have HB6 := Lib.hid (HB5.out.trans (hb6.mono HB5.out.size)); clear hb6)
    | (go_at_call 28; (with_reducible refine (HL2.out _ _ (HB6.out.alloc HB6.out.size _) (Ln.ord_new w6)).mono ?_); rintro e w7 ⟨rfl, hb7⟩; have HB7 := Lib.hid ((HB6.out.alloc HB6.out.size (Obj.cells #[Value.int IntKind.i64 0, Value.int IntKind.i64 1] 3)).trans (hb7.mono (HB6.out.alloc HB6.out.size (Obj.cells #[Value.int IntKind.i64 0, Value.int IntKind.i64 1] 3)).size)); clear hb7))
  go_ret
  exact ⟨rfl, HB3.out.trans (HB7.out.mono HB3.out.size)⟩

end Go.Proofs.Ytgdeoodihhcdjaa
