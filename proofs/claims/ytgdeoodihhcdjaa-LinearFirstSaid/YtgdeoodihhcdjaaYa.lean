/- A list of pasts that came in (not done). -/
import Derived.Test.YtgdeoodihhcdjaaArg
import Derived.Test.YtgdeoodihhcdjaaNv
namespace Go.Proofs.Ytgdeoodihhcdjaa
open Go.ChangeShapes Go.WideShapes Go.ChangeAt Go.RowKit Go.Deep
set_option linter.unusedVariables false
set_option linter.unusedSimpArgs false


section
variable {H : Type} {enc : TypeId × Value → H} {w : World} {base : Nat} {spare : Nat → Bool} {held : Bool}
/-- Bytes that came in. -/
theorem Qu.open_bytes {n : Nat} {v : Value} {y : DataW H × List MemPlace} (h : DataW.trod enc Try.prog w base spare held n 60 [v] = some y) : ∃ d : List UInt8, Ln.Rd w v (Ln.u8s d) := by
  rcases open_ints Try.underlying60 Try.underlying5 (by kernel_rfl) h with ⟨hcs, _⟩ | ⟨x, l, c, zs, hcs, _, hl, hm, hz, _, hcell, hwf⟩
  · injection hcs with hcs _
    exact ⟨[], .inl ⟨hcs, rfl⟩⟩
  · injection hcs with hcs _
    subst hcs
    have hl2 : l ≤ zs.length := by rw [hz]; split <;> omega
    refine ⟨(zs.take l).map fun z => UInt8.ofNat z.toNat, .inr ⟨x, c, by simp [Ln.u8s, Nat.min_eq_left hl2], fun j u hj => ?_⟩⟩
    have hjl : j < l := by
      have := (List.getElem?_eq_some_iff.1 hj).1
      simp [Ln.u8s, Nat.min_eq_left hl2] at this
      omega
    have hc := hcell j (by omega)
    generalize hzj : zs.getD j 0 = zj at hc
    have hw := hwf zj (by rw [← hzj]; rw [List.getD_eq_getElem?_getD, List.getElem?_eq_getElem (by omega)]; exact List.getElem_mem _)
    refine ⟨by have h := World.block_lt_of_cell? w _ hc; rwa [Ln.add_block] at h, ?_⟩
    rw [hc]
    have hr : 0 ≤ zj ∧ zj ≤ 255 := by
      simp [Lit.wf, IntKind.min, IntKind.max, IntKind.signed, IntKind.bits] at hw
      omega
    simp only [Ln.u8s, List.map_map, List.getElem?_map] at hj
    rw [List.getElem?_take, if_pos hjl, List.getElem?_eq_getElem (by omega : j < zs.length)] at hj
    simp only [Option.map_some, Option.some.injEq, Function.comp] at hj
    rw [← hj]
    rw [List.getD_eq_getElem?_getD, List.getElem?_eq_getElem (by omega : j < zs.length)] at hzj
    simp only [Option.getD_some] at hzj
    rw [hzj]
    congr 2
    have e : (UInt8.ofNat zj.toNat).toNat = zj.toNat % 256 := by simp
    rw [e]
    omega
theorem Qu.c66 : Try.prog.cellsOf 66 = 8 := by kernel_rfl
theorem Qu.c62 : Try.prog.cellsOf 62 = 3 := by kernel_rfl
theorem Qu.c64 : Try.prog.cellsOf 64 = 3 := by kernel_rfl
theorem Qu.c60 : Try.prog.cellsOf 60 = 1 := by kernel_rfl
theorem Qu.c26 : Try.prog.cellsOf 26 = 1 := by kernel_rfl
theorem Qu.c3 : Try.prog.cellsOf 3 = 1 := by kernel_rfl
theorem Qu.c2 : Try.prog.cellsOf 2 = 1 := by kernel_rfl
theorem Qu.open_call {n : Nat} {a b c : Value} {y : DataW H × List MemPlace} (h : DataW.trod enc Try.prog w base spare held n 62 [a, b, c] = some y) : ∃ (k l : Int) (d : List UInt8), a = .int .i64 k ∧ b = .int .i64 l ∧ Ln.Rd w c (Ln.u8s d) := by
  obtain ⟨xs, n', rfl, _, _, hxl, hf⟩ := DataW.trod_struct Try.underlying62 h
  have h0 : DataW.trod enc Try.prog w base spare held n' 3 (([a, b, c].drop 0).take (Try.prog.cellsOf 3)) = xs[0]? := hf 0 _ rfl
  have h1 : DataW.trod enc Try.prog w base spare held n' 2 (([a, b, c].drop 1).take (Try.prog.cellsOf 2)) = xs[1]? := hf 1 _ rfl
  have h2 : DataW.trod enc Try.prog w base spare held n' 60 (([a, b, c].drop 2).take (Try.prog.cellsOf 60)) = xs[2]? := hf 2 _ rfl
  rw [Qu.c3] at h0
  rw [Qu.c2] at h1
  rw [Qu.c60] at h2
  change DataW.trod enc Try.prog w base spare held n' 3 [a] = _ at h0
  change DataW.trod enc Try.prog w base spare held n' 2 [b] = _ at h1
  change DataW.trod enc Try.prog w base spare held n' 60 [c] = _ at h2
  have hxl : xs.length = 3 := hxl
  rw [List.getElem?_eq_getElem (by omega)] at h0 h1 h2
  obtain ⟨k, rfl, _⟩ := Qu.trod_int_cell Try.underlying3 h0
  obtain ⟨l, rfl, _⟩ := Qu.trod_int_cell Try.underlying2 h1
  obtain ⟨d, hd⟩ := Qu.open_bytes h2
  exact ⟨k, l, d, rfl, rfl, hd⟩
theorem Qu.open_res {n : Nat} {a b c : Value} {y : DataW H × List MemPlace} (h : DataW.trod enc Try.prog w base spare held n 64 [a, b, c] = some y) : ∃ (k l : Int) (d : List UInt8), a = .int .i64 k ∧ b = .int .i64 l ∧ Ln.Rd w c (Ln.u8s d) := by
  obtain ⟨xs, n', rfl, _, _, hxl, hf⟩ := DataW.trod_struct Try.underlying64 h
  have h0 : DataW.trod enc Try.prog w base spare held n' 26 (([a, b, c].drop 0).take (Try.prog.cellsOf 26)) = xs[0]? := hf 0 _ rfl
  have h1 : DataW.trod enc Try.prog w base spare held n' 2 (([a, b, c].drop 1).take (Try.prog.cellsOf 2)) = xs[1]? := hf 1 _ rfl
  have h2 : DataW.trod enc Try.prog w base spare held n' 60 (([a, b, c].drop 2).take (Try.prog.cellsOf 60)) = xs[2]? := hf 2 _ rfl
  rw [Qu.c26] at h0
  rw [Qu.c2] at h1
  rw [Qu.c60] at h2
  change DataW.trod enc Try.prog w base spare held n' 26 [a] = _ at h0
  change DataW.trod enc Try.prog w base spare held n' 2 [b] = _ at h1
  change DataW.trod enc Try.prog w base spare held n' 60 [c] = _ at h2
  have hxl : xs.length = 3 := hxl
  rw [List.getElem?_eq_getElem (by omega)] at h0 h1 h2
  obtain ⟨k, rfl, _⟩ := Qu.trod_int_cell Try.underlying26 h0
  obtain ⟨l, rfl, _⟩ := Qu.trod_int_cell Try.underlying2 h1
  obtain ⟨d, hd⟩ := Qu.open_bytes h2
  exact ⟨k, l, d, rfl, rfl, hd⟩
end

end Go.Proofs.Ytgdeoodihhcdjaa
