/- The contract of answer, whole; the closures of Apply and Half; used. -/
import Derived.Test.YtgdeoodihhcdjaaMl
namespace Go.Proofs.Ytgdeoodihhcdjaa
open Go.RowKit
set_option linter.unusedVariables false
set_option linter.unusedSimpArgs false

structure Ln.WF (m : Ln.Mod) : Prop where
  b0 : 0 ≤ m.base
  bf : m.base ≤ m.first
  nx : m.next = m.base + m.recs.length
  mx : m.next ≤ 9223372036854775807
  ln : m.recs.length ≤ 1000
theorem Ln.WF.n0 {m : Ln.Mod} (h : Ln.WF m) : 0 ≤ m.next := by have := h.nx; have := h.b0; omega

/-- Which method answers. -/
def Ln.disp (m : Ln.Mod) (c : Ln.Call) (r : Ln.Res) : Option Ln.Mod :=
  if c.kind = 4 ∨ c.kind = 5 then Ln.readF m c r
  else if c.kind = 1 ∨ c.kind = 2 then Ln.appendF m c r
  else if c.kind = 6 then Ln.truncF m c r
  else if c.kind = 3 then Ln.syncF m r
  else Ln.closeF m r
theorem Ln.disp_else (m : Ln.Mod) (c : Ln.Call) (r : Ln.Res) (k1 : c.kind ≠ 1) (k2 : c.kind ≠ 2) (k3 : c.kind ≠ 3) (k4 : c.kind ≠ 4) (k5 : c.kind ≠ 5) (k6 : c.kind ≠ 6) : Ln.disp m c r = Ln.closeF m r := by
  unfold Ln.disp
  rw [if_neg (by omega), if_neg (by omega), if_neg k6, if_neg k3]
theorem Ln.answerF_eq (m : Ln.Mod) (ck clsn err rlsn : Int) (d rdata : List UInt8) :
    (rdata.length = 0 → Ln.answerF m ⟨ck, clsn, d⟩ ⟨err, rlsn, rdata⟩ = Ln.disp m ⟨ck, clsn, d⟩ ⟨err, rlsn, rdata⟩) ∧
    ((ck = 4 ∨ ck = 5) ∧ err = 0 → Ln.answerF m ⟨ck, clsn, d⟩ ⟨err, rlsn, rdata⟩ = Ln.disp m ⟨ck, clsn, d⟩ ⟨err, rlsn, rdata⟩) ∧
    (rdata.length ≠ 0 → ¬ ((ck = 4 ∨ ck = 5) ∧ err = 0) → Ln.answerF m ⟨ck, clsn, d⟩ ⟨err, rlsn, rdata⟩ = none) ∧ True := by
  refine ⟨fun h => ?_, fun h => ?_, fun h1 h2 => ?_, trivial⟩
  · unfold Ln.answerF; rw [if_pos (.inl h)]; rfl
  · unfold Ln.answerF; rw [if_pos (.inr h)]; rfl
  · unfold Ln.answerF; rw [if_neg (fun h => h.elim h1 h2)]

theorem answer_any (B sb : Nat) (c : Ln.Call) (r : Ln.Res) (cd rd : Value) (m : Ln.Mod) (w : World) (h : Ln.StAt B w sb m) (hB : B ≤ w.heap.size) (hc : Ln.Rd w cd (Ln.u8s c.data)) (hr : Ln.Rd w rd (Ln.u8s r.data)) (hw : Ln.WF m) :
    Calls Try.prog 59 #[.pointer (some ⟨sb, 0, none⟩), .agg #[.int .i64 c.kind, .int .i64 c.lsn, cd], .agg #[.int .i64 r.err, .int .i64 r.lsn, rd]] w (Ln.Did B sb w (Ln.answerF m c r)) := by
  have hn0 := hw.n0
  obtain ⟨hb0, hbf, hnx, hmx, hln⟩ := hw
  obtain ⟨A, cp, hA⟩ := hr.slice
  have hl : (Ln.u8s r.data).length = r.data.length := by simp [Ln.u8s]
  rw [hl] at hA
  subst hA
  have HREAD : Hid (∀ w5, Ln.StAt B w5 sb m → B ≤ w5.heap.size → Ln.Rd w5 cd (Ln.u8s c.data) → Ln.Rd w5 (.slice A r.data.length cp) (Ln.u8s r.data) → Calls Try.prog 66 #[.pointer (some ⟨sb, 0, none⟩), .agg #[.int .i64 c.kind, .int .i64 c.lsn, cd], .agg #[.int .i64 r.err, .int .i64 r.lsn, .slice A r.data.length cp]] w5 (Ln.Did B sb w5 (Ln.readF m c r))) :=
    fun w5 h5 hB5 hc5 hr5 => read_any B sb c r cd _ m w5 h5 hB5 hc5 hr5 hln hn0 hb0 hbf hnx hmx
  have HAPP : Hid (∀ w5, Ln.StAt B w5 sb m → B ≤ w5.heap.size → Ln.Rd w5 cd (Ln.u8s c.data) → Ln.Rd w5 (.slice A r.data.length cp) (Ln.u8s r.data) → Calls Try.prog 67 #[.pointer (some ⟨sb, 0, none⟩), .agg #[.int .i64 c.kind, .int .i64 c.lsn, cd], .agg #[.int .i64 r.err, .int .i64 r.lsn, .slice A r.data.length cp]] w5 (Ln.Did B sb w5 (Ln.appendF m c r))) :=
    fun w5 h5 hB5 hc5 hr5 => append_any B sb c r cd _ m w5 h5 hB5 hc5 hr5 hln hn0
  have HTRU : Hid (∀ w5, Ln.StAt B w5 sb m → B ≤ w5.heap.size → Ln.Rd w5 cd (Ln.u8s c.data) → Ln.Rd w5 (.slice A r.data.length cp) (Ln.u8s r.data) → Calls Try.prog 68 #[.pointer (some ⟨sb, 0, none⟩), .agg #[.int .i64 c.kind, .int .i64 c.lsn, cd], .agg #[.int .i64 r.err, .int .i64 r.lsn, .slice A r.data.length cp]] w5 (Ln.Did B sb w5 (Ln.truncF m c r))) :=
    fun w5 h5 hB5 hc5 hr5 => trunc_any B sb c r cd _ m w5 h5 hB5 hc5 hr5 hln hn0
  have HSYN : Hid (∀ w5, Ln.StAt B w5 sb m → B ≤ w5.heap.size → Ln.Rd w5 cd (Ln.u8s c.data) → Ln.Rd w5 (.slice A r.data.length cp) (Ln.u8s r.data) → Calls Try.prog 69 #[.pointer (some ⟨sb, 0, none⟩), .agg #[.int .i64 r.err, .int .i64 r.lsn, .slice A r.data.length cp]] w5 (Ln.Did B sb w5 (Ln.syncF m r))) :=
    fun w5 h5 hB5 hc5 hr5 => sync_any B sb r _ m w5 h5 hB5
  have HCLO : Hid (∀ w5, Ln.StAt B w5 sb m → B ≤ w5.heap.size → Ln.Rd w5 cd (Ln.u8s c.data) → Ln.Rd w5 (.slice A r.data.length cp) (Ln.u8s r.data) → Calls Try.prog 70 #[.pointer (some ⟨sb, 0, none⟩), .agg #[.int .i64 r.err, .int .i64 r.lsn, .slice A r.data.length cp]] w5 (Ln.Did B sb w5 (Ln.closeF m r))) :=
    fun w5 h5 hB5 hc5 hr5 => close_any B sb r _ m w5 h5 hB5
  obtain ⟨ck, clsn, d⟩ := c
  obtain ⟨err, rlsn, rdata⟩ := r
  have hg := Ln.answerF_eq m ck clsn err rlsn d rdata
  dsimp only at hc hr HREAD HAPP HTRU HSYN HCLO hg ⊢
  clear hl hb0 hbf hnx hmx hln hn0
  by_cases k4 : ck = 4
  · subst k4
    by_cases hz : rdata.length = 0
    · rw [hg.1 hz, show Ln.disp m _ _ = Ln.readF m _ _ from rfl]
      rw [hz] at hr HREAD ⊢
      exact ans4_n0 B sb clsn err rlsn d cd A 0 cp rdata m w h hB hc hr _ HREAD
    · by_cases he : err = 0
      · subst he
        rw [hg.2.1 ⟨.inl rfl, rfl⟩, show Ln.disp m ⟨4, clsn, d⟩ ⟨0, rlsn, rdata⟩ = Ln.readF m ⟨4, clsn, d⟩ ⟨0, rlsn, rdata⟩ from if_pos (.inl rfl)]
        exact ans4_e0 B sb clsn rlsn d cd A _ cp rdata m w h hB hc hr hz _ HREAD
      · rw [hg.2.2.1 hz (fun h => he h.2)]
        exact ans4_bad B sb clsn err rlsn d cd A _ cp rdata m w h hB hc hr hz he
  by_cases k5 : ck = 5
  · subst k5
    by_cases hz : rdata.length = 0
    · rw [hg.1 hz, show Ln.disp m _ _ = Ln.readF m _ _ from rfl]
      rw [hz] at hr HREAD ⊢
      exact ans5_n0 B sb clsn err rlsn d cd A 0 cp rdata m w h hB hc hr _ HREAD
    · by_cases he : err = 0
      · subst he
        rw [hg.2.1 ⟨.inr rfl, rfl⟩, show Ln.disp m ⟨5, clsn, d⟩ ⟨0, rlsn, rdata⟩ = Ln.readF m ⟨5, clsn, d⟩ ⟨0, rlsn, rdata⟩ from if_pos (.inr rfl)]
        exact ans5_e0 B sb clsn rlsn d cd A _ cp rdata m w h hB hc hr hz _ HREAD
      · rw [hg.2.2.1 hz (fun h => he h.2)]
        exact ans5_bad B sb clsn err rlsn d cd A _ cp rdata m w h hB hc hr hz he
  by_cases k1 : ck = 1
  · subst k1
    by_cases hz : rdata.length = 0
    · rw [hg.1 hz, show Ln.disp m _ _ = Ln.appendF m _ _ from rfl]
      rw [hz] at hr HAPP ⊢
      exact ans1_n0 B sb clsn err rlsn d cd A 0 cp rdata m w h hB hc hr _ HAPP
    · rw [hg.2.2.1 hz (by omega)]
      exact ans1_bad B sb clsn err rlsn d cd A _ cp rdata m w h hB hc hr hz
  by_cases k2 : ck = 2
  · subst k2
    by_cases hz : rdata.length = 0
    · rw [hg.1 hz, show Ln.disp m _ _ = Ln.appendF m _ _ from rfl]
      rw [hz] at hr HAPP ⊢
      exact ans2_n0 B sb clsn err rlsn d cd A 0 cp rdata m w h hB hc hr _ HAPP
    · rw [hg.2.2.1 hz (by omega)]
      exact ans2_bad B sb clsn err rlsn d cd A _ cp rdata m w h hB hc hr hz
  by_cases k6 : ck = 6
  · subst k6
    by_cases hz : rdata.length = 0
    · rw [hg.1 hz, show Ln.disp m _ _ = Ln.truncF m _ _ from rfl]
      rw [hz] at hr HTRU ⊢
      exact ans6_n0 B sb clsn err rlsn d cd A 0 cp rdata m w h hB hc hr _ HTRU
    · rw [hg.2.2.1 hz (by omega)]
      exact ans6_bad B sb clsn err rlsn d cd A _ cp rdata m w h hB hc hr hz
  by_cases k3 : ck = 3
  · subst k3
    by_cases hz : rdata.length = 0
    · rw [hg.1 hz, show Ln.disp m _ _ = Ln.syncF m _ from rfl]
      rw [hz] at hr HSYN ⊢
      exact ans3_n0 B sb clsn err rlsn d cd A 0 cp rdata m w h hB hc hr _ HSYN
    · rw [hg.2.2.1 hz (by omega)]
      exact ans3_bad B sb clsn err rlsn d cd A _ cp rdata m w h hB hc hr hz
  by_cases hz : rdata.length = 0
  · rw [hg.1 hz, Ln.disp_else m _ _ k1 k2 k3 k4 k5 k6]
    rw [hz] at hr HCLO ⊢
    exact ansX_n0 B sb ck clsn err rlsn d cd A 0 cp rdata m w h hB hc hr k1 k2 k3 k4 k5 k6 _ HCLO
  · rw [hg.2.2.1 hz (by omega)]
    exact ansX_bad B sb ck clsn err rlsn d cd A _ cp rdata m w h hB hc hr hz k1 k2 k3 k4 k5 k6

end Go.Proofs.Ytgdeoodihhcdjaa
