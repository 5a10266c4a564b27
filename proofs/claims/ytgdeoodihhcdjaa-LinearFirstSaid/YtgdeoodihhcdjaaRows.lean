/-
  No cell of these rows narrows 'for every input' (looked for: loops, veiled, ifaces, maps, wideKeys, modest, calm, conditions, laid).
  DERIVED. THE GIVEN ROWS OF THIS SEAT. 5 by the template 'for every input the law returns true; each argument reads behind the call as it read before'; 0 by the template 'total and deterministic' (their statements: YtgdeoodihhcdjaaTotals.lean).
  GIVEN WITH THE SEED: the statements are not yours to turn. If you find one false, say at which input.
  Laid BY PROGRAM, IN A SANDBOX (cutbox-rows.mjs): the forced cells as the released guide's own fill.sh prints them over the translation 0ba2043770036085… (all of the seat's roots in one cut). By AI agents, Wed Nov 11 2026. No macro, syntax, notation, axiom, sorry.
-/
import Derived.Test.YtgdeoodihhcdjaaChecked
import GoSem.Claim
import GoSem.ClaimJoined
import GoSem.ClaimMapViews
import Derived.JoinedTies
import Derived.KernelRfl
namespace Go.Proofs.Ytgdeoodihhcdjaa
/- THE CELL 'sum', in the pinned program and in every row, IS THE sha256 OF THE DUMP (.gsa) THAT YtgdeoodihhcdjaaProg.lean LOADS. Nothing in Lean hashes anything: it is a label: what it is worth is what the hold of that sum in a sandbox is worth. -/
noncomputable def Try.pinned : Pinned := { name := "ytgdeoodihhcdjaa", sum := "0ba2043770036085fc5161d92d3e5f3a38aafb0bda27847cb837c3ee292923d1", checked := Try.checked }
namespace Rows
def none {H : Type} : Left H := { results := [], args := [] }

/-- 'flumelaw19.QueueFair': WHATEVER THE INPUT: true; the input reads as it did. -/
def queueFairSpec : ChangeSpec := { name := "queueFair", fn := fun _ => fun
  | [d1, d2, d3, d4] => { results := [.lit (.bool true)], args := [d1, d2, d3, d4] }
  | _ => none }
def queueFairRow : OpenClaim := { program := "ytgdeoodihhcdjaa", sum := "0ba2043770036085fc5161d92d3e5f3a38aafb0bda27847cb837c3ee292923d1", func := "flume/flumelaw19.QueueFair", spec := "queueFair", plainKeys := false, apart := false }
def QueueFairSaid : Prop := queueFairRow.holds Try.pinned (OpenSpec.ofChange queueFairSpec)

/-- ITS FALSE NEIGHBOUR: 'it returns false'. Refute it at one input. -/
def queueFairWrong : ChangeSpec := { name := "queueFair", fn := fun _ => fun
  | [d1, d2, d3, d4] => { results := [.lit (.bool false)], args := [d1, d2, d3, d4] }
  | _ => none }
def QueueFairWrongFalsely : Prop := queueFairRow.holds Try.pinned (OpenSpec.ofChange queueFairWrong)

/-- 'flumelaw19.QueueAll': WHATEVER THE INPUT: true; the input reads as it did. -/
def queueAllSpec : ChangeSpec := { name := "queueAll", fn := fun _ => fun
  | [d1, d2, d3] => { results := [.lit (.bool true)], args := [d1, d2, d3] }
  | _ => none }
def queueAllRow : OpenClaim := { program := "ytgdeoodihhcdjaa", sum := "0ba2043770036085fc5161d92d3e5f3a38aafb0bda27847cb837c3ee292923d1", func := "flume/flumelaw19.QueueAll", spec := "queueAll", unfollowed := true, recurses := true, plainKeys := false, apart := false }
def QueueAllSaid : Prop := queueAllRow.holds Try.pinned (OpenSpec.ofChange queueAllSpec)

/-- ITS FALSE NEIGHBOUR: 'it returns false'. Refute it at one input. -/
def queueAllWrong : ChangeSpec := { name := "queueAll", fn := fun _ => fun
  | [d1, d2, d3] => { results := [.lit (.bool false)], args := [d1, d2, d3] }
  | _ => none }
def QueueAllWrongFalsely : Prop := queueAllRow.holds Try.pinned (OpenSpec.ofChange queueAllWrong)

/-- 'flumelaw19.QueueNone': WHATEVER THE INPUT: true; the input reads as it did. -/
def queueNoneSpec : ChangeSpec := { name := "queueNone", fn := fun _ => fun
  | [d1, d2, d3] => { results := [.lit (.bool true)], args := [d1, d2, d3] }
  | _ => none }
def queueNoneRow : OpenClaim := { program := "ytgdeoodihhcdjaa", sum := "0ba2043770036085fc5161d92d3e5f3a38aafb0bda27847cb837c3ee292923d1", func := "flume/flumelaw19.QueueNone", spec := "queueNone", unfollowed := true, recurses := true, plainKeys := false, apart := false }
def QueueNoneSaid : Prop := queueNoneRow.holds Try.pinned (OpenSpec.ofChange queueNoneSpec)

/-- ITS FALSE NEIGHBOUR: 'it returns false'. Refute it at one input. -/
def queueNoneWrong : ChangeSpec := { name := "queueNone", fn := fun _ => fun
  | [d1, d2, d3] => { results := [.lit (.bool false)], args := [d1, d2, d3] }
  | _ => none }
def QueueNoneWrongFalsely : Prop := queueNoneRow.holds Try.pinned (OpenSpec.ofChange queueNoneWrong)

/-- 'flumelaw24.LinearFirst': WHATEVER THE INPUT: true; the input reads as it did. -/
def linearFirstSpec : ChangeSpec := { name := "linearFirst", fn := fun _ => fun
  | [d1, d2, d3] => { results := [.lit (.bool true)], args := [d1, d2, d3] }
  | _ => none }
def linearFirstRow : OpenClaim := { program := "ytgdeoodihhcdjaa", sum := "0ba2043770036085fc5161d92d3e5f3a38aafb0bda27847cb837c3ee292923d1", func := "flume/flumelaw24.LinearFirst", spec := "linearFirst", unfollowed := true, recurses := true, plainKeys := false, apart := false }
def LinearFirstSaid : Prop := linearFirstRow.holds Try.pinned (OpenSpec.ofChange linearFirstSpec)

/-- ITS FALSE NEIGHBOUR: 'it returns false'. Refute it at one input. -/
def linearFirstWrong : ChangeSpec := { name := "linearFirst", fn := fun _ => fun
  | [d1, d2, d3] => { results := [.lit (.bool false)], args := [d1, d2, d3] }
  | _ => none }
def LinearFirstWrongFalsely : Prop := linearFirstRow.holds Try.pinned (OpenSpec.ofChange linearFirstWrong)

/-- 'flumelaw24.LinearLine': WHATEVER THE INPUT: true; the input reads as it did. -/
def linearLineSpec : ChangeSpec := { name := "linearLine", fn := fun _ => fun
  | [d1, d2] => { results := [.lit (.bool true)], args := [d1, d2] }
  | _ => none }
def linearLineRow : OpenClaim := { program := "ytgdeoodihhcdjaa", sum := "0ba2043770036085fc5161d92d3e5f3a38aafb0bda27847cb837c3ee292923d1", func := "flume/flumelaw24.LinearLine", spec := "linearLine", unfollowed := true, recurses := true, plainKeys := false, apart := false }
def LinearLineSaid : Prop := linearLineRow.holds Try.pinned (OpenSpec.ofChange linearLineSpec)

/-- ITS FALSE NEIGHBOUR: 'it returns false'. Refute it at one input. -/
def linearLineWrong : ChangeSpec := { name := "linearLine", fn := fun _ => fun
  | [d1, d2] => { results := [.lit (.bool false)], args := [d1, d2] }
  | _ => none }
def LinearLineWrongFalsely : Prop := linearLineRow.holds Try.pinned (OpenSpec.ofChange linearLineWrong)

/- THE SECOND FORM. 'bulk': how many values and letters a reading holds, each counted each time it is reached (what is shared counts as often as it is met; a slice's spare places count too). A statement '..UptoSaid' is the law's where the arguments, and the package variables that the reading takes, are together of bulk at most 1048576: NARROWER than '..Said'. Prove '..Said' where nothing that the law and all that it calls make is longer than what came in: it says more and counts as full. Else prove '..UptoSaid'. A law counts once. -/
mutual
def uptoBulk {H : Type} : DataW H → Nat
  | .lit (.string bytes) => bytes.length + 1
  | .lit _ => 1
  | .nil => 1
  | .ptr d => uptoBulk d + 1
  | .slice elems spare => uptoBulkAll elems + uptoBulkAll spare + 1
  | .agg parts => uptoBulkAll parts + 1
  | .iface _ d => uptoBulk d + 1
  | .map entries => uptoBulkEntries entries + 1
  | .held _ => 1
def uptoBulkAll {H : Type} : List (DataW H) → Nat
  | [] => 0
  | d :: r => uptoBulk d + uptoBulkAll r
def uptoBulkEntries {H : Type} : List (Lit × DataW H) → Nat
  | [] => 0
  | x :: r => uptoBulkEntry x + uptoBulkEntries r
def uptoBulkEntry {H : Type} : Lit × DataW H → Nat
  | (.string bytes, d) => bytes.length + uptoBulk d + 1
  | (_, d) => uptoBulk d + 1
 end
def uptoSmall : (H : Type) → List (DataW H) → Bool := fun _ ds => decide (uptoBulkAll ds ≤ 1048576)
def OpenSpec.upto (s : _root_.Go.ChangeSpec) : _root_.Go.OpenSpec := { _root_.Go.OpenSpec.ofChange s with cond := some uptoSmall }

/-- 'flumelaw19.QueueFair', WHERE WHAT IT READS IS OF BULK AT MOST 1048576: true; the input reads as it did. -/
def queueFairUptoRow : OpenClaim := { program := "ytgdeoodihhcdjaa", sum := "0ba2043770036085fc5161d92d3e5f3a38aafb0bda27847cb837c3ee292923d1", func := "flume/flumelaw19.QueueFair", spec := "queueFair", plainKeys := false, apart := false, narrowed := true }
def QueueFairUptoSaid : Prop := queueFairUptoRow.holds Try.pinned (OpenSpec.upto queueFairSpec)

/-- 'flumelaw19.QueueAll', WHERE WHAT IT READS IS OF BULK AT MOST 1048576: true; the input reads as it did. -/
def queueAllUptoRow : OpenClaim := { program := "ytgdeoodihhcdjaa", sum := "0ba2043770036085fc5161d92d3e5f3a38aafb0bda27847cb837c3ee292923d1", func := "flume/flumelaw19.QueueAll", spec := "queueAll", unfollowed := true, recurses := true, plainKeys := false, apart := false, narrowed := true }
def QueueAllUptoSaid : Prop := queueAllUptoRow.holds Try.pinned (OpenSpec.upto queueAllSpec)

/-- 'flumelaw19.QueueNone', WHERE WHAT IT READS IS OF BULK AT MOST 1048576: true; the input reads as it did. -/
def queueNoneUptoRow : OpenClaim := { program := "ytgdeoodihhcdjaa", sum := "0ba2043770036085fc5161d92d3e5f3a38aafb0bda27847cb837c3ee292923d1", func := "flume/flumelaw19.QueueNone", spec := "queueNone", unfollowed := true, recurses := true, plainKeys := false, apart := false, narrowed := true }
def QueueNoneUptoSaid : Prop := queueNoneUptoRow.holds Try.pinned (OpenSpec.upto queueNoneSpec)

/-- 'flumelaw24.LinearFirst', WHERE WHAT IT READS IS OF BULK AT MOST 1048576: true; the input reads as it did. -/
def linearFirstUptoRow : OpenClaim := { program := "ytgdeoodihhcdjaa", sum := "0ba2043770036085fc5161d92d3e5f3a38aafb0bda27847cb837c3ee292923d1", func := "flume/flumelaw24.LinearFirst", spec := "linearFirst", unfollowed := true, recurses := true, plainKeys := false, apart := false, narrowed := true }
def LinearFirstUptoSaid : Prop := linearFirstUptoRow.holds Try.pinned (OpenSpec.upto linearFirstSpec)

/-- 'flumelaw24.LinearLine', WHERE WHAT IT READS IS OF BULK AT MOST 1048576: true; the input reads as it did. -/
def linearLineUptoRow : OpenClaim := { program := "ytgdeoodihhcdjaa", sum := "0ba2043770036085fc5161d92d3e5f3a38aafb0bda27847cb837c3ee292923d1", func := "flume/flumelaw24.LinearLine", spec := "linearLine", unfollowed := true, recurses := true, plainKeys := false, apart := false, narrowed := true }
def LinearLineUptoSaid : Prop := linearLineUptoRow.holds Try.pinned (OpenSpec.upto linearLineSpec)

end Rows
end Go.Proofs.Ytgdeoodihhcdjaa
