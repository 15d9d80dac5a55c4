/-
  No cell of these rows narrows 'for every input' (looked for: loops, veiled, ifaces, maps, wideKeys, modest, calm, conditions, laid).
  DERIVED. THE GIVEN ROWS OF THIS SEAT. 3 by the template 'for every input the law returns true; each argument reads behind the call as it read before'; 0 by the template 'total and deterministic' (their statements: YtnikfeaggppmpaaTotals.lean).
  GIVEN WITH THE SEED: the statements are not yours to turn. If you find one false, say at which input.
  Laid BY PROGRAM, IN A SANDBOX (cutbox-rows.mjs): the forced cells as the released guide's own fill.sh prints them over the translation a12814a0e5b3c06c… (all of the seat's roots in one cut). By AI agents, Wed Nov 11 2026. No macro, syntax, notation, axiom, sorry.
-/
import Derived.Test.YtnikfeaggppmpaaChecked
import GoSem.Claim
import GoSem.ClaimJoined
import GoSem.ClaimMapViews
import Derived.JoinedTies
import Derived.KernelRfl
namespace Go.Proofs.Ytnikfeaggppmpaa
/- THE CELL 'sum', in the pinned program and in every row, IS THE sha256 OF THE DUMP (.gsa) THAT YtnikfeaggppmpaaProg.lean LOADS. Nothing in Lean hashes anything: it is a label: what it is worth is what the hold of that sum in a sandbox is worth. -/
noncomputable def Try.pinned : Pinned := { name := "ytnikfeaggppmpaa", sum := "a12814a0e5b3c06c81b8f96dea7ecf1694e6ed2a7b4efa4fd531068697edf4d3", checked := Try.checked }
namespace Rows
def none {H : Type} : Left H := { results := [], args := [] }

/-- 'bolterlaw05.MessageMay': WHATEVER THE INPUT: true; the input reads as it did. -/
def messageMaySpec : ChangeSpec := { name := "messageMay", fn := fun _ => fun
  | [d] => { results := [.lit (.bool true)], args := [d] }
  | _ => none }
def messageMayRow : OpenClaim := { program := "ytnikfeaggppmpaa", sum := "a12814a0e5b3c06c81b8f96dea7ecf1694e6ed2a7b4efa4fd531068697edf4d3", func := "bolter/bolterlaw05.MessageMay", spec := "messageMay", apart := false }
def MessageMaySaid : Prop := messageMayRow.holds Try.pinned (OpenSpec.ofChange messageMaySpec)

/-- ITS FALSE NEIGHBOUR: 'it returns false'. Refute it at one input. -/
def messageMayWrong : ChangeSpec := { name := "messageMay", fn := fun _ => fun
  | [d] => { results := [.lit (.bool false)], args := [d] }
  | _ => none }
def MessageMayWrongFalsely : Prop := messageMayRow.holds Try.pinned (OpenSpec.ofChange messageMayWrong)

/-- 'bolterlaw05.MessageBytes': WHATEVER THE INPUT: true; the input reads as it did. -/
def messageBytesSpec : ChangeSpec := { name := "messageBytes", fn := fun _ => fun
  | [d1, d2] => { results := [.lit (.bool true)], args := [d1, d2] }
  | _ => none }
def messageBytesRow : OpenClaim := { program := "ytnikfeaggppmpaa", sum := "a12814a0e5b3c06c81b8f96dea7ecf1694e6ed2a7b4efa4fd531068697edf4d3", func := "bolter/bolterlaw05.MessageBytes", spec := "messageBytes", inPlace := ["internal/abi.NoEscape"], apart := false }
def MessageBytesSaid : Prop := messageBytesRow.holds Try.pinned (OpenSpec.ofChange messageBytesSpec)

/-- ITS FALSE NEIGHBOUR: 'it returns false'. Refute it at one input. -/
def messageBytesWrong : ChangeSpec := { name := "messageBytes", fn := fun _ => fun
  | [d1, d2] => { results := [.lit (.bool false)], args := [d1, d2] }
  | _ => none }
def MessageBytesWrongFalsely : Prop := messageBytesRow.holds Try.pinned (OpenSpec.ofChange messageBytesWrong)

/-- 'bolterlaw05.MessageSmall': WHATEVER THE INPUT: true; the input reads as it did. -/
def messageSmallSpec : ChangeSpec := { name := "messageSmall", fn := fun _ => fun
  | [d] => { results := [.lit (.bool true)], args := [d] }
  | _ => none }
def messageSmallRow : OpenClaim := { program := "ytnikfeaggppmpaa", sum := "a12814a0e5b3c06c81b8f96dea7ecf1694e6ed2a7b4efa4fd531068697edf4d3", func := "bolter/bolterlaw05.MessageSmall", spec := "messageSmall", inPlace := ["internal/abi.NoEscape"], apart := false }
def MessageSmallSaid : Prop := messageSmallRow.holds Try.pinned (OpenSpec.ofChange messageSmallSpec)

/-- ITS FALSE NEIGHBOUR: 'it returns false'. Refute it at one input. -/
def messageSmallWrong : ChangeSpec := { name := "messageSmall", fn := fun _ => fun
  | [d] => { results := [.lit (.bool false)], args := [d] }
  | _ => none }
def MessageSmallWrongFalsely : Prop := messageSmallRow.holds Try.pinned (OpenSpec.ofChange messageSmallWrong)

/- THE SECOND FORM. 'bulk': how many values and letters a reading holds, each counted each time it is reached (what is shared counts as often as it is met; a slice's spare places count too). A statement '..UptoSaid' is the law's where the arguments, and the package variables that the reading takes, are together of bulk at most 1048576: NARROWER than '..Said'. Prove '..Said' where nothing that the law and all that it calls make is longer than what came in: it says more and counts as full. Else prove '..UptoSaid'. A law counts once. -/
mutual
def uptoBulk {H : Type} : DataW H → Nat
  | .lit (.string bytes) => bytes.length + 1
  | .lit _ => 1
  | .nil => 1
  | .ptr d => uptoBulk d + 1
  | .slice elems spare => uptoBulkAll elems + uptoBulkAll spare + 1
  | .agg parts => uptoBulkAll parts + 1
  | .iface _ d => uptoBulk d + 1
  | .map entries => uptoBulkEntries entries + 1
  | .held _ => 1
def uptoBulkAll {H : Type} : List (DataW H) → Nat
  | [] => 0
  | d :: r => uptoBulk d + uptoBulkAll r
def uptoBulkEntries {H : Type} : List (Lit × DataW H) → Nat
  | [] => 0
  | x :: r => uptoBulkEntry x + uptoBulkEntries r
def uptoBulkEntry {H : Type} : Lit × DataW H → Nat
  | (.string bytes, d) => bytes.length + uptoBulk d + 1
  | (_, d) => uptoBulk d + 1
 end
def uptoSmall : (H : Type) → List (DataW H) → Bool := fun _ ds => decide (uptoBulkAll ds ≤ 1048576)
def OpenSpec.upto (s : _root_.Go.ChangeSpec) : _root_.Go.OpenSpec := { _root_.Go.OpenSpec.ofChange s with cond := some uptoSmall }

/-- 'bolterlaw05.MessageMay', WHERE WHAT IT READS IS OF BULK AT MOST 1048576: true; the input reads as it did. -/
def messageMayUptoRow : OpenClaim := { program := "ytnikfeaggppmpaa", sum := "a12814a0e5b3c06c81b8f96dea7ecf1694e6ed2a7b4efa4fd531068697edf4d3", func := "bolter/bolterlaw05.MessageMay", spec := "messageMay", apart := false, narrowed := true }
def MessageMayUptoSaid : Prop := messageMayUptoRow.holds Try.pinned (OpenSpec.upto messageMaySpec)

/-- 'bolterlaw05.MessageBytes', WHERE WHAT IT READS IS OF BULK AT MOST 1048576: true; the input reads as it did. -/
def messageBytesUptoRow : OpenClaim := { program := "ytnikfeaggppmpaa", sum := "a12814a0e5b3c06c81b8f96dea7ecf1694e6ed2a7b4efa4fd531068697edf4d3", func := "bolter/bolterlaw05.MessageBytes", spec := "messageBytes", inPlace := ["internal/abi.NoEscape"], apart := false, narrowed := true }
def MessageBytesUptoSaid : Prop := messageBytesUptoRow.holds Try.pinned (OpenSpec.upto messageBytesSpec)

/-- 'bolterlaw05.MessageSmall', WHERE WHAT IT READS IS OF BULK AT MOST 1048576: true; the input reads as it did. -/
def messageSmallUptoRow : OpenClaim := { program := "ytnikfeaggppmpaa", sum := "a12814a0e5b3c06c81b8f96dea7ecf1694e6ed2a7b4efa4fd531068697edf4d3", func := "bolter/bolterlaw05.MessageSmall", spec := "messageSmall", inPlace := ["internal/abi.NoEscape"], apart := false, narrowed := true }
def MessageSmallUptoSaid : Prop := messageSmallUptoRow.holds Try.pinned (OpenSpec.upto messageSmallSpec)

end Rows
end Go.Proofs.Ytnikfeaggppmpaa
