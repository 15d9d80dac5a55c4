/-
  No cell of these rows narrows 'for every input' (looked for: loops, veiled, ifaces, maps, wideKeys, modest, calm, conditions, laid).
  DERIVED. THE GIVEN ROWS OF THIS SEAT. 5 by the template 'for every input the law returns true; each argument reads behind the call as it read before'; 0 by the template 'total and deterministic' (their statements: YtdmpmcmpkmldnaaTotals.lean).
  GIVEN WITH THE SEED: the statements are not yours to turn. If you find one false, say at which input.
  Laid BY PROGRAM, IN A SANDBOX (cutbox-rows.mjs): the forced cells as the released guide's own fill.sh prints them over the translation c7f77cb55c615869… (all of the seat's roots in one cut). By AI agents, Wed Nov 11 2026. No macro, syntax, notation, axiom, sorry.
-/
import Derived.Test.YtdmpmcmpkmldnaaChecked
import GoSem.Claim
import GoSem.ClaimJoined
import GoSem.ClaimMapViews
import Derived.JoinedTies
import Derived.KernelRfl
namespace Go.Proofs.Ytdmpmcmpkmldnaa
/- THE CELL 'sum', in the pinned program and in every row, IS THE sha256 OF THE DUMP (.gsa) THAT YtdmpmcmpkmldnaaProg.lean LOADS. Nothing in Lean hashes anything: it is a label: what it is worth is what the hold of that sum in a sandbox is worth. -/
noncomputable def Try.pinned : Pinned := { name := "ytdmpmcmpkmldnaa", sum := "c7f77cb55c615869801ddc29cff7dd0f09b71d65ea78ff6dcbea4803d06c6a62", checked := Try.checked }
namespace Rows
def none {H : Type} : Left H := { results := [], args := [] }

/-- 'bolterlaw03.PointRead': WHATEVER THE INPUT: true; the input reads as it did. -/
def pointReadSpec : ChangeSpec := { name := "pointRead", fn := fun _ => fun
  | [d1, d2] => { results := [.lit (.bool true)], args := [d1, d2] }
  | _ => none }
def pointReadRow : OpenClaim := { program := "ytdmpmcmpkmldnaa", sum := "c7f77cb55c615869801ddc29cff7dd0f09b71d65ea78ff6dcbea4803d06c6a62", func := "bolter/bolterlaw03.PointRead", spec := "pointRead", inPlace := ["internal/abi.NoEscape"], apart := false }
def PointReadSaid : Prop := pointReadRow.holds Try.pinned (OpenSpec.ofChange pointReadSpec)

/-- ITS FALSE NEIGHBOUR: 'it returns false'. Refute it at one input. -/
def pointReadWrong : ChangeSpec := { name := "pointRead", fn := fun _ => fun
  | [d1, d2] => { results := [.lit (.bool false)], args := [d1, d2] }
  | _ => none }
def PointReadWrongFalsely : Prop := pointReadRow.holds Try.pinned (OpenSpec.ofChange pointReadWrong)

/-- 'bolterlaw03.PointWrite': WHATEVER THE INPUT: true; the input reads as it did. -/
def pointWriteSpec : ChangeSpec := { name := "pointWrite", fn := fun _ => fun
  | [d1, d2] => { results := [.lit (.bool true)], args := [d1, d2] }
  | _ => none }
def pointWriteRow : OpenClaim := { program := "ytdmpmcmpkmldnaa", sum := "c7f77cb55c615869801ddc29cff7dd0f09b71d65ea78ff6dcbea4803d06c6a62", func := "bolter/bolterlaw03.PointWrite", spec := "pointWrite", inPlace := ["internal/abi.NoEscape"], apart := false }
def PointWriteSaid : Prop := pointWriteRow.holds Try.pinned (OpenSpec.ofChange pointWriteSpec)

/-- ITS FALSE NEIGHBOUR: 'it returns false'. Refute it at one input. -/
def pointWriteWrong : ChangeSpec := { name := "pointWrite", fn := fun _ => fun
  | [d1, d2] => { results := [.lit (.bool false)], args := [d1, d2] }
  | _ => none }
def PointWriteWrongFalsely : Prop := pointWriteRow.holds Try.pinned (OpenSpec.ofChange pointWriteWrong)

/-- 'bolterlaw03.PointBack': WHATEVER THE INPUT: true; the input reads as it did. -/
def pointBackSpec : ChangeSpec := { name := "pointBack", fn := fun _ => fun
  | [d1, d2] => { results := [.lit (.bool true)], args := [d1, d2] }
  | _ => none }
def pointBackRow : OpenClaim := { program := "ytdmpmcmpkmldnaa", sum := "c7f77cb55c615869801ddc29cff7dd0f09b71d65ea78ff6dcbea4803d06c6a62", func := "bolter/bolterlaw03.PointBack", spec := "pointBack", inPlace := ["internal/abi.NoEscape"], apart := false }
def PointBackSaid : Prop := pointBackRow.holds Try.pinned (OpenSpec.ofChange pointBackSpec)

/-- ITS FALSE NEIGHBOUR: 'it returns false'. Refute it at one input. -/
def pointBackWrong : ChangeSpec := { name := "pointBack", fn := fun _ => fun
  | [d1, d2] => { results := [.lit (.bool false)], args := [d1, d2] }
  | _ => none }
def PointBackWrongFalsely : Prop := pointBackRow.holds Try.pinned (OpenSpec.ofChange pointBackWrong)

/-- 'bolterlaw03.PointNone': WHATEVER THE INPUT: true; the input reads as it did. -/
def pointNoneSpec : ChangeSpec := { name := "pointNone", fn := fun _ => fun
  | [d] => { results := [.lit (.bool true)], args := [d] }
  | _ => none }
def pointNoneRow : OpenClaim := { program := "ytdmpmcmpkmldnaa", sum := "c7f77cb55c615869801ddc29cff7dd0f09b71d65ea78ff6dcbea4803d06c6a62", func := "bolter/bolterlaw03.PointNone", spec := "pointNone", inPlace := ["internal/abi.NoEscape"], apart := false }
def PointNoneSaid : Prop := pointNoneRow.holds Try.pinned (OpenSpec.ofChange pointNoneSpec)

/-- ITS FALSE NEIGHBOUR: 'it returns false'. Refute it at one input. -/
def pointNoneWrong : ChangeSpec := { name := "pointNone", fn := fun _ => fun
  | [d] => { results := [.lit (.bool false)], args := [d] }
  | _ => none }
def PointNoneWrongFalsely : Prop := pointNoneRow.holds Try.pinned (OpenSpec.ofChange pointNoneWrong)

/-- 'bolterlaw03.PointCut': WHATEVER THE INPUT: true; the input reads as it did. -/
def pointCutSpec : ChangeSpec := { name := "pointCut", fn := fun _ => fun
  | [d1, d2, d3] => { results := [.lit (.bool true)], args := [d1, d2, d3] }
  | _ => none }
def pointCutRow : OpenClaim := { program := "ytdmpmcmpkmldnaa", sum := "c7f77cb55c615869801ddc29cff7dd0f09b71d65ea78ff6dcbea4803d06c6a62", func := "bolter/bolterlaw03.PointCut", spec := "pointCut", inPlace := ["internal/abi.NoEscape"], apart := false }
def PointCutSaid : Prop := pointCutRow.holds Try.pinned (OpenSpec.ofChange pointCutSpec)

/-- ITS FALSE NEIGHBOUR: 'it returns false'. Refute it at one input. -/
def pointCutWrong : ChangeSpec := { name := "pointCut", fn := fun _ => fun
  | [d1, d2, d3] => { results := [.lit (.bool false)], args := [d1, d2, d3] }
  | _ => none }
def PointCutWrongFalsely : Prop := pointCutRow.holds Try.pinned (OpenSpec.ofChange pointCutWrong)

/- THE SECOND FORM. 'bulk': how many values and letters a reading holds, each counted each time it is reached (what is shared counts as often as it is met; a slice's spare places count too). A statement '..UptoSaid' is the law's where the arguments, and the package variables that the reading takes, are together of bulk at most 1048576: NARROWER than '..Said'. Prove '..Said' where nothing that the law and all that it calls make is longer than what came in: it says more and counts as full. Else prove '..UptoSaid'. A law counts once. -/
mutual
def uptoBulk {H : Type} : DataW H → Nat
  | .lit (.string bytes) => bytes.length + 1
  | .lit _ => 1
  | .nil => 1
  | .ptr d => uptoBulk d + 1
  | .slice elems spare => uptoBulkAll elems + uptoBulkAll spare + 1
  | .agg parts => uptoBulkAll parts + 1
  | .iface _ d => uptoBulk d + 1
  | .map entries => uptoBulkEntries entries + 1
  | .held _ => 1
def uptoBulkAll {H : Type} : List (DataW H) → Nat
  | [] => 0
  | d :: r => uptoBulk d + uptoBulkAll r
def uptoBulkEntries {H : Type} : List (Lit × DataW H) → Nat
  | [] => 0
  | x :: r => uptoBulkEntry x + uptoBulkEntries r
def uptoBulkEntry {H : Type} : Lit × DataW H → Nat
  | (.string bytes, d) => bytes.length + uptoBulk d + 1
  | (_, d) => uptoBulk d + 1
 end
def uptoSmall : (H : Type) → List (DataW H) → Bool := fun _ ds => decide (uptoBulkAll ds ≤ 1048576)
def OpenSpec.upto (s : _root_.Go.ChangeSpec) : _root_.Go.OpenSpec := { _root_.Go.OpenSpec.ofChange s with cond := some uptoSmall }

/-- 'bolterlaw03.PointRead', WHERE WHAT IT READS IS OF BULK AT MOST 1048576: true; the input reads as it did. -/
def pointReadUptoRow : OpenClaim := { program := "ytdmpmcmpkmldnaa", sum := "c7f77cb55c615869801ddc29cff7dd0f09b71d65ea78ff6dcbea4803d06c6a62", func := "bolter/bolterlaw03.PointRead", spec := "pointRead", inPlace := ["internal/abi.NoEscape"], apart := false, narrowed := true }
def PointReadUptoSaid : Prop := pointReadUptoRow.holds Try.pinned (OpenSpec.upto pointReadSpec)

/-- 'bolterlaw03.PointWrite', WHERE WHAT IT READS IS OF BULK AT MOST 1048576: true; the input reads as it did. -/
def pointWriteUptoRow : OpenClaim := { program := "ytdmpmcmpkmldnaa", sum := "c7f77cb55c615869801ddc29cff7dd0f09b71d65ea78ff6dcbea4803d06c6a62", func := "bolter/bolterlaw03.PointWrite", spec := "pointWrite", inPlace := ["internal/abi.NoEscape"], apart := false, narrowed := true }
def PointWriteUptoSaid : Prop := pointWriteUptoRow.holds Try.pinned (OpenSpec.upto pointWriteSpec)

/-- 'bolterlaw03.PointBack', WHERE WHAT IT READS IS OF BULK AT MOST 1048576: true; the input reads as it did. -/
def pointBackUptoRow : OpenClaim := { program := "ytdmpmcmpkmldnaa", sum := "c7f77cb55c615869801ddc29cff7dd0f09b71d65ea78ff6dcbea4803d06c6a62", func := "bolter/bolterlaw03.PointBack", spec := "pointBack", inPlace := ["internal/abi.NoEscape"], apart := false, narrowed := true }
def PointBackUptoSaid : Prop := pointBackUptoRow.holds Try.pinned (OpenSpec.upto pointBackSpec)

/-- 'bolterlaw03.PointNone', WHERE WHAT IT READS IS OF BULK AT MOST 1048576: true; the input reads as it did. -/
def pointNoneUptoRow : OpenClaim := { program := "ytdmpmcmpkmldnaa", sum := "c7f77cb55c615869801ddc29cff7dd0f09b71d65ea78ff6dcbea4803d06c6a62", func := "bolter/bolterlaw03.PointNone", spec := "pointNone", inPlace := ["internal/abi.NoEscape"], apart := false, narrowed := true }
def PointNoneUptoSaid : Prop := pointNoneUptoRow.holds Try.pinned (OpenSpec.upto pointNoneSpec)

/-- 'bolterlaw03.PointCut', WHERE WHAT IT READS IS OF BULK AT MOST 1048576: true; the input reads as it did. -/
def pointCutUptoRow : OpenClaim := { program := "ytdmpmcmpkmldnaa", sum := "c7f77cb55c615869801ddc29cff7dd0f09b71d65ea78ff6dcbea4803d06c6a62", func := "bolter/bolterlaw03.PointCut", spec := "pointCut", inPlace := ["internal/abi.NoEscape"], apart := false, narrowed := true }
def PointCutUptoSaid : Prop := pointCutUptoRow.holds Try.pinned (OpenSpec.upto pointCutSpec)

end Rows
end Go.Proofs.Ytdmpmcmpkmldnaa
