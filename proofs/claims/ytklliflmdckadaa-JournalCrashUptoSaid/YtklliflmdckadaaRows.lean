/-
  No cell of these rows narrows 'for every input' (looked for: loops, veiled, ifaces, maps, wideKeys, modest, calm, conditions, laid).
  DERIVED. THE GIVEN ROWS OF THIS SEAT. 3 by the template 'for every input the law returns true; each argument reads behind the call as it read before'; 0 by the template 'total and deterministic' (their statements: YtklliflmdckadaaTotals.lean).
  GIVEN WITH THE SEED: the statements are not yours to turn. If you find one false, say at which input.
  Laid BY PROGRAM, IN A SANDBOX (cutbox-rows.mjs): the forced cells as the released guide's own fill.sh prints them over the translation 6cebf2792911e502… (all of the seat's roots in one cut). By AI agents, Wed Nov 11 2026. No macro, syntax, notation, axiom, sorry.
-/
import Derived.Test.YtklliflmdckadaaChecked
import GoSem.Claim
import GoSem.ClaimJoined
import GoSem.ClaimMapViews
import Derived.JoinedTies
import Derived.KernelRfl
namespace Go.Proofs.Ytklliflmdckadaa
/- THE CELL 'sum', in the pinned program and in every row, IS THE sha256 OF THE DUMP (.gsa) THAT YtklliflmdckadaaProg.lean LOADS. Nothing in Lean hashes anything: it is a label: what it is worth is what the hold of that sum in a sandbox is worth. -/
noncomputable def Try.pinned : Pinned := { name := "ytklliflmdckadaa", sum := "6cebf2792911e502dbdaf4c5210766253b8f7600d8483ee7f5cae9f8946948e7", checked := Try.checked }
namespace Rows
def none {H : Type} : Left H := { results := [], args := [] }

/-- 'bolterlaw24.JournalCrash': WHATEVER THE INPUT: true; the input reads as it did. -/
def journalCrashSpec : ChangeSpec := { name := "journalCrash", fn := fun _ => fun
  | [d1, d2] => { results := [.lit (.bool true)], args := [d1, d2] }
  | _ => none }
def journalCrashRow : OpenClaim := { program := "ytklliflmdckadaa", sum := "6cebf2792911e502dbdaf4c5210766253b8f7600d8483ee7f5cae9f8946948e7", func := "bolter/bolterlaw24.JournalCrash", spec := "journalCrash", apart := false }
def JournalCrashSaid : Prop := journalCrashRow.holds Try.pinned (OpenSpec.ofChange journalCrashSpec)

/-- ITS FALSE NEIGHBOUR: 'it returns false'. Refute it at one input. -/
def journalCrashWrong : ChangeSpec := { name := "journalCrash", fn := fun _ => fun
  | [d1, d2] => { results := [.lit (.bool false)], args := [d1, d2] }
  | _ => none }
def JournalCrashWrongFalsely : Prop := journalCrashRow.holds Try.pinned (OpenSpec.ofChange journalCrashWrong)

/-- 'bolterlaw24.JournalNone': WHATEVER THE INPUT: true; the input reads as it did. -/
def journalNoneSpec : ChangeSpec := { name := "journalNone", fn := fun _ => fun
  | [d] => { results := [.lit (.bool true)], args := [d] }
  | _ => none }
def journalNoneRow : OpenClaim := { program := "ytklliflmdckadaa", sum := "6cebf2792911e502dbdaf4c5210766253b8f7600d8483ee7f5cae9f8946948e7", func := "bolter/bolterlaw24.JournalNone", spec := "journalNone", apart := false }
def JournalNoneSaid : Prop := journalNoneRow.holds Try.pinned (OpenSpec.ofChange journalNoneSpec)

/-- ITS FALSE NEIGHBOUR: 'it returns false'. Refute it at one input. -/
def journalNoneWrong : ChangeSpec := { name := "journalNone", fn := fun _ => fun
  | [d] => { results := [.lit (.bool false)], args := [d] }
  | _ => none }
def JournalNoneWrongFalsely : Prop := journalNoneRow.holds Try.pinned (OpenSpec.ofChange journalNoneWrong)

/-- 'bolterlaw24.JournalRecover': WHATEVER THE INPUT: true; the input reads as it did. -/
def journalRecoverSpec : ChangeSpec := { name := "journalRecover", fn := fun _ => fun
  | [d1, d2] => { results := [.lit (.bool true)], args := [d1, d2] }
  | _ => none }
def journalRecoverRow : OpenClaim := { program := "ytklliflmdckadaa", sum := "6cebf2792911e502dbdaf4c5210766253b8f7600d8483ee7f5cae9f8946948e7", func := "bolter/bolterlaw24.JournalRecover", spec := "journalRecover", apart := false }
def JournalRecoverSaid : Prop := journalRecoverRow.holds Try.pinned (OpenSpec.ofChange journalRecoverSpec)

/-- ITS FALSE NEIGHBOUR: 'it returns false'. Refute it at one input. -/
def journalRecoverWrong : ChangeSpec := { name := "journalRecover", fn := fun _ => fun
  | [d1, d2] => { results := [.lit (.bool false)], args := [d1, d2] }
  | _ => none }
def JournalRecoverWrongFalsely : Prop := journalRecoverRow.holds Try.pinned (OpenSpec.ofChange journalRecoverWrong)

/- THE SECOND FORM. 'bulk': how many values and letters a reading holds, each counted each time it is reached (what is shared counts as often as it is met; a slice's spare places count too). A statement '..UptoSaid' is the law's where the arguments, and the package variables that the reading takes, are together of bulk at most 1048576: NARROWER than '..Said'. Prove '..Said' where nothing that the law and all that it calls make is longer than what came in: it says more and counts as full. Else prove '..UptoSaid'. A law counts once. -/
mutual
def uptoBulk {H : Type} : DataW H → Nat
  | .lit (.string bytes) => bytes.length + 1
  | .lit _ => 1
  | .nil => 1
  | .ptr d => uptoBulk d + 1
  | .slice elems spare => uptoBulkAll elems + uptoBulkAll spare + 1
  | .agg parts => uptoBulkAll parts + 1
  | .iface _ d => uptoBulk d + 1
  | .map entries => uptoBulkEntries entries + 1
  | .held _ => 1
def uptoBulkAll {H : Type} : List (DataW H) → Nat
  | [] => 0
  | d :: r => uptoBulk d + uptoBulkAll r
def uptoBulkEntries {H : Type} : List (Lit × DataW H) → Nat
  | [] => 0
  | x :: r => uptoBulkEntry x + uptoBulkEntries r
def uptoBulkEntry {H : Type} : Lit × DataW H → Nat
  | (.string bytes, d) => bytes.length + uptoBulk d + 1
  | (_, d) => uptoBulk d + 1
 end
def uptoSmall : (H : Type) → List (DataW H) → Bool := fun _ ds => decide (uptoBulkAll ds ≤ 1048576)
def OpenSpec.upto (s : _root_.Go.ChangeSpec) : _root_.Go.OpenSpec := { _root_.Go.OpenSpec.ofChange s with cond := some uptoSmall }

/-- 'bolterlaw24.JournalCrash', WHERE WHAT IT READS IS OF BULK AT MOST 1048576: true; the input reads as it did. -/
def journalCrashUptoRow : OpenClaim := { program := "ytklliflmdckadaa", sum := "6cebf2792911e502dbdaf4c5210766253b8f7600d8483ee7f5cae9f8946948e7", func := "bolter/bolterlaw24.JournalCrash", spec := "journalCrash", apart := false, narrowed := true }
def JournalCrashUptoSaid : Prop := journalCrashUptoRow.holds Try.pinned (OpenSpec.upto journalCrashSpec)

/-- 'bolterlaw24.JournalNone', WHERE WHAT IT READS IS OF BULK AT MOST 1048576: true; the input reads as it did. -/
def journalNoneUptoRow : OpenClaim := { program := "ytklliflmdckadaa", sum := "6cebf2792911e502dbdaf4c5210766253b8f7600d8483ee7f5cae9f8946948e7", func := "bolter/bolterlaw24.JournalNone", spec := "journalNone", apart := false, narrowed := true }
def JournalNoneUptoSaid : Prop := journalNoneUptoRow.holds Try.pinned (OpenSpec.upto journalNoneSpec)

/-- 'bolterlaw24.JournalRecover', WHERE WHAT IT READS IS OF BULK AT MOST 1048576: true; the input reads as it did. -/
def journalRecoverUptoRow : OpenClaim := { program := "ytklliflmdckadaa", sum := "6cebf2792911e502dbdaf4c5210766253b8f7600d8483ee7f5cae9f8946948e7", func := "bolter/bolterlaw24.JournalRecover", spec := "journalRecover", apart := false, narrowed := true }
def JournalRecoverUptoSaid : Prop := journalRecoverUptoRow.holds Try.pinned (OpenSpec.upto journalRecoverSpec)

end Rows
end Go.Proofs.Ytklliflmdckadaa
