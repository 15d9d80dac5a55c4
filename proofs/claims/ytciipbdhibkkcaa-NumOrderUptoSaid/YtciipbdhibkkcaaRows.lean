/-
  No cell of these rows narrows 'for every input' (looked for: loops, veiled, ifaces, maps, wideKeys, modest, calm, conditions, laid).
  DERIVED. THE GIVEN ROWS OF THIS SEAT. 5 by the template 'for every input the law returns true; each argument reads behind the call as it read before'; 0 by the template 'total and deterministic' (their statements: YtciipbdhibkkcaaTotals.lean).
  GIVEN WITH THE SEED: the statements are not yours to turn. If you find one false, say at which input.
  Laid BY PROGRAM, IN A SANDBOX (cutbox-rows.mjs): the forced cells as the released guide's own fill.sh prints them over the translation d5a9dcad296e5890… (all of the seat's roots in one cut). By AI agents, Wed Nov 11 2026. No macro, syntax, notation, axiom, sorry.
-/
import Derived.Test.YtciipbdhibkkcaaChecked
import GoSem.Claim
import GoSem.ClaimJoined
import GoSem.ClaimMapViews
import Derived.JoinedTies
import Derived.KernelRfl
namespace Go.Proofs.Ytciipbdhibkkcaa
/- THE CELL 'sum', in the pinned program and in every row, IS THE sha256 OF THE DUMP (.gsa) THAT YtciipbdhibkkcaaProg.lean LOADS. Nothing in Lean hashes anything: it is a label: what it is worth is what the hold of that sum in a sandbox is worth. -/
noncomputable def Try.pinned : Pinned := { name := "ytciipbdhibkkcaa", sum := "d5a9dcad296e58902ea171e8162355e465588bdf7922d0c2faf1fc5aafe07569", checked := Try.checked }
namespace Rows
def none {H : Type} : Left H := { results := [], args := [] }

/-- 'bolterlaw01.NumBits': WHATEVER THE INPUT: true; the input reads as it did. -/
def numBitsSpec : ChangeSpec := { name := "numBits", fn := fun _ => fun
  | [d1, d2, d3] => { results := [.lit (.bool true)], args := [d1, d2, d3] }
  | _ => none }
def numBitsRow : OpenClaim := { program := "ytciipbdhibkkcaa", sum := "d5a9dcad296e58902ea171e8162355e465588bdf7922d0c2faf1fc5aafe07569", func := "bolter/bolterlaw01.NumBits", spec := "numBits", apart := false }
def NumBitsSaid : Prop := numBitsRow.holds Try.pinned (OpenSpec.ofChange numBitsSpec)

/-- ITS FALSE NEIGHBOUR: 'it returns false'. Refute it at one input. -/
def numBitsWrong : ChangeSpec := { name := "numBits", fn := fun _ => fun
  | [d1, d2, d3] => { results := [.lit (.bool false)], args := [d1, d2, d3] }
  | _ => none }
def NumBitsWrongFalsely : Prop := numBitsRow.holds Try.pinned (OpenSpec.ofChange numBitsWrong)

/-- 'bolterlaw01.NumPut': WHATEVER THE INPUT: true; the input reads as it did. -/
def numPutSpec : ChangeSpec := { name := "numPut", fn := fun _ => fun
  | [d1, d2, d3] => { results := [.lit (.bool true)], args := [d1, d2, d3] }
  | _ => none }
def numPutRow : OpenClaim := { program := "ytciipbdhibkkcaa", sum := "d5a9dcad296e58902ea171e8162355e465588bdf7922d0c2faf1fc5aafe07569", func := "bolter/bolterlaw01.NumPut", spec := "numPut", apart := false }
def NumPutSaid : Prop := numPutRow.holds Try.pinned (OpenSpec.ofChange numPutSpec)

/-- ITS FALSE NEIGHBOUR: 'it returns false'. Refute it at one input. -/
def numPutWrong : ChangeSpec := { name := "numPut", fn := fun _ => fun
  | [d1, d2, d3] => { results := [.lit (.bool false)], args := [d1, d2, d3] }
  | _ => none }
def NumPutWrongFalsely : Prop := numPutRow.holds Try.pinned (OpenSpec.ofChange numPutWrong)

/-- 'bolterlaw01.NumOrder': WHATEVER THE INPUT: true; the input reads as it did. -/
def numOrderSpec : ChangeSpec := { name := "numOrder", fn := fun _ => fun
  | [d1, d2, d3, d4] => { results := [.lit (.bool true)], args := [d1, d2, d3, d4] }
  | _ => none }
def numOrderRow : OpenClaim := { program := "ytciipbdhibkkcaa", sum := "d5a9dcad296e58902ea171e8162355e465588bdf7922d0c2faf1fc5aafe07569", func := "bolter/bolterlaw01.NumOrder", spec := "numOrder", apart := false }
def NumOrderSaid : Prop := numOrderRow.holds Try.pinned (OpenSpec.ofChange numOrderSpec)

/-- ITS FALSE NEIGHBOUR: 'it returns false'. Refute it at one input. -/
def numOrderWrong : ChangeSpec := { name := "numOrder", fn := fun _ => fun
  | [d1, d2, d3, d4] => { results := [.lit (.bool false)], args := [d1, d2, d3, d4] }
  | _ => none }
def NumOrderWrongFalsely : Prop := numOrderRow.holds Try.pinned (OpenSpec.ofChange numOrderWrong)

/-- 'bolterlaw01.NumGet': WHATEVER THE INPUT: true; the input reads as it did. -/
def numGetSpec : ChangeSpec := { name := "numGet", fn := fun _ => fun
  | [d1, d2] => { results := [.lit (.bool true)], args := [d1, d2] }
  | _ => none }
def numGetRow : OpenClaim := { program := "ytciipbdhibkkcaa", sum := "d5a9dcad296e58902ea171e8162355e465588bdf7922d0c2faf1fc5aafe07569", func := "bolter/bolterlaw01.NumGet", spec := "numGet", unfollowed := true, recurses := true, apart := false }
def NumGetSaid : Prop := numGetRow.holds Try.pinned (OpenSpec.ofChange numGetSpec)

/-- ITS FALSE NEIGHBOUR: 'it returns false'. Refute it at one input. -/
def numGetWrong : ChangeSpec := { name := "numGet", fn := fun _ => fun
  | [d1, d2] => { results := [.lit (.bool false)], args := [d1, d2] }
  | _ => none }
def NumGetWrongFalsely : Prop := numGetRow.holds Try.pinned (OpenSpec.ofChange numGetWrong)

/-- 'bolterlaw01.NumBack': WHATEVER THE INPUT: true; the input reads as it did. -/
def numBackSpec : ChangeSpec := { name := "numBack", fn := fun _ => fun
  | [d1, d2, d3] => { results := [.lit (.bool true)], args := [d1, d2, d3] }
  | _ => none }
def numBackRow : OpenClaim := { program := "ytciipbdhibkkcaa", sum := "d5a9dcad296e58902ea171e8162355e465588bdf7922d0c2faf1fc5aafe07569", func := "bolter/bolterlaw01.NumBack", spec := "numBack", apart := false }
def NumBackSaid : Prop := numBackRow.holds Try.pinned (OpenSpec.ofChange numBackSpec)

/-- ITS FALSE NEIGHBOUR: 'it returns false'. Refute it at one input. -/
def numBackWrong : ChangeSpec := { name := "numBack", fn := fun _ => fun
  | [d1, d2, d3] => { results := [.lit (.bool false)], args := [d1, d2, d3] }
  | _ => none }
def NumBackWrongFalsely : Prop := numBackRow.holds Try.pinned (OpenSpec.ofChange numBackWrong)

/- THE SECOND FORM. 'bulk': how many values and letters a reading holds, each counted each time it is reached (what is shared counts as often as it is met; a slice's spare places count too). A statement '..UptoSaid' is the law's where the arguments, and the package variables that the reading takes, are together of bulk at most 1048576: NARROWER than '..Said'. Prove '..Said' where nothing that the law and all that it calls make is longer than what came in: it says more and counts as full. Else prove '..UptoSaid'. A law counts once. -/
mutual
def uptoBulk {H : Type} : DataW H → Nat
  | .lit (.string bytes) => bytes.length + 1
  | .lit _ => 1
  | .nil => 1
  | .ptr d => uptoBulk d + 1
  | .slice elems spare => uptoBulkAll elems + uptoBulkAll spare + 1
  | .agg parts => uptoBulkAll parts + 1
  | .iface _ d => uptoBulk d + 1
  | .map entries => uptoBulkEntries entries + 1
  | .held _ => 1
def uptoBulkAll {H : Type} : List (DataW H) → Nat
  | [] => 0
  | d :: r => uptoBulk d + uptoBulkAll r
def uptoBulkEntries {H : Type} : List (Lit × DataW H) → Nat
  | [] => 0
  | x :: r => uptoBulkEntry x + uptoBulkEntries r
def uptoBulkEntry {H : Type} : Lit × DataW H → Nat
  | (.string bytes, d) => bytes.length + uptoBulk d + 1
  | (_, d) => uptoBulk d + 1
 end
def uptoSmall : (H : Type) → List (DataW H) → Bool := fun _ ds => decide (uptoBulkAll ds ≤ 1048576)
def OpenSpec.upto (s : _root_.Go.ChangeSpec) : _root_.Go.OpenSpec := { _root_.Go.OpenSpec.ofChange s with cond := some uptoSmall }

/-- 'bolterlaw01.NumBits', WHERE WHAT IT READS IS OF BULK AT MOST 1048576: true; the input reads as it did. -/
def numBitsUptoRow : OpenClaim := { program := "ytciipbdhibkkcaa", sum := "d5a9dcad296e58902ea171e8162355e465588bdf7922d0c2faf1fc5aafe07569", func := "bolter/bolterlaw01.NumBits", spec := "numBits", apart := false, narrowed := true }
def NumBitsUptoSaid : Prop := numBitsUptoRow.holds Try.pinned (OpenSpec.upto numBitsSpec)

/-- 'bolterlaw01.NumPut', WHERE WHAT IT READS IS OF BULK AT MOST 1048576: true; the input reads as it did. -/
def numPutUptoRow : OpenClaim := { program := "ytciipbdhibkkcaa", sum := "d5a9dcad296e58902ea171e8162355e465588bdf7922d0c2faf1fc5aafe07569", func := "bolter/bolterlaw01.NumPut", spec := "numPut", apart := false, narrowed := true }
def NumPutUptoSaid : Prop := numPutUptoRow.holds Try.pinned (OpenSpec.upto numPutSpec)

/-- 'bolterlaw01.NumOrder', WHERE WHAT IT READS IS OF BULK AT MOST 1048576: true; the input reads as it did. -/
def numOrderUptoRow : OpenClaim := { program := "ytciipbdhibkkcaa", sum := "d5a9dcad296e58902ea171e8162355e465588bdf7922d0c2faf1fc5aafe07569", func := "bolter/bolterlaw01.NumOrder", spec := "numOrder", apart := false, narrowed := true }
def NumOrderUptoSaid : Prop := numOrderUptoRow.holds Try.pinned (OpenSpec.upto numOrderSpec)

/-- 'bolterlaw01.NumGet', WHERE WHAT IT READS IS OF BULK AT MOST 1048576: true; the input reads as it did. -/
def numGetUptoRow : OpenClaim := { program := "ytciipbdhibkkcaa", sum := "d5a9dcad296e58902ea171e8162355e465588bdf7922d0c2faf1fc5aafe07569", func := "bolter/bolterlaw01.NumGet", spec := "numGet", unfollowed := true, recurses := true, apart := false, narrowed := true }
def NumGetUptoSaid : Prop := numGetUptoRow.holds Try.pinned (OpenSpec.upto numGetSpec)

/-- 'bolterlaw01.NumBack', WHERE WHAT IT READS IS OF BULK AT MOST 1048576: true; the input reads as it did. -/
def numBackUptoRow : OpenClaim := { program := "ytciipbdhibkkcaa", sum := "d5a9dcad296e58902ea171e8162355e465588bdf7922d0c2faf1fc5aafe07569", func := "bolter/bolterlaw01.NumBack", spec := "numBack", apart := false, narrowed := true }
def NumBackUptoSaid : Prop := numBackUptoRow.holds Try.pinned (OpenSpec.upto numBackSpec)

end Rows
end Go.Proofs.Ytciipbdhibkkcaa
