/-
  No cell of these rows narrows 'for every input' (looked for: loops, veiled, ifaces, maps, wideKeys, modest, calm, conditions, laid).
  DERIVED. THE GIVEN ROWS OF THIS SEAT. 5 by the template 'for every input the law returns true; each argument reads behind the call as it read before'; 0 by the template 'total and deterministic' (their statements: YtpjdemddflnleaaTotals.lean).
  GIVEN WITH THE SEED: the statements are not yours to turn. If you find one false, say at which input.
  Laid BY PROGRAM, IN A SANDBOX (cutbox-rows.mjs): the forced cells as the released guide's own fill.sh prints them over the translation cc81f97dad49e0c5… (all of the seat's roots in one cut). By AI agents, Wed Nov 11 2026. No macro, syntax, notation, axiom, sorry.
-/
import Derived.Test.YtpjdemddflnleaaChecked
import GoSem.Claim
import GoSem.ClaimJoined
import GoSem.ClaimMapViews
import Derived.JoinedTies
import Derived.KernelRfl
namespace Go.Proofs.Ytpjdemddflnleaa
/- THE CELL 'sum', in the pinned program and in every row, IS THE sha256 OF THE DUMP (.gsa) THAT YtpjdemddflnleaaProg.lean LOADS. Nothing in Lean hashes anything: it is a label: what it is worth is what the hold of that sum in a sandbox is worth. -/
noncomputable def Try.pinned : Pinned := { name := "ytpjdemddflnleaa", sum := "cc81f97dad49e0c58ca7c5b2f2afbda7936363e3d1c28248def9b5c8bb387edd", checked := Try.checked }
namespace Rows
def none {H : Type} : Left H := { results := [], args := [] }

/-- 'bolterlaw07.SoaNames': WHATEVER THE INPUT: true; the input reads as it did. -/
def soaNamesSpec : ChangeSpec := { name := "soaNames", fn := fun _ => fun
  | [d1, d2] => { results := [.lit (.bool true)], args := [d1, d2] }
  | _ => none }
def soaNamesRow : OpenClaim := { program := "ytpjdemddflnleaa", sum := "cc81f97dad49e0c58ca7c5b2f2afbda7936363e3d1c28248def9b5c8bb387edd", func := "bolter/bolterlaw07.SoaNames", spec := "soaNames", apart := false }
def SoaNamesSaid : Prop := soaNamesRow.holds Try.pinned (OpenSpec.ofChange soaNamesSpec)

/-- ITS FALSE NEIGHBOUR: 'it returns false'. Refute it at one input. -/
def soaNamesWrong : ChangeSpec := { name := "soaNames", fn := fun _ => fun
  | [d1, d2] => { results := [.lit (.bool false)], args := [d1, d2] }
  | _ => none }
def SoaNamesWrongFalsely : Prop := soaNamesRow.holds Try.pinned (OpenSpec.ofChange soaNamesWrong)

/-- 'bolterlaw07.SoaTwo': WHATEVER THE INPUT: true; the input reads as it did. -/
def soaTwoSpec : ChangeSpec := { name := "soaTwo", fn := fun _ => fun
  | [d1, d2, d3, d4] => { results := [.lit (.bool true)], args := [d1, d2, d3, d4] }
  | _ => none }
def soaTwoRow : OpenClaim := { program := "ytpjdemddflnleaa", sum := "cc81f97dad49e0c58ca7c5b2f2afbda7936363e3d1c28248def9b5c8bb387edd", func := "bolter/bolterlaw07.SoaTwo", spec := "soaTwo", inPlace := ["internal/abi.NoEscape"], apart := false }
def SoaTwoSaid : Prop := soaTwoRow.holds Try.pinned (OpenSpec.ofChange soaTwoSpec)

/-- ITS FALSE NEIGHBOUR: 'it returns false'. Refute it at one input. -/
def soaTwoWrong : ChangeSpec := { name := "soaTwo", fn := fun _ => fun
  | [d1, d2, d3, d4] => { results := [.lit (.bool false)], args := [d1, d2, d3, d4] }
  | _ => none }
def SoaTwoWrongFalsely : Prop := soaTwoRow.holds Try.pinned (OpenSpec.ofChange soaTwoWrong)

/-- 'bolterlaw07.SoaParse': WHATEVER THE INPUT: true; the input reads as it did. -/
def soaParseSpec : ChangeSpec := { name := "soaParse", fn := fun _ => fun
  | [d] => { results := [.lit (.bool true)], args := [d] }
  | _ => none }
def soaParseRow : OpenClaim := { program := "ytpjdemddflnleaa", sum := "cc81f97dad49e0c58ca7c5b2f2afbda7936363e3d1c28248def9b5c8bb387edd", func := "bolter/bolterlaw07.SoaParse", spec := "soaParse", apart := false }
def SoaParseSaid : Prop := soaParseRow.holds Try.pinned (OpenSpec.ofChange soaParseSpec)

/-- ITS FALSE NEIGHBOUR: 'it returns false'. Refute it at one input. -/
def soaParseWrong : ChangeSpec := { name := "soaParse", fn := fun _ => fun
  | [d] => { results := [.lit (.bool false)], args := [d] }
  | _ => none }
def SoaParseWrongFalsely : Prop := soaParseRow.holds Try.pinned (OpenSpec.ofChange soaParseWrong)

/-- 'bolterlaw07.SoaOf': WHATEVER THE INPUT: true; the input reads as it did. -/
def soaOfSpec : ChangeSpec := { name := "soaOf", fn := fun _ => fun
  | [d1, d2, d3] => { results := [.lit (.bool true)], args := [d1, d2, d3] }
  | _ => none }
def soaOfRow : OpenClaim := { program := "ytpjdemddflnleaa", sum := "cc81f97dad49e0c58ca7c5b2f2afbda7936363e3d1c28248def9b5c8bb387edd", func := "bolter/bolterlaw07.SoaOf", spec := "soaOf", inPlace := ["internal/abi.NoEscape"], apart := false }
def SoaOfSaid : Prop := soaOfRow.holds Try.pinned (OpenSpec.ofChange soaOfSpec)

/-- ITS FALSE NEIGHBOUR: 'it returns false'. Refute it at one input. -/
def soaOfWrong : ChangeSpec := { name := "soaOf", fn := fun _ => fun
  | [d1, d2, d3] => { results := [.lit (.bool false)], args := [d1, d2, d3] }
  | _ => none }
def SoaOfWrongFalsely : Prop := soaOfRow.holds Try.pinned (OpenSpec.ofChange soaOfWrong)

/-- 'bolterlaw07.SoaData': WHATEVER THE INPUT: true; the input reads as it did. -/
def soaDataSpec : ChangeSpec := { name := "soaData", fn := fun _ => fun
  | [d1, d2, d3, d4, d5, d6] => { results := [.lit (.bool true)], args := [d1, d2, d3, d4, d5, d6] }
  | _ => none }
def soaDataRow : OpenClaim := { program := "ytpjdemddflnleaa", sum := "cc81f97dad49e0c58ca7c5b2f2afbda7936363e3d1c28248def9b5c8bb387edd", func := "bolter/bolterlaw07.SoaData", spec := "soaData", inPlace := ["internal/abi.NoEscape"], apart := false }
def SoaDataSaid : Prop := soaDataRow.holds Try.pinned (OpenSpec.ofChange soaDataSpec)

/-- ITS FALSE NEIGHBOUR: 'it returns false'. Refute it at one input. -/
def soaDataWrong : ChangeSpec := { name := "soaData", fn := fun _ => fun
  | [d1, d2, d3, d4, d5, d6] => { results := [.lit (.bool false)], args := [d1, d2, d3, d4, d5, d6] }
  | _ => none }
def SoaDataWrongFalsely : Prop := soaDataRow.holds Try.pinned (OpenSpec.ofChange soaDataWrong)

/- THE SECOND FORM. 'bulk': how many values and letters a reading holds, each counted each time it is reached (what is shared counts as often as it is met; a slice's spare places count too). A statement '..UptoSaid' is the law's where the arguments, and the package variables that the reading takes, are together of bulk at most 1048576: NARROWER than '..Said'. Prove '..Said' where nothing that the law and all that it calls make is longer than what came in: it says more and counts as full. Else prove '..UptoSaid'. A law counts once. -/
mutual
def uptoBulk {H : Type} : DataW H → Nat
  | .lit (.string bytes) => bytes.length + 1
  | .lit _ => 1
  | .nil => 1
  | .ptr d => uptoBulk d + 1
  | .slice elems spare => uptoBulkAll elems + uptoBulkAll spare + 1
  | .agg parts => uptoBulkAll parts + 1
  | .iface _ d => uptoBulk d + 1
  | .map entries => uptoBulkEntries entries + 1
  | .held _ => 1
def uptoBulkAll {H : Type} : List (DataW H) → Nat
  | [] => 0
  | d :: r => uptoBulk d + uptoBulkAll r
def uptoBulkEntries {H : Type} : List (Lit × DataW H) → Nat
  | [] => 0
  | x :: r => uptoBulkEntry x + uptoBulkEntries r
def uptoBulkEntry {H : Type} : Lit × DataW H → Nat
  | (.string bytes, d) => bytes.length + uptoBulk d + 1
  | (_, d) => uptoBulk d + 1
 end
def uptoSmall : (H : Type) → List (DataW H) → Bool := fun _ ds => decide (uptoBulkAll ds ≤ 1048576)
def OpenSpec.upto (s : _root_.Go.ChangeSpec) : _root_.Go.OpenSpec := { _root_.Go.OpenSpec.ofChange s with cond := some uptoSmall }

/-- 'bolterlaw07.SoaNames', WHERE WHAT IT READS IS OF BULK AT MOST 1048576: true; the input reads as it did. -/
def soaNamesUptoRow : OpenClaim := { program := "ytpjdemddflnleaa", sum := "cc81f97dad49e0c58ca7c5b2f2afbda7936363e3d1c28248def9b5c8bb387edd", func := "bolter/bolterlaw07.SoaNames", spec := "soaNames", apart := false, narrowed := true }
def SoaNamesUptoSaid : Prop := soaNamesUptoRow.holds Try.pinned (OpenSpec.upto soaNamesSpec)

/-- 'bolterlaw07.SoaTwo', WHERE WHAT IT READS IS OF BULK AT MOST 1048576: true; the input reads as it did. -/
def soaTwoUptoRow : OpenClaim := { program := "ytpjdemddflnleaa", sum := "cc81f97dad49e0c58ca7c5b2f2afbda7936363e3d1c28248def9b5c8bb387edd", func := "bolter/bolterlaw07.SoaTwo", spec := "soaTwo", inPlace := ["internal/abi.NoEscape"], apart := false, narrowed := true }
def SoaTwoUptoSaid : Prop := soaTwoUptoRow.holds Try.pinned (OpenSpec.upto soaTwoSpec)

/-- 'bolterlaw07.SoaParse', WHERE WHAT IT READS IS OF BULK AT MOST 1048576: true; the input reads as it did. -/
def soaParseUptoRow : OpenClaim := { program := "ytpjdemddflnleaa", sum := "cc81f97dad49e0c58ca7c5b2f2afbda7936363e3d1c28248def9b5c8bb387edd", func := "bolter/bolterlaw07.SoaParse", spec := "soaParse", apart := false, narrowed := true }
def SoaParseUptoSaid : Prop := soaParseUptoRow.holds Try.pinned (OpenSpec.upto soaParseSpec)

/-- 'bolterlaw07.SoaOf', WHERE WHAT IT READS IS OF BULK AT MOST 1048576: true; the input reads as it did. -/
def soaOfUptoRow : OpenClaim := { program := "ytpjdemddflnleaa", sum := "cc81f97dad49e0c58ca7c5b2f2afbda7936363e3d1c28248def9b5c8bb387edd", func := "bolter/bolterlaw07.SoaOf", spec := "soaOf", inPlace := ["internal/abi.NoEscape"], apart := false, narrowed := true }
def SoaOfUptoSaid : Prop := soaOfUptoRow.holds Try.pinned (OpenSpec.upto soaOfSpec)

/-- 'bolterlaw07.SoaData', WHERE WHAT IT READS IS OF BULK AT MOST 1048576: true; the input reads as it did. -/
def soaDataUptoRow : OpenClaim := { program := "ytpjdemddflnleaa", sum := "cc81f97dad49e0c58ca7c5b2f2afbda7936363e3d1c28248def9b5c8bb387edd", func := "bolter/bolterlaw07.SoaData", spec := "soaData", inPlace := ["internal/abi.NoEscape"], apart := false, narrowed := true }
def SoaDataUptoSaid : Prop := soaDataUptoRow.holds Try.pinned (OpenSpec.upto soaDataSpec)

end Rows
end Go.Proofs.Ytpjdemddflnleaa
