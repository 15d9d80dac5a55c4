/-
  No cell of these rows narrows 'for every input' (looked for: loops, veiled, ifaces, maps, wideKeys, modest, calm, conditions, laid).
  DERIVED. THE GIVEN ROWS OF THIS SEAT. 4 by the template 'for every input the law returns true; each argument reads behind the call as it read before'; 0 by the template 'total and deterministic' (their statements: YtkicgmhbcldbbaaTotals.lean).
  GIVEN WITH THE SEED: the statements are not yours to turn. If you find one false, say at which input.
  Laid BY PROGRAM, IN A SANDBOX (cutbox-rows.mjs): the forced cells as the released guide's own fill.sh prints them over the translation b6e0c6905d72d3e4… (all of the seat's roots in one cut). By AI agents, Wed Nov 11 2026. No macro, syntax, notation, axiom, sorry.
-/
import Derived.Test.YtkicgmhbcldbbaaChecked
import GoSem.Claim
import GoSem.ClaimJoined
import GoSem.ClaimMapViews
import Derived.JoinedTies
import Derived.KernelRfl
namespace Go.Proofs.Ytkicgmhbcldbbaa
/- THE CELL 'sum', in the pinned program and in every row, IS THE sha256 OF THE DUMP (.gsa) THAT YtkicgmhbcldbbaaProg.lean LOADS. Nothing in Lean hashes anything: it is a label: what it is worth is what the hold of that sum in a sandbox is worth. -/
noncomputable def Try.pinned : Pinned := { name := "ytkicgmhbcldbbaa", sum := "b6e0c6905d72d3e46175bafb262e3cf650be5e41d98fd347d249314a6272a79d", checked := Try.checked }
namespace Rows
def none {H : Type} : Left H := { results := [], args := [] }

/-- 'bolterlaw23.DeviceKeeps': WHATEVER THE INPUT: true; the input reads as it did. -/
def deviceKeepsSpec : ChangeSpec := { name := "deviceKeeps", fn := fun _ => fun
  | [d1, d2, d3] => { results := [.lit (.bool true)], args := [d1, d2, d3] }
  | _ => none }
def deviceKeepsRow : OpenClaim := { program := "ytkicgmhbcldbbaa", sum := "b6e0c6905d72d3e46175bafb262e3cf650be5e41d98fd347d249314a6272a79d", func := "bolter/bolterlaw23.DeviceKeeps", spec := "deviceKeeps", apart := false }
def DeviceKeepsSaid : Prop := deviceKeepsRow.holds Try.pinned (OpenSpec.ofChange deviceKeepsSpec)

/-- ITS FALSE NEIGHBOUR: 'it returns false'. Refute it at one input. -/
def deviceKeepsWrong : ChangeSpec := { name := "deviceKeeps", fn := fun _ => fun
  | [d1, d2, d3] => { results := [.lit (.bool false)], args := [d1, d2, d3] }
  | _ => none }
def DeviceKeepsWrongFalsely : Prop := deviceKeepsRow.holds Try.pinned (OpenSpec.ofChange deviceKeepsWrong)

/-- 'bolterlaw23.DeviceOwn': WHATEVER THE INPUT: true; the input reads as it did. -/
def deviceOwnSpec : ChangeSpec := { name := "deviceOwn", fn := fun _ => fun
  | [d1, d2] => { results := [.lit (.bool true)], args := [d1, d2] }
  | _ => none }
def deviceOwnRow : OpenClaim := { program := "ytkicgmhbcldbbaa", sum := "b6e0c6905d72d3e46175bafb262e3cf650be5e41d98fd347d249314a6272a79d", func := "bolter/bolterlaw23.DeviceOwn", spec := "deviceOwn", apart := false }
def DeviceOwnSaid : Prop := deviceOwnRow.holds Try.pinned (OpenSpec.ofChange deviceOwnSpec)

/-- ITS FALSE NEIGHBOUR: 'it returns false'. Refute it at one input. -/
def deviceOwnWrong : ChangeSpec := { name := "deviceOwn", fn := fun _ => fun
  | [d1, d2] => { results := [.lit (.bool false)], args := [d1, d2] }
  | _ => none }
def DeviceOwnWrongFalsely : Prop := deviceOwnRow.holds Try.pinned (OpenSpec.ofChange deviceOwnWrong)

/-- 'bolterlaw23.DeviceBegins': WHATEVER THE INPUT: true; the input reads as it did. -/
def deviceBeginsSpec : ChangeSpec := { name := "deviceBegins", fn := fun _ => fun
  | [d1, d2] => { results := [.lit (.bool true)], args := [d1, d2] }
  | _ => none }
def deviceBeginsRow : OpenClaim := { program := "ytkicgmhbcldbbaa", sum := "b6e0c6905d72d3e46175bafb262e3cf650be5e41d98fd347d249314a6272a79d", func := "bolter/bolterlaw23.DeviceBegins", spec := "deviceBegins", apart := false }
def DeviceBeginsSaid : Prop := deviceBeginsRow.holds Try.pinned (OpenSpec.ofChange deviceBeginsSpec)

/-- ITS FALSE NEIGHBOUR: 'it returns false'. Refute it at one input. -/
def deviceBeginsWrong : ChangeSpec := { name := "deviceBegins", fn := fun _ => fun
  | [d1, d2] => { results := [.lit (.bool false)], args := [d1, d2] }
  | _ => none }
def DeviceBeginsWrongFalsely : Prop := deviceBeginsRow.holds Try.pinned (OpenSpec.ofChange deviceBeginsWrong)

/-- 'bolterlaw23.DeviceScript': WHATEVER THE INPUT: true; the input reads as it did. -/
def deviceScriptSpec : ChangeSpec := { name := "deviceScript", fn := fun _ => fun
  | [d] => { results := [.lit (.bool true)], args := [d] }
  | _ => none }
def deviceScriptRow : OpenClaim := { program := "ytkicgmhbcldbbaa", sum := "b6e0c6905d72d3e46175bafb262e3cf650be5e41d98fd347d249314a6272a79d", func := "bolter/bolterlaw23.DeviceScript", spec := "deviceScript", apart := false }
def DeviceScriptSaid : Prop := deviceScriptRow.holds Try.pinned (OpenSpec.ofChange deviceScriptSpec)

/-- ITS FALSE NEIGHBOUR: 'it returns false'. Refute it at one input. -/
def deviceScriptWrong : ChangeSpec := { name := "deviceScript", fn := fun _ => fun
  | [d] => { results := [.lit (.bool false)], args := [d] }
  | _ => none }
def DeviceScriptWrongFalsely : Prop := deviceScriptRow.holds Try.pinned (OpenSpec.ofChange deviceScriptWrong)

/- THE SECOND FORM. 'bulk': how many values and letters a reading holds, each counted each time it is reached (what is shared counts as often as it is met; a slice's spare places count too). A statement '..UptoSaid' is the law's where the arguments, and the package variables that the reading takes, are together of bulk at most 1048576: NARROWER than '..Said'. Prove '..Said' where nothing that the law and all that it calls make is longer than what came in: it says more and counts as full. Else prove '..UptoSaid'. A law counts once. -/
mutual
def uptoBulk {H : Type} : DataW H → Nat
  | .lit (.string bytes) => bytes.length + 1
  | .lit _ => 1
  | .nil => 1
  | .ptr d => uptoBulk d + 1
  | .slice elems spare => uptoBulkAll elems + uptoBulkAll spare + 1
  | .agg parts => uptoBulkAll parts + 1
  | .iface _ d => uptoBulk d + 1
  | .map entries => uptoBulkEntries entries + 1
  | .held _ => 1
def uptoBulkAll {H : Type} : List (DataW H) → Nat
  | [] => 0
  | d :: r => uptoBulk d + uptoBulkAll r
def uptoBulkEntries {H : Type} : List (Lit × DataW H) → Nat
  | [] => 0
  | x :: r => uptoBulkEntry x + uptoBulkEntries r
def uptoBulkEntry {H : Type} : Lit × DataW H → Nat
  | (.string bytes, d) => bytes.length + uptoBulk d + 1
  | (_, d) => uptoBulk d + 1
 end
def uptoSmall : (H : Type) → List (DataW H) → Bool := fun _ ds => decide (uptoBulkAll ds ≤ 1048576)
def OpenSpec.upto (s : _root_.Go.ChangeSpec) : _root_.Go.OpenSpec := { _root_.Go.OpenSpec.ofChange s with cond := some uptoSmall }

/-- 'bolterlaw23.DeviceKeeps', WHERE WHAT IT READS IS OF BULK AT MOST 1048576: true; the input reads as it did. -/
def deviceKeepsUptoRow : OpenClaim := { program := "ytkicgmhbcldbbaa", sum := "b6e0c6905d72d3e46175bafb262e3cf650be5e41d98fd347d249314a6272a79d", func := "bolter/bolterlaw23.DeviceKeeps", spec := "deviceKeeps", apart := false, narrowed := true }
def DeviceKeepsUptoSaid : Prop := deviceKeepsUptoRow.holds Try.pinned (OpenSpec.upto deviceKeepsSpec)

/-- 'bolterlaw23.DeviceOwn', WHERE WHAT IT READS IS OF BULK AT MOST 1048576: true; the input reads as it did. -/
def deviceOwnUptoRow : OpenClaim := { program := "ytkicgmhbcldbbaa", sum := "b6e0c6905d72d3e46175bafb262e3cf650be5e41d98fd347d249314a6272a79d", func := "bolter/bolterlaw23.DeviceOwn", spec := "deviceOwn", apart := false, narrowed := true }
def DeviceOwnUptoSaid : Prop := deviceOwnUptoRow.holds Try.pinned (OpenSpec.upto deviceOwnSpec)

/-- 'bolterlaw23.DeviceBegins', WHERE WHAT IT READS IS OF BULK AT MOST 1048576: true; the input reads as it did. -/
def deviceBeginsUptoRow : OpenClaim := { program := "ytkicgmhbcldbbaa", sum := "b6e0c6905d72d3e46175bafb262e3cf650be5e41d98fd347d249314a6272a79d", func := "bolter/bolterlaw23.DeviceBegins", spec := "deviceBegins", apart := false, narrowed := true }
def DeviceBeginsUptoSaid : Prop := deviceBeginsUptoRow.holds Try.pinned (OpenSpec.upto deviceBeginsSpec)

/-- 'bolterlaw23.DeviceScript', WHERE WHAT IT READS IS OF BULK AT MOST 1048576: true; the input reads as it did. -/
def deviceScriptUptoRow : OpenClaim := { program := "ytkicgmhbcldbbaa", sum := "b6e0c6905d72d3e46175bafb262e3cf650be5e41d98fd347d249314a6272a79d", func := "bolter/bolterlaw23.DeviceScript", spec := "deviceScript", apart := false, narrowed := true }
def DeviceScriptUptoSaid : Prop := deviceScriptUptoRow.holds Try.pinned (OpenSpec.upto deviceScriptSpec)

end Rows
end Go.Proofs.Ytkicgmhbcldbbaa
