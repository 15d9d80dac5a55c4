/-
  DERIVED. GIVEN WITH THE SEED: THE CARDS: each row of YtecpginkacaebaaDoorRows.lean that lists a variable, with what it lists TIED to the program's text (the seventh form; the later family's looks); each row that meets fmt, with fmt's text TOLD by the authors' own Lean function (tested against real Go, not proved from fmt's source: count such statements apart). THE CARD IS WHAT COUNTS. Prove the row's statement (the work); the ties are given (YtecpginkacaebaaDoorTie.lean); close each card by the builder's one call (the guide's Derived/Test/ToyasCard.lean, 'card_holds'). Laid BY PROGRAM, IN A SANDBOX (cutbox-door.mjs). By AI agents, Wed Nov 11 2026. No macro, syntax, notation, axiom, sorry.
-/
import Derived.Test.YtecpginkacaebaaDoorRows
import GoSem.ClaimSeven
namespace Go.Proofs.YtecpginkacaebaaDoor
namespace Rows

/-- THE TIED CARD OF 'bolterlaw26.PendingFull'. -/
def pendingFullCard : Claim7 := { stood := { row := pendingFullRow, standIns := [], harness := (true, "42859ed0929054e36a683a7dc28ccaa7e506970943cf6099bafb47deba42be08"), looks := true }, kinds := [], alts := [], laidByText := true, laidKinds := [.handle], laidTests := true, laidLooks := .later }
def PendingFullCardSaid : Prop := Claim7.holds Tryd.pinned (.plain (OpenSpec.ofChange pendingFullSpec)) pendingFullCard

/-- THE TIED CARD OF 'bolterlaw26.PendingScript'. -/
def pendingScriptCard : Claim7 := { stood := { row := pendingScriptRow, standIns := [], harness := (true, "42859ed0929054e36a683a7dc28ccaa7e506970943cf6099bafb47deba42be08"), looks := true }, kinds := [], alts := [], laidByText := true, laidKinds := [.handle], laidTests := true, laidLooks := .later }
def PendingScriptCardSaid : Prop := Claim7.holds Tryd.pinned (.plain (OpenSpec.ofChange pendingScriptSpec)) pendingScriptCard

/-- THE SECOND FORM's CARD OF 'bolterlaw26.PendingFull'. -/
def pendingFullUptoCard : Claim7 := { stood := { row := pendingFullUptoRow, standIns := [], harness := (true, "42859ed0929054e36a683a7dc28ccaa7e506970943cf6099bafb47deba42be08"), looks := true }, kinds := [], alts := [], laidByText := true, laidKinds := [.handle], laidTests := true, laidLooks := .later }
def PendingFullUptoCardSaid : Prop := Claim7.holds Tryd.pinned (.plain (OpenSpec.upto pendingFullSpec)) pendingFullUptoCard

/-- THE SECOND FORM's CARD OF 'bolterlaw26.PendingScript'. -/
def pendingScriptUptoCard : Claim7 := { stood := { row := pendingScriptUptoRow, standIns := [], harness := (true, "42859ed0929054e36a683a7dc28ccaa7e506970943cf6099bafb47deba42be08"), looks := true }, kinds := [], alts := [], laidByText := true, laidKinds := [.handle], laidTests := true, laidLooks := .later }
def PendingScriptUptoCardSaid : Prop := Claim7.holds Tryd.pinned (.plain (OpenSpec.upto pendingScriptSpec)) pendingScriptUptoCard
end Rows
end Go.Proofs.YtecpginkacaebaaDoor
