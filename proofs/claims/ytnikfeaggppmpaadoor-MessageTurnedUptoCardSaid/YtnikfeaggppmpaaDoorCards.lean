/-
  DERIVED. GIVEN WITH THE SEED: THE CARDS: each row of YtnikfeaggppmpaaDoorRows.lean that lists a variable, with what it lists TIED to the program's text (the seventh form; the later family's looks); each row that meets fmt, with fmt's text TOLD by the authors' own Lean function (tested against real Go, not proved from fmt's source: count such statements apart). THE CARD IS WHAT COUNTS. Prove the row's statement (the work); the ties are given (YtnikfeaggppmpaaDoorTie.lean); close each card by the builder's one call (the guide's Derived/Test/ToyasCard.lean, 'card_holds'). Laid BY PROGRAM, IN A SANDBOX (cutbox-door.mjs). By AI agents, Wed Nov 11 2026. No macro, syntax, notation, axiom, sorry.
-/
import Derived.Test.YtnikfeaggppmpaaDoorRows
import GoSem.ClaimSeven
namespace Go.Proofs.YtnikfeaggppmpaaDoor
namespace Rows

/-- THE TIED CARD OF 'bolterlaw05.MessageRead'. -/
def messageReadCard : Claim7 := { stood := { row := messageReadRow, standIns := [], harness := (true, "e87adf4b054fcf6c9deb5712bc187320466be9703f4bc3dcfa89babaea4c8036"), looks := true }, kinds := [], alts := [], laidByText := true, laidKinds := [.handle], laidTests := true, laidLooks := .later }
def MessageReadCardSaid : Prop := Claim7.holds Tryd.pinned (.plain (OpenSpec.ofChange messageReadSpec)) messageReadCard

/-- THE TIED CARD OF 'bolterlaw05.MessageTurned'. -/
def messageTurnedCard : Claim7 := { stood := { row := messageTurnedRow, standIns := [], harness := (true, "e87adf4b054fcf6c9deb5712bc187320466be9703f4bc3dcfa89babaea4c8036"), looks := true }, kinds := [], alts := [], laidByText := true, laidKinds := [.handle], laidTests := true, laidLooks := .later }
def MessageTurnedCardSaid : Prop := Claim7.holds Tryd.pinned (.plain (OpenSpec.ofChange messageTurnedSpec)) messageTurnedCard

/-- THE TIED CARD OF 'bolterlaw05.MessageBack'. -/
def messageBackCard : Claim7 := { stood := { row := messageBackRow, standIns := [], harness := (true, "e87adf4b054fcf6c9deb5712bc187320466be9703f4bc3dcfa89babaea4c8036"), looks := true }, kinds := [], alts := [], laidByText := true, laidKinds := [.handle], laidTests := true, laidLooks := .later }
def MessageBackCardSaid : Prop := Claim7.holds Tryd.pinned (.plain (OpenSpec.ofChange messageBackSpec)) messageBackCard

/-- THE SECOND FORM's CARD OF 'bolterlaw05.MessageRead'. -/
def messageReadUptoCard : Claim7 := { stood := { row := messageReadUptoRow, standIns := [], harness := (true, "e87adf4b054fcf6c9deb5712bc187320466be9703f4bc3dcfa89babaea4c8036"), looks := true }, kinds := [], alts := [], laidByText := true, laidKinds := [.handle], laidTests := true, laidLooks := .later }
def MessageReadUptoCardSaid : Prop := Claim7.holds Tryd.pinned (.plain (OpenSpec.upto messageReadSpec)) messageReadUptoCard

/-- THE SECOND FORM's CARD OF 'bolterlaw05.MessageTurned'. -/
def messageTurnedUptoCard : Claim7 := { stood := { row := messageTurnedUptoRow, standIns := [], harness := (true, "e87adf4b054fcf6c9deb5712bc187320466be9703f4bc3dcfa89babaea4c8036"), looks := true }, kinds := [], alts := [], laidByText := true, laidKinds := [.handle], laidTests := true, laidLooks := .later }
def MessageTurnedUptoCardSaid : Prop := Claim7.holds Tryd.pinned (.plain (OpenSpec.upto messageTurnedSpec)) messageTurnedUptoCard

/-- THE SECOND FORM's CARD OF 'bolterlaw05.MessageBack'. -/
def messageBackUptoCard : Claim7 := { stood := { row := messageBackUptoRow, standIns := [], harness := (true, "e87adf4b054fcf6c9deb5712bc187320466be9703f4bc3dcfa89babaea4c8036"), looks := true }, kinds := [], alts := [], laidByText := true, laidKinds := [.handle], laidTests := true, laidLooks := .later }
def MessageBackUptoCardSaid : Prop := Claim7.holds Tryd.pinned (.plain (OpenSpec.upto messageBackSpec)) messageBackUptoCard
end Rows
end Go.Proofs.YtnikfeaggppmpaaDoor
