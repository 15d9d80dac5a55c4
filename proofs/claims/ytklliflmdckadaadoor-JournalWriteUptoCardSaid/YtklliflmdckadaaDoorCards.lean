/-
  DERIVED. GIVEN WITH THE SEED: THE CARDS: each row of YtklliflmdckadaaDoorRows.lean that lists a variable, with what it lists TIED to the program's text (the seventh form; the later family's looks); each row that meets fmt, with fmt's text TOLD by the authors' own Lean function (tested against real Go, not proved from fmt's source: count such statements apart). THE CARD IS WHAT COUNTS. Prove the row's statement (the work); the ties are given (YtklliflmdckadaaDoorTie.lean); close each card by the builder's one call (the guide's Derived/Test/ToyasCard.lean, 'card_holds'). Laid BY PROGRAM, IN A SANDBOX (cutbox-door.mjs). By AI agents, Wed Nov 11 2026. No macro, syntax, notation, axiom, sorry.
-/
import Derived.Test.YtklliflmdckadaaDoorRows
import GoSem.ClaimSeven
namespace Go.Proofs.YtklliflmdckadaaDoor
namespace Rows

/-- THE TIED CARD OF 'bolterlaw24.JournalWrite'. -/
def journalWriteCard : Claim7 := { stood := { row := journalWriteRow, standIns := [], harness := (true, "814a2ef9ba7d2863e675473e973e9dda331dd888f4949a2c7a652b78ff9cca47"), looks := true }, kinds := [], alts := [], laidByText := true, laidKinds := [.handle], laidTests := true, laidLooks := .later }
def JournalWriteCardSaid : Prop := Claim7.holds Tryd.pinned (.plain (OpenSpec.ofChange journalWriteSpec)) journalWriteCard

/-- THE SECOND FORM's CARD OF 'bolterlaw24.JournalWrite'. -/
def journalWriteUptoCard : Claim7 := { stood := { row := journalWriteUptoRow, standIns := [], harness := (true, "814a2ef9ba7d2863e675473e973e9dda331dd888f4949a2c7a652b78ff9cca47"), looks := true }, kinds := [], alts := [], laidByText := true, laidKinds := [.handle], laidTests := true, laidLooks := .later }
def JournalWriteUptoCardSaid : Prop := Claim7.holds Tryd.pinned (.plain (OpenSpec.upto journalWriteSpec)) journalWriteUptoCard
end Rows
end Go.Proofs.YtklliflmdckadaaDoor
