/-
  DERIVED. GIVEN WITH THE SEED: THE CARDS: each row of YtlobjcokopfbkaaDoorRows.lean that lists a variable, with what it lists TIED to the program's text (the seventh form; the later family's looks); each row that meets fmt, with fmt's text TOLD by the authors' own Lean function (tested against real Go, not proved from fmt's source: count such statements apart). THE CARD IS WHAT COUNTS. Prove the row's statement (the work); the ties are given (YtlobjcokopfbkaaDoorTie.lean); close each card by the builder's one call (the guide's Derived/Test/ToyasCard.lean, 'card_holds'). Laid BY PROGRAM, IN A SANDBOX (cutbox-door.mjs). By AI agents, Wed Nov 11 2026. No macro, syntax, notation, axiom, sorry.
-/
import Derived.Test.YtlobjcokopfbkaaDoorRows
import GoSem.ClaimSeven
namespace Go.Proofs.YtlobjcokopfbkaaDoor
namespace Rows

/-- THE TIED CARD OF 'bolterlaw09.StreamFull'. -/
def streamFullCard : Claim7 := { stood := { row := streamFullRow, standIns := [], harness := (true, "6cdfcc8152e61e9be5eddb07269b590142a39c052336a696704835d8a4ad5cd0"), looks := true }, kinds := [], alts := [], laidByText := true, laidKinds := [.handle], laidTests := true, laidLooks := .later }
def StreamFullCardSaid : Prop := Claim7.holds Tryd.pinned (.plain (OpenSpec.ofChange streamFullSpec)) streamFullCard

/-- THE TIED CARD OF 'bolterlaw09.StreamPart'. -/
def streamPartCard : Claim7 := { stood := { row := streamPartRow, standIns := [], harness := (true, "6cdfcc8152e61e9be5eddb07269b590142a39c052336a696704835d8a4ad5cd0"), looks := true }, kinds := [], alts := [], laidByText := true, laidKinds := [.handle], laidTests := true, laidLooks := .later }
def StreamPartCardSaid : Prop := Claim7.holds Tryd.pinned (.plain (OpenSpec.ofChange streamPartSpec)) streamPartCard

/-- THE TIED CARD OF 'bolterlaw09.StreamChain'. -/
def streamChainCard : Claim7 := { stood := { row := streamChainRow, standIns := [], harness := (true, "6cdfcc8152e61e9be5eddb07269b590142a39c052336a696704835d8a4ad5cd0"), looks := true }, kinds := [], alts := [], laidByText := true, laidKinds := [.handle], laidTests := true, laidLooks := .later }
def StreamChainCardSaid : Prop := Claim7.holds Tryd.pinned (.plain (OpenSpec.ofChange streamChainSpec)) streamChainCard

/-- THE TIED CARD OF 'bolterlaw09.StreamOther'. -/
def streamOtherCard : Claim7 := { stood := { row := streamOtherRow, standIns := [], harness := (true, "6cdfcc8152e61e9be5eddb07269b590142a39c052336a696704835d8a4ad5cd0"), looks := true }, kinds := [], alts := [], laidByText := true, laidKinds := [.handle], laidTests := true, laidLooks := .later }
def StreamOtherCardSaid : Prop := Claim7.holds Tryd.pinned (.plain (OpenSpec.ofChange streamOtherSpec)) streamOtherCard

/-- THE SECOND FORM's CARD OF 'bolterlaw09.StreamFull'. -/
def streamFullUptoCard : Claim7 := { stood := { row := streamFullUptoRow, standIns := [], harness := (true, "6cdfcc8152e61e9be5eddb07269b590142a39c052336a696704835d8a4ad5cd0"), looks := true }, kinds := [], alts := [], laidByText := true, laidKinds := [.handle], laidTests := true, laidLooks := .later }
def StreamFullUptoCardSaid : Prop := Claim7.holds Tryd.pinned (.plain (OpenSpec.upto streamFullSpec)) streamFullUptoCard

/-- THE SECOND FORM's CARD OF 'bolterlaw09.StreamPart'. -/
def streamPartUptoCard : Claim7 := { stood := { row := streamPartUptoRow, standIns := [], harness := (true, "6cdfcc8152e61e9be5eddb07269b590142a39c052336a696704835d8a4ad5cd0"), looks := true }, kinds := [], alts := [], laidByText := true, laidKinds := [.handle], laidTests := true, laidLooks := .later }
def StreamPartUptoCardSaid : Prop := Claim7.holds Tryd.pinned (.plain (OpenSpec.upto streamPartSpec)) streamPartUptoCard

/-- THE SECOND FORM's CARD OF 'bolterlaw09.StreamChain'. -/
def streamChainUptoCard : Claim7 := { stood := { row := streamChainUptoRow, standIns := [], harness := (true, "6cdfcc8152e61e9be5eddb07269b590142a39c052336a696704835d8a4ad5cd0"), looks := true }, kinds := [], alts := [], laidByText := true, laidKinds := [.handle], laidTests := true, laidLooks := .later }
def StreamChainUptoCardSaid : Prop := Claim7.holds Tryd.pinned (.plain (OpenSpec.upto streamChainSpec)) streamChainUptoCard

/-- THE SECOND FORM's CARD OF 'bolterlaw09.StreamOther'. -/
def streamOtherUptoCard : Claim7 := { stood := { row := streamOtherUptoRow, standIns := [], harness := (true, "6cdfcc8152e61e9be5eddb07269b590142a39c052336a696704835d8a4ad5cd0"), looks := true }, kinds := [], alts := [], laidByText := true, laidKinds := [.handle], laidTests := true, laidLooks := .later }
def StreamOtherUptoCardSaid : Prop := Claim7.holds Tryd.pinned (.plain (OpenSpec.upto streamOtherSpec)) streamOtherUptoCard
end Rows
end Go.Proofs.YtlobjcokopfbkaaDoor
