/-
  DERIVED. GIVEN WITH THE SEED: THE CARDS: each row of YthijdhenekmojaaGreatDoorRows.lean that lists a variable, with what it lists TIED to the program's text (the seventh form; the later family's looks); each row that meets fmt, with fmt's text TOLD by the authors' own Lean function (tested against real Go, not proved from fmt's source: count such statements apart). THE CARD IS WHAT COUNTS. Prove the row's statement (the work); the ties are given (YthijdhenekmojaaGreatDoorTie.lean); close each card by the builder's one call (the guide's Derived/Test/ToyasCard.lean, 'card_holds'). Laid BY PROGRAM, IN A SANDBOX (cutbox-door.mjs). By AI agents, Wed Nov 11 2026. No macro, syntax, notation, axiom, sorry.
-/
import Derived.Test.YthijdhenekmojaaGreatDoorRows
import GoSem.ClaimSeven
namespace Go.Proofs.YthijdhenekmojaaGreatDoor
namespace Rows

/-- THE TIED CARD OF 'intagliolaw22.ModelPlays'. -/
def modelPlaysCard : Claim7 := { stood := { row := modelPlaysRow, standIns := [], harness := (true, "8d347664f1f96eb7c02f65409699b57d6190431c9c45f6d4d149e3e95ba42267"), looks := true }, kinds := [], alts := [], laidByText := true, laidKinds := [.handle], laidTests := true, laidLooks := .later }
def ModelPlaysCardSaid : Prop := Claim7.holds Tryz.pinned (.plain (OpenSpec.ofChange modelPlaysSpec)) modelPlaysCard

/-- THE TIED CARD OF 'intagliolaw22.ModelReads'. -/
def modelReadsCard : Claim7 := { stood := { row := modelReadsRow, standIns := [], harness := (true, "8d347664f1f96eb7c02f65409699b57d6190431c9c45f6d4d149e3e95ba42267"), looks := true }, kinds := [], alts := [], laidByText := true, laidKinds := [.handle], laidTests := true, laidLooks := .later }
def ModelReadsCardSaid : Prop := Claim7.holds Tryz.pinned (.plain (OpenSpec.ofChange modelReadsSpec)) modelReadsCard

/-- THE TIED CARD OF 'intagliolaw22.ModelNil'. -/
def modelNilCard : Claim7 := { stood := { row := modelNilRow, standIns := [], harness := (true, "8d347664f1f96eb7c02f65409699b57d6190431c9c45f6d4d149e3e95ba42267"), looks := true }, kinds := [], alts := [], laidByText := true, laidKinds := [.handle], laidTests := true, laidLooks := .later }
def ModelNilCardSaid : Prop := Claim7.holds Tryz.pinned (.plain (OpenSpec.ofChange modelNilSpec)) modelNilCard

/-- THE TIED CARD OF 'intagliolaw22.ModelOne'. -/
def modelOneCard : Claim7 := { stood := { row := modelOneRow, standIns := [], harness := (true, "8d347664f1f96eb7c02f65409699b57d6190431c9c45f6d4d149e3e95ba42267"), looks := true }, kinds := [], alts := [], laidByText := true, laidKinds := [.handle], laidTests := true, laidLooks := .later }
def ModelOneCardSaid : Prop := Claim7.holds Tryz.pinned (.plain (OpenSpec.ofChange modelOneSpec)) modelOneCard

/-- THE SECOND FORM's CARD OF 'intagliolaw22.ModelPlays'. -/
def modelPlaysUptoCard : Claim7 := { stood := { row := modelPlaysUptoRow, standIns := [], harness := (true, "8d347664f1f96eb7c02f65409699b57d6190431c9c45f6d4d149e3e95ba42267"), looks := true }, kinds := [], alts := [], laidByText := true, laidKinds := [.handle], laidTests := true, laidLooks := .later }
def ModelPlaysUptoCardSaid : Prop := Claim7.holds Tryz.pinned (.plain (OpenSpec.upto modelPlaysSpec)) modelPlaysUptoCard

/-- THE SECOND FORM's CARD OF 'intagliolaw22.ModelReads'. -/
def modelReadsUptoCard : Claim7 := { stood := { row := modelReadsUptoRow, standIns := [], harness := (true, "8d347664f1f96eb7c02f65409699b57d6190431c9c45f6d4d149e3e95ba42267"), looks := true }, kinds := [], alts := [], laidByText := true, laidKinds := [.handle], laidTests := true, laidLooks := .later }
def ModelReadsUptoCardSaid : Prop := Claim7.holds Tryz.pinned (.plain (OpenSpec.upto modelReadsSpec)) modelReadsUptoCard

/-- THE SECOND FORM's CARD OF 'intagliolaw22.ModelNil'. -/
def modelNilUptoCard : Claim7 := { stood := { row := modelNilUptoRow, standIns := [], harness := (true, "8d347664f1f96eb7c02f65409699b57d6190431c9c45f6d4d149e3e95ba42267"), looks := true }, kinds := [], alts := [], laidByText := true, laidKinds := [.handle], laidTests := true, laidLooks := .later }
def ModelNilUptoCardSaid : Prop := Claim7.holds Tryz.pinned (.plain (OpenSpec.upto modelNilSpec)) modelNilUptoCard

/-- THE SECOND FORM's CARD OF 'intagliolaw22.ModelOne'. -/
def modelOneUptoCard : Claim7 := { stood := { row := modelOneUptoRow, standIns := [], harness := (true, "8d347664f1f96eb7c02f65409699b57d6190431c9c45f6d4d149e3e95ba42267"), looks := true }, kinds := [], alts := [], laidByText := true, laidKinds := [.handle], laidTests := true, laidLooks := .later }
def ModelOneUptoCardSaid : Prop := Claim7.holds Tryz.pinned (.plain (OpenSpec.upto modelOneSpec)) modelOneUptoCard
end Rows
end Go.Proofs.YthijdhenekmojaaGreatDoor
