/-
  DERIVED. GIVEN WITH THE SEED: THE CARDS: each row of YtpcaijopodhdgaaGreatDoorRows.lean that lists a variable, with what it lists TIED to the program's text (the seventh form; the later family's looks); each row that meets fmt, with fmt's text TOLD by the authors' own Lean function (tested against real Go, not proved from fmt's source: count such statements apart). THE CARD IS WHAT COUNTS. Prove the row's statement (the work); the ties are given (YtpcaijopodhdgaaGreatDoorTie.lean); close each card by the builder's one call (the guide's Derived/Test/ToyasCard.lean, 'card_holds'). Laid BY PROGRAM, IN A SANDBOX (cutbox-door.mjs). By AI agents, Wed Nov 11 2026. No macro, syntax, notation, axiom, sorry.
-/
import Derived.Test.YtpcaijopodhdgaaGreatDoorRows
import GoSem.ClaimSeven
namespace Go.Proofs.YtpcaijopodhdgaaGreatDoor
namespace Rows

/-- THE TIED CARD OF 'intagliolaw17.LargeNil'. -/
def largeNilCard : Claim7 := { stood := { row := largeNilRow, standIns := [], harness := (true, "2ad09f47c0227872460db4db1deeda4920d901420758bec9e4ecd7fda6f56044"), looks := true }, kinds := [], alts := [], laidByText := true, laidKinds := [.handle], laidTests := true, laidLooks := .later }
def LargeNilCardSaid : Prop := Claim7.holds Tryz.pinned (.plain (OpenSpec.ofChange largeNilSpec)) largeNilCard

/-- THE TIED CARD OF 'intagliolaw17.LargeAlone'. -/
def largeAloneCard : Claim7 := { stood := { row := largeAloneRow, standIns := [], harness := (true, "2ad09f47c0227872460db4db1deeda4920d901420758bec9e4ecd7fda6f56044"), looks := true }, kinds := [], alts := [], laidByText := true, laidKinds := [.handle], laidTests := true, laidLooks := .later }
def LargeAloneCardSaid : Prop := Claim7.holds Tryz.pinned (.plain (OpenSpec.ofChange largeAloneSpec)) largeAloneCard

/-- THE TIED CARD OF 'intagliolaw17.LargeLast'. -/
def largeLastCard : Claim7 := { stood := { row := largeLastRow, standIns := [], harness := (true, "2ad09f47c0227872460db4db1deeda4920d901420758bec9e4ecd7fda6f56044"), looks := true }, kinds := [], alts := [], laidByText := true, laidKinds := [.handle], laidTests := true, laidLooks := .later }
def LargeLastCardSaid : Prop := Claim7.holds Tryz.pinned (.plain (OpenSpec.ofChange largeLastSpec)) largeLastCard

/-- THE TIED CARD OF 'intagliolaw17.LargeApart'. -/
def largeApartCard : Claim7 := { stood := { row := largeApartRow, standIns := [], harness := (true, "2ad09f47c0227872460db4db1deeda4920d901420758bec9e4ecd7fda6f56044"), looks := true }, kinds := [], alts := [], laidByText := true, laidKinds := [.handle], laidTests := true, laidLooks := .later }
def LargeApartCardSaid : Prop := Claim7.holds Tryz.pinned (.plain (OpenSpec.ofChange largeApartSpec)) largeApartCard

/-- THE TIED CARD OF 'intagliolaw17.LargeWhole'. -/
def largeWholeCard : Claim7 := { stood := { row := largeWholeRow, standIns := [], harness := (true, "2ad09f47c0227872460db4db1deeda4920d901420758bec9e4ecd7fda6f56044"), looks := true }, kinds := [], alts := [], laidByText := true, laidKinds := [.handle], laidTests := true, laidLooks := .later }
def LargeWholeCardSaid : Prop := Claim7.holds Tryz.pinned (.plain (OpenSpec.ofChange largeWholeSpec)) largeWholeCard

/-- THE TIED CARD OF 'intagliolaw17.LargePlays'. -/
def largePlaysCard : Claim7 := { stood := { row := largePlaysRow, standIns := [], harness := (true, "2ad09f47c0227872460db4db1deeda4920d901420758bec9e4ecd7fda6f56044"), looks := true }, kinds := [], alts := [], laidByText := true, laidKinds := [.handle], laidTests := true, laidLooks := .later }
def LargePlaysCardSaid : Prop := Claim7.holds Tryz.pinned (.plain (OpenSpec.ofChange largePlaysSpec)) largePlaysCard

/-- THE SECOND FORM's CARD OF 'intagliolaw17.LargeNil'. -/
def largeNilUptoCard : Claim7 := { stood := { row := largeNilUptoRow, standIns := [], harness := (true, "2ad09f47c0227872460db4db1deeda4920d901420758bec9e4ecd7fda6f56044"), looks := true }, kinds := [], alts := [], laidByText := true, laidKinds := [.handle], laidTests := true, laidLooks := .later }
def LargeNilUptoCardSaid : Prop := Claim7.holds Tryz.pinned (.plain (OpenSpec.upto largeNilSpec)) largeNilUptoCard

/-- THE SECOND FORM's CARD OF 'intagliolaw17.LargeAlone'. -/
def largeAloneUptoCard : Claim7 := { stood := { row := largeAloneUptoRow, standIns := [], harness := (true, "2ad09f47c0227872460db4db1deeda4920d901420758bec9e4ecd7fda6f56044"), looks := true }, kinds := [], alts := [], laidByText := true, laidKinds := [.handle], laidTests := true, laidLooks := .later }
def LargeAloneUptoCardSaid : Prop := Claim7.holds Tryz.pinned (.plain (OpenSpec.upto largeAloneSpec)) largeAloneUptoCard

/-- THE SECOND FORM's CARD OF 'intagliolaw17.LargeLast'. -/
def largeLastUptoCard : Claim7 := { stood := { row := largeLastUptoRow, standIns := [], harness := (true, "2ad09f47c0227872460db4db1deeda4920d901420758bec9e4ecd7fda6f56044"), looks := true }, kinds := [], alts := [], laidByText := true, laidKinds := [.handle], laidTests := true, laidLooks := .later }
def LargeLastUptoCardSaid : Prop := Claim7.holds Tryz.pinned (.plain (OpenSpec.upto largeLastSpec)) largeLastUptoCard

/-- THE SECOND FORM's CARD OF 'intagliolaw17.LargeApart'. -/
def largeApartUptoCard : Claim7 := { stood := { row := largeApartUptoRow, standIns := [], harness := (true, "2ad09f47c0227872460db4db1deeda4920d901420758bec9e4ecd7fda6f56044"), looks := true }, kinds := [], alts := [], laidByText := true, laidKinds := [.handle], laidTests := true, laidLooks := .later }
def LargeApartUptoCardSaid : Prop := Claim7.holds Tryz.pinned (.plain (OpenSpec.upto largeApartSpec)) largeApartUptoCard

/-- THE SECOND FORM's CARD OF 'intagliolaw17.LargeWhole'. -/
def largeWholeUptoCard : Claim7 := { stood := { row := largeWholeUptoRow, standIns := [], harness := (true, "2ad09f47c0227872460db4db1deeda4920d901420758bec9e4ecd7fda6f56044"), looks := true }, kinds := [], alts := [], laidByText := true, laidKinds := [.handle], laidTests := true, laidLooks := .later }
def LargeWholeUptoCardSaid : Prop := Claim7.holds Tryz.pinned (.plain (OpenSpec.upto largeWholeSpec)) largeWholeUptoCard

/-- THE SECOND FORM's CARD OF 'intagliolaw17.LargePlays'. -/
def largePlaysUptoCard : Claim7 := { stood := { row := largePlaysUptoRow, standIns := [], harness := (true, "2ad09f47c0227872460db4db1deeda4920d901420758bec9e4ecd7fda6f56044"), looks := true }, kinds := [], alts := [], laidByText := true, laidKinds := [.handle], laidTests := true, laidLooks := .later }
def LargePlaysUptoCardSaid : Prop := Claim7.holds Tryz.pinned (.plain (OpenSpec.upto largePlaysSpec)) largePlaysUptoCard
end Rows
end Go.Proofs.YtpcaijopodhdgaaGreatDoor
