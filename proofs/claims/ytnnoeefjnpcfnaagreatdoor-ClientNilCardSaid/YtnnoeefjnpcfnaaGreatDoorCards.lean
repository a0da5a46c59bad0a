/-
  DERIVED. GIVEN WITH THE SEED: THE CARDS: each row of YtnnoeefjnpcfnaaGreatDoorRows.lean that lists a variable, with what it lists TIED to the program's text (the seventh form; the later family's looks); each row that meets fmt, with fmt's text TOLD by the authors' own Lean function (tested against real Go, not proved from fmt's source: count such statements apart). THE CARD IS WHAT COUNTS. Prove the row's statement (the work); the ties are given (YtnnoeefjnpcfnaaGreatDoorTie.lean); close each card by the builder's one call (the guide's Derived/Test/ToyasCard.lean, 'card_holds'). Laid BY PROGRAM, IN A SANDBOX (cutbox-door.mjs). By AI agents, Wed Nov 11 2026. No macro, syntax, notation, axiom, sorry.
-/
import Derived.Test.YtnnoeefjnpcfnaaGreatDoorRows
import GoSem.ClaimSeven
namespace Go.Proofs.YtnnoeefjnpcfnaaGreatDoor
namespace Rows

/-- THE TIED CARD OF 'intagliolaw21.ClientFields'. -/
def clientFieldsCard : Claim7 := { stood := { row := clientFieldsRow, standIns := [], harness := (true, "d979a83d6dd5d2faa8ca2e2275cc46e12689529f224f72f46d93a660fdeaae28"), looks := true }, kinds := [], alts := [], laidByText := true, laidKinds := [.handle], laidTests := true, laidLooks := .later }
def ClientFieldsCardSaid : Prop := Claim7.holds Tryz.pinned (.plain (OpenSpec.ofChange clientFieldsSpec)) clientFieldsCard

/-- THE TIED CARD OF 'intagliolaw21.ClientAlone'. -/
def clientAloneCard : Claim7 := { stood := { row := clientAloneRow, standIns := [], harness := (true, "d979a83d6dd5d2faa8ca2e2275cc46e12689529f224f72f46d93a660fdeaae28"), looks := true }, kinds := [], alts := [], laidByText := true, laidKinds := [.handle], laidTests := true, laidLooks := .later }
def ClientAloneCardSaid : Prop := Claim7.holds Tryz.pinned (.plain (OpenSpec.ofChange clientAloneSpec)) clientAloneCard

/-- THE TIED CARD OF 'intagliolaw21.ClientKeeps'. -/
def clientKeepsCard : Claim7 := { stood := { row := clientKeepsRow, standIns := [], harness := (true, "d979a83d6dd5d2faa8ca2e2275cc46e12689529f224f72f46d93a660fdeaae28"), looks := true }, kinds := [], alts := [], laidByText := true, laidKinds := [.handle], laidTests := true, laidLooks := .later }
def ClientKeepsCardSaid : Prop := Claim7.holds Tryz.pinned (.plain (OpenSpec.ofChange clientKeepsSpec)) clientKeepsCard

/-- THE TIED CARD OF 'intagliolaw21.ClientBlocks'. -/
def clientBlocksCard : Claim7 := { stood := { row := clientBlocksRow, standIns := [], harness := (true, "d979a83d6dd5d2faa8ca2e2275cc46e12689529f224f72f46d93a660fdeaae28"), looks := true }, kinds := [], alts := [], laidByText := true, laidKinds := [.handle], laidTests := true, laidLooks := .later }
def ClientBlocksCardSaid : Prop := Claim7.holds Tryz.pinned (.plain (OpenSpec.ofChange clientBlocksSpec)) clientBlocksCard

/-- THE TIED CARD OF 'intagliolaw21.ClientSlots'. -/
def clientSlotsCard : Claim7 := { stood := { row := clientSlotsRow, standIns := [], harness := (true, "d979a83d6dd5d2faa8ca2e2275cc46e12689529f224f72f46d93a660fdeaae28"), looks := true }, kinds := [], alts := [], laidByText := true, laidKinds := [.handle], laidTests := true, laidLooks := .later }
def ClientSlotsCardSaid : Prop := Claim7.holds Tryz.pinned (.plain (OpenSpec.ofChange clientSlotsSpec)) clientSlotsCard

/-- THE TIED CARD OF 'intagliolaw21.ClientNil'. -/
def clientNilCard : Claim7 := { stood := { row := clientNilRow, standIns := [], harness := (true, "d979a83d6dd5d2faa8ca2e2275cc46e12689529f224f72f46d93a660fdeaae28"), looks := true }, kinds := [], alts := [], laidByText := true, laidKinds := [.handle], laidTests := true, laidLooks := .later }
def ClientNilCardSaid : Prop := Claim7.holds Tryz.pinned (.plain (OpenSpec.ofChange clientNilSpec)) clientNilCard

/-- THE SECOND FORM's CARD OF 'intagliolaw21.ClientFields'. -/
def clientFieldsUptoCard : Claim7 := { stood := { row := clientFieldsUptoRow, standIns := [], harness := (true, "d979a83d6dd5d2faa8ca2e2275cc46e12689529f224f72f46d93a660fdeaae28"), looks := true }, kinds := [], alts := [], laidByText := true, laidKinds := [.handle], laidTests := true, laidLooks := .later }
def ClientFieldsUptoCardSaid : Prop := Claim7.holds Tryz.pinned (.plain (OpenSpec.upto clientFieldsSpec)) clientFieldsUptoCard

/-- THE SECOND FORM's CARD OF 'intagliolaw21.ClientAlone'. -/
def clientAloneUptoCard : Claim7 := { stood := { row := clientAloneUptoRow, standIns := [], harness := (true, "d979a83d6dd5d2faa8ca2e2275cc46e12689529f224f72f46d93a660fdeaae28"), looks := true }, kinds := [], alts := [], laidByText := true, laidKinds := [.handle], laidTests := true, laidLooks := .later }
def ClientAloneUptoCardSaid : Prop := Claim7.holds Tryz.pinned (.plain (OpenSpec.upto clientAloneSpec)) clientAloneUptoCard

/-- THE SECOND FORM's CARD OF 'intagliolaw21.ClientKeeps'. -/
def clientKeepsUptoCard : Claim7 := { stood := { row := clientKeepsUptoRow, standIns := [], harness := (true, "d979a83d6dd5d2faa8ca2e2275cc46e12689529f224f72f46d93a660fdeaae28"), looks := true }, kinds := [], alts := [], laidByText := true, laidKinds := [.handle], laidTests := true, laidLooks := .later }
def ClientKeepsUptoCardSaid : Prop := Claim7.holds Tryz.pinned (.plain (OpenSpec.upto clientKeepsSpec)) clientKeepsUptoCard

/-- THE SECOND FORM's CARD OF 'intagliolaw21.ClientBlocks'. -/
def clientBlocksUptoCard : Claim7 := { stood := { row := clientBlocksUptoRow, standIns := [], harness := (true, "d979a83d6dd5d2faa8ca2e2275cc46e12689529f224f72f46d93a660fdeaae28"), looks := true }, kinds := [], alts := [], laidByText := true, laidKinds := [.handle], laidTests := true, laidLooks := .later }
def ClientBlocksUptoCardSaid : Prop := Claim7.holds Tryz.pinned (.plain (OpenSpec.upto clientBlocksSpec)) clientBlocksUptoCard

/-- THE SECOND FORM's CARD OF 'intagliolaw21.ClientSlots'. -/
def clientSlotsUptoCard : Claim7 := { stood := { row := clientSlotsUptoRow, standIns := [], harness := (true, "d979a83d6dd5d2faa8ca2e2275cc46e12689529f224f72f46d93a660fdeaae28"), looks := true }, kinds := [], alts := [], laidByText := true, laidKinds := [.handle], laidTests := true, laidLooks := .later }
def ClientSlotsUptoCardSaid : Prop := Claim7.holds Tryz.pinned (.plain (OpenSpec.upto clientSlotsSpec)) clientSlotsUptoCard

/-- THE SECOND FORM's CARD OF 'intagliolaw21.ClientNil'. -/
def clientNilUptoCard : Claim7 := { stood := { row := clientNilUptoRow, standIns := [], harness := (true, "d979a83d6dd5d2faa8ca2e2275cc46e12689529f224f72f46d93a660fdeaae28"), looks := true }, kinds := [], alts := [], laidByText := true, laidKinds := [.handle], laidTests := true, laidLooks := .later }
def ClientNilUptoCardSaid : Prop := Claim7.holds Tryz.pinned (.plain (OpenSpec.upto clientNilSpec)) clientNilUptoCard
end Rows
end Go.Proofs.YtnnoeefjnpcfnaaGreatDoor
