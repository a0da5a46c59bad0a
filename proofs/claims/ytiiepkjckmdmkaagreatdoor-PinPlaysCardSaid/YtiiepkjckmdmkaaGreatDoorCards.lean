/-
  DERIVED. GIVEN WITH THE SEED: THE CARDS: each row of YtiiepkjckmdmkaaGreatDoorRows.lean that lists a variable, with what it lists TIED to the program's text (the seventh form; the later family's looks); each row that meets fmt, with fmt's text TOLD by the authors' own Lean function (tested against real Go, not proved from fmt's source: count such statements apart). THE CARD IS WHAT COUNTS. Prove the row's statement (the work); the ties are given (YtiiepkjckmdmkaaGreatDoorTie.lean); close each card by the builder's one call (the guide's Derived/Test/ToyasCard.lean, 'card_holds'). Laid BY PROGRAM, IN A SANDBOX (cutbox-door.mjs). By AI agents, Wed Nov 11 2026. No macro, syntax, notation, axiom, sorry.
-/
import Derived.Test.YtiiepkjckmdmkaaGreatDoorRows
import GoSem.ClaimSeven
namespace Go.Proofs.YtiiepkjckmdmkaaGreatDoor
namespace Rows

/-- THE TIED CARD OF 'intagliolaw18.PinNil'. -/
def pinNilCard : Claim7 := { stood := { row := pinNilRow, standIns := [], harness := (true, "2ae583f1889be8e9f91fdb46c488825f46ceb7c84d093b83557bb3a31ae530ce"), looks := true }, kinds := [], alts := [], laidByText := true, laidKinds := [.handle], laidTests := true, laidLooks := .later }
def PinNilCardSaid : Prop := Claim7.holds Tryz.pinned (.plain (OpenSpec.ofChange pinNilSpec)) pinNilCard

/-- THE TIED CARD OF 'intagliolaw18.PinKeeps'. -/
def pinKeepsCard : Claim7 := { stood := { row := pinKeepsRow, standIns := [], harness := (true, "2ae583f1889be8e9f91fdb46c488825f46ceb7c84d093b83557bb3a31ae530ce"), looks := true }, kinds := [], alts := [], laidByText := true, laidKinds := [.handle], laidTests := true, laidLooks := .later }
def PinKeepsCardSaid : Prop := Claim7.holds Tryz.pinned (.plain (OpenSpec.ofChange pinKeepsSpec)) pinKeepsCard

/-- THE TIED CARD OF 'intagliolaw18.PinPlays'. -/
def pinPlaysCard : Claim7 := { stood := { row := pinPlaysRow, standIns := [], harness := (true, "2ae583f1889be8e9f91fdb46c488825f46ceb7c84d093b83557bb3a31ae530ce"), looks := true }, kinds := [], alts := [], laidByText := true, laidKinds := [.handle], laidTests := true, laidLooks := .later }
def PinPlaysCardSaid : Prop := Claim7.holds Tryz.pinned (.plain (OpenSpec.ofChange pinPlaysSpec)) pinPlaysCard

/-- THE SECOND FORM's CARD OF 'intagliolaw18.PinNil'. -/
def pinNilUptoCard : Claim7 := { stood := { row := pinNilUptoRow, standIns := [], harness := (true, "2ae583f1889be8e9f91fdb46c488825f46ceb7c84d093b83557bb3a31ae530ce"), looks := true }, kinds := [], alts := [], laidByText := true, laidKinds := [.handle], laidTests := true, laidLooks := .later }
def PinNilUptoCardSaid : Prop := Claim7.holds Tryz.pinned (.plain (OpenSpec.upto pinNilSpec)) pinNilUptoCard

/-- THE SECOND FORM's CARD OF 'intagliolaw18.PinKeeps'. -/
def pinKeepsUptoCard : Claim7 := { stood := { row := pinKeepsUptoRow, standIns := [], harness := (true, "2ae583f1889be8e9f91fdb46c488825f46ceb7c84d093b83557bb3a31ae530ce"), looks := true }, kinds := [], alts := [], laidByText := true, laidKinds := [.handle], laidTests := true, laidLooks := .later }
def PinKeepsUptoCardSaid : Prop := Claim7.holds Tryz.pinned (.plain (OpenSpec.upto pinKeepsSpec)) pinKeepsUptoCard

/-- THE SECOND FORM's CARD OF 'intagliolaw18.PinPlays'. -/
def pinPlaysUptoCard : Claim7 := { stood := { row := pinPlaysUptoRow, standIns := [], harness := (true, "2ae583f1889be8e9f91fdb46c488825f46ceb7c84d093b83557bb3a31ae530ce"), looks := true }, kinds := [], alts := [], laidByText := true, laidKinds := [.handle], laidTests := true, laidLooks := .later }
def PinPlaysUptoCardSaid : Prop := Claim7.holds Tryz.pinned (.plain (OpenSpec.upto pinPlaysSpec)) pinPlaysUptoCard
end Rows
end Go.Proofs.YtiiepkjckmdmkaaGreatDoor
