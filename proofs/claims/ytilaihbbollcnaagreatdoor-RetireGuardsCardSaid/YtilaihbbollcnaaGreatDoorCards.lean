/-
  DERIVED. GIVEN WITH THE SEED: THE CARDS: each row of YtilaihbbollcnaaGreatDoorRows.lean that lists a variable, with what it lists TIED to the program's text (the seventh form; the later family's looks); each row that meets fmt, with fmt's text TOLD by the authors' own Lean function (tested against real Go, not proved from fmt's source: count such statements apart). THE CARD IS WHAT COUNTS. Prove the row's statement (the work); the ties are given (YtilaihbbollcnaaGreatDoorTie.lean); close each card by the builder's one call (the guide's Derived/Test/ToyasCard.lean, 'card_holds'). Laid BY PROGRAM, IN A SANDBOX (cutbox-door.mjs). By AI agents, Wed Nov 11 2026. No macro, syntax, notation, axiom, sorry.
-/
import Derived.Test.YtilaihbbollcnaaGreatDoorRows
import GoSem.ClaimSeven
namespace Go.Proofs.YtilaihbbollcnaaGreatDoor
namespace Rows

/-- THE TIED CARD OF 'intagliolaw14.GuardPlays'. -/
def guardPlaysCard : Claim7 := { stood := { row := guardPlaysRow, standIns := [], harness := (true, "d0c4e22f3ceafbe44607caf0d8f5eca78952fe0444092f6f439e2d73ca7ec247"), looks := true }, kinds := [], alts := [], laidByText := true, laidKinds := [.handle], laidTests := true, laidLooks := .later }
def GuardPlaysCardSaid : Prop := Claim7.holds Tryz.pinned (.plain (OpenSpec.ofChange guardPlaysSpec)) guardPlaysCard

/-- THE TIED CARD OF 'intagliolaw15.RetireGuards'. -/
def retireGuardsCard : Claim7 := { stood := { row := retireGuardsRow, standIns := [], harness := (true, "d0c4e22f3ceafbe44607caf0d8f5eca78952fe0444092f6f439e2d73ca7ec247"), looks := true }, kinds := [], alts := [], laidByText := true, laidKinds := [.handle], laidTests := true, laidLooks := .later }
def RetireGuardsCardSaid : Prop := Claim7.holds Tryz.pinned (.plain (OpenSpec.ofChange retireGuardsSpec)) retireGuardsCard

/-- THE SECOND FORM's CARD OF 'intagliolaw14.GuardPlays'. -/
def guardPlaysUptoCard : Claim7 := { stood := { row := guardPlaysUptoRow, standIns := [], harness := (true, "d0c4e22f3ceafbe44607caf0d8f5eca78952fe0444092f6f439e2d73ca7ec247"), looks := true }, kinds := [], alts := [], laidByText := true, laidKinds := [.handle], laidTests := true, laidLooks := .later }
def GuardPlaysUptoCardSaid : Prop := Claim7.holds Tryz.pinned (.plain (OpenSpec.upto guardPlaysSpec)) guardPlaysUptoCard

/-- THE SECOND FORM's CARD OF 'intagliolaw15.RetireGuards'. -/
def retireGuardsUptoCard : Claim7 := { stood := { row := retireGuardsUptoRow, standIns := [], harness := (true, "d0c4e22f3ceafbe44607caf0d8f5eca78952fe0444092f6f439e2d73ca7ec247"), looks := true }, kinds := [], alts := [], laidByText := true, laidKinds := [.handle], laidTests := true, laidLooks := .later }
def RetireGuardsUptoCardSaid : Prop := Claim7.holds Tryz.pinned (.plain (OpenSpec.upto retireGuardsSpec)) retireGuardsUptoCard
end Rows
end Go.Proofs.YtilaihbbollcnaaGreatDoor
