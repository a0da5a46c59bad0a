/-
  DERIVED. GIVEN WITH THE SEED: THE CARDS: each row of YthijdhenekmojaaDoorRows.lean that lists a variable, with what it lists TIED to the program's text (the seventh form; the later family's looks); each row that meets fmt, with fmt's text TOLD by the authors' own Lean function (tested against real Go, not proved from fmt's source: count such statements apart). THE CARD IS WHAT COUNTS. Prove the row's statement (the work); the ties are given (YthijdhenekmojaaDoorTie.lean); close each card by the builder's one call (the guide's Derived/Test/ToyasCard.lean, 'card_holds'). Laid BY PROGRAM, IN A SANDBOX (cutbox-door.mjs). By AI agents, Wed Nov 11 2026. No macro, syntax, notation, axiom, sorry.
-/
import Derived.Test.YthijdhenekmojaaDoorRows
import GoSem.ClaimSeven
namespace Go.Proofs.YthijdhenekmojaaDoor
namespace Rows

/-- THE TIED CARD OF 'intagliolaw22.ModelHandles'. -/
def modelHandlesCard : Claim7 := { stood := { row := modelHandlesRow, standIns := [], harness := (true, "fa3f5592a8a62ca7e378ea3031aa58c53774075dbd483e81ec0714d21c008938"), looks := true }, kinds := [], alts := [], laidByText := true, laidKinds := [.handle], laidTests := true, laidLooks := .later }
def ModelHandlesCardSaid : Prop := Claim7.holds Tryd.pinned (.plain (OpenSpec.ofChange modelHandlesSpec)) modelHandlesCard

/-- THE SECOND FORM's CARD OF 'intagliolaw22.ModelHandles'. -/
def modelHandlesUptoCard : Claim7 := { stood := { row := modelHandlesUptoRow, standIns := [], harness := (true, "fa3f5592a8a62ca7e378ea3031aa58c53774075dbd483e81ec0714d21c008938"), looks := true }, kinds := [], alts := [], laidByText := true, laidKinds := [.handle], laidTests := true, laidLooks := .later }
def ModelHandlesUptoCardSaid : Prop := Claim7.holds Tryd.pinned (.plain (OpenSpec.upto modelHandlesSpec)) modelHandlesUptoCard
end Rows
end Go.Proofs.YthijdhenekmojaaDoor
