/-
  DERIVED. GIVEN WITH THE SEED: THE CARDS: each row of YtilaihbbollcnaaDoorRows.lean that lists a variable, with what it lists TIED to the program's text (the seventh form; the later family's looks); each row that meets fmt, with fmt's text TOLD by the authors' own Lean function (tested against real Go, not proved from fmt's source: count such statements apart). THE CARD IS WHAT COUNTS. Prove the row's statement (the work); the ties are given (YtilaihbbollcnaaDoorTie.lean); close each card by the builder's one call (the guide's Derived/Test/ToyasCard.lean, 'card_holds'). Laid BY PROGRAM, IN A SANDBOX (cutbox-door.mjs). By AI agents, Wed Nov 11 2026. No macro, syntax, notation, axiom, sorry.
-/
import Derived.Test.YtilaihbbollcnaaDoorRows
import GoSem.ClaimSeven
namespace Go.Proofs.YtilaihbbollcnaaDoor
namespace Rows

/-- THE TIED CARD OF 'intagliolaw14.GuardAlone'. -/
def guardAloneCard : Claim7 := { stood := { row := guardAloneRow, standIns := [], harness := (true, "3fc2723fd6ef9f8a9114adad4acd7a31fb125393576837e7c542742c6fa54a78"), looks := true }, kinds := [], alts := [], laidByText := true, laidKinds := [.handle], laidTests := true, laidLooks := .later }
def GuardAloneCardSaid : Prop := Claim7.holds Tryd.pinned (.plain (OpenSpec.ofChange guardAloneSpec)) guardAloneCard

/-- THE TIED CARD OF 'intagliolaw14.GuardNil'. -/
def guardNilCard : Claim7 := { stood := { row := guardNilRow, standIns := [], harness := (true, "3fc2723fd6ef9f8a9114adad4acd7a31fb125393576837e7c542742c6fa54a78"), looks := true }, kinds := [], alts := [], laidByText := true, laidKinds := [.handle], laidTests := true, laidLooks := .later }
def GuardNilCardSaid : Prop := Claim7.holds Tryd.pinned (.plain (OpenSpec.ofChange guardNilSpec)) guardNilCard

/-- THE TIED CARD OF 'intagliolaw14.GuardTrue'. -/
def guardTrueCard : Claim7 := { stood := { row := guardTrueRow, standIns := [], harness := (true, "3fc2723fd6ef9f8a9114adad4acd7a31fb125393576837e7c542742c6fa54a78"), looks := true }, kinds := [], alts := [], laidByText := true, laidKinds := [.handle], laidTests := true, laidLooks := .later }
def GuardTrueCardSaid : Prop := Claim7.holds Tryd.pinned (.plain (OpenSpec.ofChange guardTrueSpec)) guardTrueCard

/-- THE TIED CARD OF 'intagliolaw14.GuardSteady'. -/
def guardSteadyCard : Claim7 := { stood := { row := guardSteadyRow, standIns := [], harness := (true, "3fc2723fd6ef9f8a9114adad4acd7a31fb125393576837e7c542742c6fa54a78"), looks := true }, kinds := [], alts := [], laidByText := true, laidKinds := [.handle], laidTests := true, laidLooks := .later }
def GuardSteadyCardSaid : Prop := Claim7.holds Tryd.pinned (.plain (OpenSpec.ofChange guardSteadySpec)) guardSteadyCard

/-- THE SECOND FORM's CARD OF 'intagliolaw14.GuardAlone'. -/
def guardAloneUptoCard : Claim7 := { stood := { row := guardAloneUptoRow, standIns := [], harness := (true, "3fc2723fd6ef9f8a9114adad4acd7a31fb125393576837e7c542742c6fa54a78"), looks := true }, kinds := [], alts := [], laidByText := true, laidKinds := [.handle], laidTests := true, laidLooks := .later }
def GuardAloneUptoCardSaid : Prop := Claim7.holds Tryd.pinned (.plain (OpenSpec.upto guardAloneSpec)) guardAloneUptoCard

/-- THE SECOND FORM's CARD OF 'intagliolaw14.GuardNil'. -/
def guardNilUptoCard : Claim7 := { stood := { row := guardNilUptoRow, standIns := [], harness := (true, "3fc2723fd6ef9f8a9114adad4acd7a31fb125393576837e7c542742c6fa54a78"), looks := true }, kinds := [], alts := [], laidByText := true, laidKinds := [.handle], laidTests := true, laidLooks := .later }
def GuardNilUptoCardSaid : Prop := Claim7.holds Tryd.pinned (.plain (OpenSpec.upto guardNilSpec)) guardNilUptoCard

/-- THE SECOND FORM's CARD OF 'intagliolaw14.GuardTrue'. -/
def guardTrueUptoCard : Claim7 := { stood := { row := guardTrueUptoRow, standIns := [], harness := (true, "3fc2723fd6ef9f8a9114adad4acd7a31fb125393576837e7c542742c6fa54a78"), looks := true }, kinds := [], alts := [], laidByText := true, laidKinds := [.handle], laidTests := true, laidLooks := .later }
def GuardTrueUptoCardSaid : Prop := Claim7.holds Tryd.pinned (.plain (OpenSpec.upto guardTrueSpec)) guardTrueUptoCard

/-- THE SECOND FORM's CARD OF 'intagliolaw14.GuardSteady'. -/
def guardSteadyUptoCard : Claim7 := { stood := { row := guardSteadyUptoRow, standIns := [], harness := (true, "3fc2723fd6ef9f8a9114adad4acd7a31fb125393576837e7c542742c6fa54a78"), looks := true }, kinds := [], alts := [], laidByText := true, laidKinds := [.handle], laidTests := true, laidLooks := .later }
def GuardSteadyUptoCardSaid : Prop := Claim7.holds Tryd.pinned (.plain (OpenSpec.upto guardSteadySpec)) guardSteadyUptoCard
end Rows
end Go.Proofs.YtilaihbbollcnaaDoor
