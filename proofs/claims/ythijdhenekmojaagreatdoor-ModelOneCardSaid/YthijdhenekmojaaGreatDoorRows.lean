/-
  NARROWER THAN 'FOR EVERY INPUT', by the rows' own cells (each row's printed sentence says how): ModelPlays: laid · ModelReads: laid · ModelNil: laid · ModelOne: laid.
  DERIVED. THE GIVEN ROWS OF THIS SEAT. 4 by the template 'for every input the law returns true; each argument reads behind the call as it read before'; 0 by the template 'total and deterministic' (their statements: YthijdhenekmojaaGreatDoorTotals.lean).
  GIVEN WITH THE SEED: the statements are not yours to turn. If you find one false, say at which input.
  Laid BY PROGRAM, IN A SANDBOX (cutbox-rows.mjs): the forced cells as the released guide's own fill.sh prints them over the translation 68e10829c47fe9dd… (all of the seat's roots in one cut). By AI agents, Wed Nov 11 2026. No macro, syntax, notation, axiom, sorry.
-/
import Derived.Test.YthijdhenekmojaaGreatDoorChecked
import GoSem.Claim
import GoSem.ClaimJoined
import GoSem.ClaimMapViews
import Derived.JoinedTies
import Derived.KernelRfl
namespace Go.Proofs.YthijdhenekmojaaGreatDoor
/- THE CELL 'sum', in the pinned program and in every row, IS THE sha256 OF THE DUMP (.gsa) THAT YthijdhenekmojaaGreatDoorProg.lean LOADS. Nothing in Lean hashes anything: it is a label: what it is worth is what the hold of that sum in a sandbox is worth. -/
noncomputable def Tryz.pinned : Pinned := { name := "ythijdhenekmojaagreatdoor", sum := "68e10829c47fe9ddba0512068fd8f02c7b3871f204ba9a306c04ae27bd46dff2", checked := Tryz.checked }
namespace Rows
def none {H : Type} : Left H := { results := [], args := [] }

/- WHAT THE LISTED PACKAGE-LEVEL VARIABLES READ AS WHEN THE CALL BEGINS. Each datum BY PROGRAM (the guide's laid-datum.mjs) off the statement by which the dump's own 'gosem.cut.vars' lays the variable. In a bare row this is a premise. The card (YthijdhenekmojaaGreatDoorCards.lean) ties it to the program's text. -/
def laid_errors_errorType {H : Type} : DataW H := .iface "internal/reflectlite.rtype" (.agg [.ptr (.lit (.string [101, 114, 114, 111, 114]))])

/-- 'intagliolaw22.ModelPlays': WHATEVER THE INPUT: true; the input reads as it did. -/
def modelPlaysSpec : ChangeSpec := { name := "modelPlays", fn := fun _ => fun
  | [d1, d2] => { results := [.lit (.bool true)], args := [d1, d2] }
  | _ => none }
def modelPlaysRow : OpenClaim := { program := "ythijdhenekmojaagreatdoor", sum := "68e10829c47fe9ddba0512068fd8f02c7b3871f204ba9a306c04ae27bd46dff2", func := "intaglio/intagliolaw22.ModelPlays", spec := "modelPlays", inPlace := ["internal/reflectlite.ValueOf", "(internal/reflectlite.Value).Type", "(internal/reflectlite.Value).IsNil", "internal/reflectlite.TypeOf", "(internal/reflectlite.Value).Elem", "(internal/reflectlite.Value).Set"], unfollowed := true, recurses := true, named := ["errors.errorType"], plainKeys := false, apart := false, laid := [("errors.errorType", laid_errors_errorType)] }
def ModelPlaysSaid : Prop := modelPlaysRow.holds Tryz.pinned (OpenSpec.ofChange modelPlaysSpec)

/-- ITS FALSE NEIGHBOUR: 'it returns false'. Refute it at one input. -/
def modelPlaysWrong : ChangeSpec := { name := "modelPlays", fn := fun _ => fun
  | [d1, d2] => { results := [.lit (.bool false)], args := [d1, d2] }
  | _ => none }
def ModelPlaysWrongFalsely : Prop := modelPlaysRow.holds Tryz.pinned (OpenSpec.ofChange modelPlaysWrong)

/-- 'intagliolaw22.ModelReads': WHATEVER THE INPUT: true; the input reads as it did. -/
def modelReadsSpec : ChangeSpec := { name := "modelReads", fn := fun _ => fun
  | [d1, d2, d3] => { results := [.lit (.bool true)], args := [d1, d2, d3] }
  | _ => none }
def modelReadsRow : OpenClaim := { program := "ythijdhenekmojaagreatdoor", sum := "68e10829c47fe9ddba0512068fd8f02c7b3871f204ba9a306c04ae27bd46dff2", func := "intaglio/intagliolaw22.ModelReads", spec := "modelReads", inPlace := ["internal/reflectlite.ValueOf", "(internal/reflectlite.Value).Type", "(internal/reflectlite.Value).IsNil", "internal/reflectlite.TypeOf", "(internal/reflectlite.Value).Elem", "(internal/reflectlite.Value).Set"], unfollowed := true, recurses := true, named := ["errors.errorType"], plainKeys := false, apart := false, laid := [("errors.errorType", laid_errors_errorType)] }
def ModelReadsSaid : Prop := modelReadsRow.holds Tryz.pinned (OpenSpec.ofChange modelReadsSpec)

/-- ITS FALSE NEIGHBOUR: 'it returns false'. Refute it at one input. -/
def modelReadsWrong : ChangeSpec := { name := "modelReads", fn := fun _ => fun
  | [d1, d2, d3] => { results := [.lit (.bool false)], args := [d1, d2, d3] }
  | _ => none }
def ModelReadsWrongFalsely : Prop := modelReadsRow.holds Tryz.pinned (OpenSpec.ofChange modelReadsWrong)

/-- 'intagliolaw22.ModelNil': WHATEVER THE INPUT: true; the input reads as it did. -/
def modelNilSpec : ChangeSpec := { name := "modelNil", fn := fun _ => fun
  | [d] => { results := [.lit (.bool true)], args := [d] }
  | _ => none }
def modelNilRow : OpenClaim := { program := "ythijdhenekmojaagreatdoor", sum := "68e10829c47fe9ddba0512068fd8f02c7b3871f204ba9a306c04ae27bd46dff2", func := "intaglio/intagliolaw22.ModelNil", spec := "modelNil", inPlace := ["internal/reflectlite.ValueOf", "(internal/reflectlite.Value).Type", "(internal/reflectlite.Value).IsNil", "internal/reflectlite.TypeOf", "(internal/reflectlite.Value).Elem", "(internal/reflectlite.Value).Set"], unfollowed := true, recurses := true, named := ["errors.errorType"], plainKeys := false, apart := false, laid := [("errors.errorType", laid_errors_errorType)] }
def ModelNilSaid : Prop := modelNilRow.holds Tryz.pinned (OpenSpec.ofChange modelNilSpec)

/-- ITS FALSE NEIGHBOUR: 'it returns false'. Refute it at one input. -/
def modelNilWrong : ChangeSpec := { name := "modelNil", fn := fun _ => fun
  | [d] => { results := [.lit (.bool false)], args := [d] }
  | _ => none }
def ModelNilWrongFalsely : Prop := modelNilRow.holds Tryz.pinned (OpenSpec.ofChange modelNilWrong)

/-- 'intagliolaw22.ModelOne': WHATEVER THE INPUT: true; the input reads as it did. -/
def modelOneSpec : ChangeSpec := { name := "modelOne", fn := fun _ => fun
  | [d1, d2] => { results := [.lit (.bool true)], args := [d1, d2] }
  | _ => none }
def modelOneRow : OpenClaim := { program := "ythijdhenekmojaagreatdoor", sum := "68e10829c47fe9ddba0512068fd8f02c7b3871f204ba9a306c04ae27bd46dff2", func := "intaglio/intagliolaw22.ModelOne", spec := "modelOne", inPlace := ["internal/reflectlite.ValueOf", "(internal/reflectlite.Value).Type", "(internal/reflectlite.Value).IsNil", "internal/reflectlite.TypeOf", "(internal/reflectlite.Value).Elem", "(internal/reflectlite.Value).Set"], unfollowed := true, recurses := true, named := ["errors.errorType"], plainKeys := false, apart := false, laid := [("errors.errorType", laid_errors_errorType)] }
def ModelOneSaid : Prop := modelOneRow.holds Tryz.pinned (OpenSpec.ofChange modelOneSpec)

/-- ITS FALSE NEIGHBOUR: 'it returns false'. Refute it at one input. -/
def modelOneWrong : ChangeSpec := { name := "modelOne", fn := fun _ => fun
  | [d1, d2] => { results := [.lit (.bool false)], args := [d1, d2] }
  | _ => none }
def ModelOneWrongFalsely : Prop := modelOneRow.holds Tryz.pinned (OpenSpec.ofChange modelOneWrong)

/- THE SECOND FORM. 'bulk': how many values and letters a reading holds, each counted each time it is reached (what is shared counts as often as it is met; a slice's spare places count too). A statement '..UptoSaid' is the law's where the arguments, and the package variables that the reading takes, are together of bulk at most 1048576: NARROWER than '..Said'. Prove '..Said' where nothing that the law and all that it calls make is longer than what came in: it says more and counts as full. Else prove '..UptoSaid'. A law counts once. -/
mutual
def uptoBulk {H : Type} : DataW H → Nat
  | .lit (.string bytes) => bytes.length + 1
  | .lit _ => 1
  | .nil => 1
  | .ptr d => uptoBulk d + 1
  | .slice elems spare => uptoBulkAll elems + uptoBulkAll spare + 1
  | .agg parts => uptoBulkAll parts + 1
  | .iface _ d => uptoBulk d + 1
  | .map entries => uptoBulkEntries entries + 1
  | .held _ => 1
def uptoBulkAll {H : Type} : List (DataW H) → Nat
  | [] => 0
  | d :: r => uptoBulk d + uptoBulkAll r
def uptoBulkEntries {H : Type} : List (Lit × DataW H) → Nat
  | [] => 0
  | x :: r => uptoBulkEntry x + uptoBulkEntries r
def uptoBulkEntry {H : Type} : Lit × DataW H → Nat
  | (.string bytes, d) => bytes.length + uptoBulk d + 1
  | (_, d) => uptoBulk d + 1
 end
def uptoSmall : (H : Type) → List (DataW H) → Bool := fun _ ds => decide (uptoBulkAll ds ≤ 1048576)
def OpenSpec.upto (s : _root_.Go.ChangeSpec) : _root_.Go.OpenSpec := { _root_.Go.OpenSpec.ofChange s with cond := some uptoSmall }

/-- 'intagliolaw22.ModelPlays', WHERE WHAT IT READS IS OF BULK AT MOST 1048576: true; the input reads as it did. -/
def modelPlaysUptoRow : OpenClaim := { program := "ythijdhenekmojaagreatdoor", sum := "68e10829c47fe9ddba0512068fd8f02c7b3871f204ba9a306c04ae27bd46dff2", func := "intaglio/intagliolaw22.ModelPlays", spec := "modelPlays", inPlace := ["internal/reflectlite.ValueOf", "(internal/reflectlite.Value).Type", "(internal/reflectlite.Value).IsNil", "internal/reflectlite.TypeOf", "(internal/reflectlite.Value).Elem", "(internal/reflectlite.Value).Set"], unfollowed := true, recurses := true, named := ["errors.errorType"], plainKeys := false, apart := false, laid := [("errors.errorType", laid_errors_errorType)], narrowed := true }
def ModelPlaysUptoSaid : Prop := modelPlaysUptoRow.holds Tryz.pinned (OpenSpec.upto modelPlaysSpec)

/-- 'intagliolaw22.ModelReads', WHERE WHAT IT READS IS OF BULK AT MOST 1048576: true; the input reads as it did. -/
def modelReadsUptoRow : OpenClaim := { program := "ythijdhenekmojaagreatdoor", sum := "68e10829c47fe9ddba0512068fd8f02c7b3871f204ba9a306c04ae27bd46dff2", func := "intaglio/intagliolaw22.ModelReads", spec := "modelReads", inPlace := ["internal/reflectlite.ValueOf", "(internal/reflectlite.Value).Type", "(internal/reflectlite.Value).IsNil", "internal/reflectlite.TypeOf", "(internal/reflectlite.Value).Elem", "(internal/reflectlite.Value).Set"], unfollowed := true, recurses := true, named := ["errors.errorType"], plainKeys := false, apart := false, laid := [("errors.errorType", laid_errors_errorType)], narrowed := true }
def ModelReadsUptoSaid : Prop := modelReadsUptoRow.holds Tryz.pinned (OpenSpec.upto modelReadsSpec)

/-- 'intagliolaw22.ModelNil', WHERE WHAT IT READS IS OF BULK AT MOST 1048576: true; the input reads as it did. -/
def modelNilUptoRow : OpenClaim := { program := "ythijdhenekmojaagreatdoor", sum := "68e10829c47fe9ddba0512068fd8f02c7b3871f204ba9a306c04ae27bd46dff2", func := "intaglio/intagliolaw22.ModelNil", spec := "modelNil", inPlace := ["internal/reflectlite.ValueOf", "(internal/reflectlite.Value).Type", "(internal/reflectlite.Value).IsNil", "internal/reflectlite.TypeOf", "(internal/reflectlite.Value).Elem", "(internal/reflectlite.Value).Set"], unfollowed := true, recurses := true, named := ["errors.errorType"], plainKeys := false, apart := false, laid := [("errors.errorType", laid_errors_errorType)], narrowed := true }
def ModelNilUptoSaid : Prop := modelNilUptoRow.holds Tryz.pinned (OpenSpec.upto modelNilSpec)

/-- 'intagliolaw22.ModelOne', WHERE WHAT IT READS IS OF BULK AT MOST 1048576: true; the input reads as it did. -/
def modelOneUptoRow : OpenClaim := { program := "ythijdhenekmojaagreatdoor", sum := "68e10829c47fe9ddba0512068fd8f02c7b3871f204ba9a306c04ae27bd46dff2", func := "intaglio/intagliolaw22.ModelOne", spec := "modelOne", inPlace := ["internal/reflectlite.ValueOf", "(internal/reflectlite.Value).Type", "(internal/reflectlite.Value).IsNil", "internal/reflectlite.TypeOf", "(internal/reflectlite.Value).Elem", "(internal/reflectlite.Value).Set"], unfollowed := true, recurses := true, named := ["errors.errorType"], plainKeys := false, apart := false, laid := [("errors.errorType", laid_errors_errorType)], narrowed := true }
def ModelOneUptoSaid : Prop := modelOneUptoRow.holds Tryz.pinned (OpenSpec.upto modelOneSpec)

end Rows
end Go.Proofs.YthijdhenekmojaaGreatDoor
