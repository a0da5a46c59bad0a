/-
  NARROWER THAN 'FOR EVERY INPUT', by the rows' own cells (each row's printed sentence says how): LargeNil: laid · LargeAlone: laid · LargeLast: laid · LargeApart: laid · LargeWhole: laid · LargePlays: laid.
  DERIVED. THE GIVEN ROWS OF THIS SEAT. 6 by the template 'for every input the law returns true; each argument reads behind the call as it read before'; 0 by the template 'total and deterministic' (their statements: YtpcaijopodhdgaaGreatDoorTotals.lean).
  GIVEN WITH THE SEED: the statements are not yours to turn. If you find one false, say at which input.
  Laid BY PROGRAM, IN A SANDBOX (cutbox-rows.mjs): the forced cells as the released guide's own fill.sh prints them over the translation 58b1c10beef203ec… (all of the seat's roots in one cut). By AI agents, Wed Nov 11 2026. No macro, syntax, notation, axiom, sorry.
-/
import Derived.Test.YtpcaijopodhdgaaGreatDoorChecked
import GoSem.Claim
import GoSem.ClaimJoined
import GoSem.ClaimMapViews
import Derived.JoinedTies
import Derived.KernelRfl
namespace Go.Proofs.YtpcaijopodhdgaaGreatDoor
/- THE CELL 'sum', in the pinned program and in every row, IS THE sha256 OF THE DUMP (.gsa) THAT YtpcaijopodhdgaaGreatDoorProg.lean LOADS. Nothing in Lean hashes anything: it is a label: what it is worth is what the hold of that sum in a sandbox is worth. -/
noncomputable def Tryz.pinned : Pinned := { name := "ytpcaijopodhdgaagreatdoor", sum := "58b1c10beef203ec80f32ec417f24957c7af7b5f712399dfe43ad30b2d5ecdca", checked := Tryz.checked }
namespace Rows
def none {H : Type} : Left H := { results := [], args := [] }

/- WHAT THE LISTED PACKAGE-LEVEL VARIABLES READ AS WHEN THE CALL BEGINS. Each datum BY PROGRAM (the guide's laid-datum.mjs) off the statement by which the dump's own 'gosem.cut.vars' lays the variable. In a bare row this is a premise. The card (YtpcaijopodhdgaaGreatDoorCards.lean) ties it to the program's text. -/
def laid_errors_errorType {H : Type} : DataW H := .iface "internal/reflectlite.rtype" (.agg [.ptr (.lit (.string [101, 114, 114, 111, 114]))])

/-- 'intagliolaw17.LargeNil': WHATEVER THE INPUT: true; the input reads as it did. -/
def largeNilSpec : ChangeSpec := { name := "largeNil", fn := fun _ => fun
  | [d1, d2] => { results := [.lit (.bool true)], args := [d1, d2] }
  | _ => none }
def largeNilRow : OpenClaim := { program := "ytpcaijopodhdgaagreatdoor", sum := "58b1c10beef203ec80f32ec417f24957c7af7b5f712399dfe43ad30b2d5ecdca", func := "intaglio/intagliolaw17.LargeNil", spec := "largeNil", inPlace := ["sync/atomic.AddInt64", "sync/atomic.LoadInt64", "internal/reflectlite.ValueOf", "(internal/reflectlite.Value).Type", "(internal/reflectlite.Value).IsNil", "internal/reflectlite.TypeOf", "(internal/reflectlite.Value).Elem", "(internal/reflectlite.Value).Set"], unfollowed := true, recurses := true, named := ["errors.errorType"], apart := false, laid := [("errors.errorType", laid_errors_errorType)] }
def LargeNilSaid : Prop := largeNilRow.holds Tryz.pinned (OpenSpec.ofChange largeNilSpec)

/-- ITS FALSE NEIGHBOUR: 'it returns false'. Refute it at one input. -/
def largeNilWrong : ChangeSpec := { name := "largeNil", fn := fun _ => fun
  | [d1, d2] => { results := [.lit (.bool false)], args := [d1, d2] }
  | _ => none }
def LargeNilWrongFalsely : Prop := largeNilRow.holds Tryz.pinned (OpenSpec.ofChange largeNilWrong)

/-- 'intagliolaw17.LargeAlone': WHATEVER THE INPUT: true; the input reads as it did. -/
def largeAloneSpec : ChangeSpec := { name := "largeAlone", fn := fun _ => fun
  | [d1, d2, d3] => { results := [.lit (.bool true)], args := [d1, d2, d3] }
  | _ => none }
def largeAloneRow : OpenClaim := { program := "ytpcaijopodhdgaagreatdoor", sum := "58b1c10beef203ec80f32ec417f24957c7af7b5f712399dfe43ad30b2d5ecdca", func := "intaglio/intagliolaw17.LargeAlone", spec := "largeAlone", inPlace := ["sync/atomic.AddInt64", "sync/atomic.LoadInt64", "internal/reflectlite.ValueOf", "(internal/reflectlite.Value).Type", "(internal/reflectlite.Value).IsNil", "internal/reflectlite.TypeOf", "(internal/reflectlite.Value).Elem", "(internal/reflectlite.Value).Set"], unfollowed := true, recurses := true, named := ["errors.errorType"], apart := false, laid := [("errors.errorType", laid_errors_errorType)] }
def LargeAloneSaid : Prop := largeAloneRow.holds Tryz.pinned (OpenSpec.ofChange largeAloneSpec)

/-- ITS FALSE NEIGHBOUR: 'it returns false'. Refute it at one input. -/
def largeAloneWrong : ChangeSpec := { name := "largeAlone", fn := fun _ => fun
  | [d1, d2, d3] => { results := [.lit (.bool false)], args := [d1, d2, d3] }
  | _ => none }
def LargeAloneWrongFalsely : Prop := largeAloneRow.holds Tryz.pinned (OpenSpec.ofChange largeAloneWrong)

/-- 'intagliolaw17.LargeLast': WHATEVER THE INPUT: true; the input reads as it did. -/
def largeLastSpec : ChangeSpec := { name := "largeLast", fn := fun _ => fun
  | [d1, d2] => { results := [.lit (.bool true)], args := [d1, d2] }
  | _ => none }
def largeLastRow : OpenClaim := { program := "ytpcaijopodhdgaagreatdoor", sum := "58b1c10beef203ec80f32ec417f24957c7af7b5f712399dfe43ad30b2d5ecdca", func := "intaglio/intagliolaw17.LargeLast", spec := "largeLast", inPlace := ["sync/atomic.AddInt64", "sync/atomic.LoadInt64", "internal/reflectlite.ValueOf", "(internal/reflectlite.Value).Type", "(internal/reflectlite.Value).IsNil", "internal/reflectlite.TypeOf", "(internal/reflectlite.Value).Elem", "(internal/reflectlite.Value).Set"], unfollowed := true, recurses := true, named := ["errors.errorType"], apart := false, laid := [("errors.errorType", laid_errors_errorType)] }
def LargeLastSaid : Prop := largeLastRow.holds Tryz.pinned (OpenSpec.ofChange largeLastSpec)

/-- ITS FALSE NEIGHBOUR: 'it returns false'. Refute it at one input. -/
def largeLastWrong : ChangeSpec := { name := "largeLast", fn := fun _ => fun
  | [d1, d2] => { results := [.lit (.bool false)], args := [d1, d2] }
  | _ => none }
def LargeLastWrongFalsely : Prop := largeLastRow.holds Tryz.pinned (OpenSpec.ofChange largeLastWrong)

/-- 'intagliolaw17.LargeApart': WHATEVER THE INPUT: true; the input reads as it did. -/
def largeApartSpec : ChangeSpec := { name := "largeApart", fn := fun _ => fun
  | [d1, d2] => { results := [.lit (.bool true)], args := [d1, d2] }
  | _ => none }
def largeApartRow : OpenClaim := { program := "ytpcaijopodhdgaagreatdoor", sum := "58b1c10beef203ec80f32ec417f24957c7af7b5f712399dfe43ad30b2d5ecdca", func := "intaglio/intagliolaw17.LargeApart", spec := "largeApart", inPlace := ["sync/atomic.AddInt64", "sync/atomic.LoadInt64", "internal/reflectlite.ValueOf", "(internal/reflectlite.Value).Type", "(internal/reflectlite.Value).IsNil", "internal/reflectlite.TypeOf", "(internal/reflectlite.Value).Elem", "(internal/reflectlite.Value).Set"], unfollowed := true, recurses := true, named := ["errors.errorType"], apart := false, laid := [("errors.errorType", laid_errors_errorType)] }
def LargeApartSaid : Prop := largeApartRow.holds Tryz.pinned (OpenSpec.ofChange largeApartSpec)

/-- ITS FALSE NEIGHBOUR: 'it returns false'. Refute it at one input. -/
def largeApartWrong : ChangeSpec := { name := "largeApart", fn := fun _ => fun
  | [d1, d2] => { results := [.lit (.bool false)], args := [d1, d2] }
  | _ => none }
def LargeApartWrongFalsely : Prop := largeApartRow.holds Tryz.pinned (OpenSpec.ofChange largeApartWrong)

/-- 'intagliolaw17.LargeWhole': WHATEVER THE INPUT: true; the input reads as it did. -/
def largeWholeSpec : ChangeSpec := { name := "largeWhole", fn := fun _ => fun
  | [d1, d2] => { results := [.lit (.bool true)], args := [d1, d2] }
  | _ => none }
def largeWholeRow : OpenClaim := { program := "ytpcaijopodhdgaagreatdoor", sum := "58b1c10beef203ec80f32ec417f24957c7af7b5f712399dfe43ad30b2d5ecdca", func := "intaglio/intagliolaw17.LargeWhole", spec := "largeWhole", inPlace := ["sync/atomic.AddInt64", "sync/atomic.LoadInt64", "internal/reflectlite.ValueOf", "(internal/reflectlite.Value).Type", "(internal/reflectlite.Value).IsNil", "internal/reflectlite.TypeOf", "(internal/reflectlite.Value).Elem", "(internal/reflectlite.Value).Set"], unfollowed := true, recurses := true, named := ["errors.errorType"], apart := false, laid := [("errors.errorType", laid_errors_errorType)] }
def LargeWholeSaid : Prop := largeWholeRow.holds Tryz.pinned (OpenSpec.ofChange largeWholeSpec)

/-- ITS FALSE NEIGHBOUR: 'it returns false'. Refute it at one input. -/
def largeWholeWrong : ChangeSpec := { name := "largeWhole", fn := fun _ => fun
  | [d1, d2] => { results := [.lit (.bool false)], args := [d1, d2] }
  | _ => none }
def LargeWholeWrongFalsely : Prop := largeWholeRow.holds Tryz.pinned (OpenSpec.ofChange largeWholeWrong)

/-- 'intagliolaw17.LargePlays': WHATEVER THE INPUT: true; the input reads as it did. -/
def largePlaysSpec : ChangeSpec := { name := "largePlays", fn := fun _ => fun
  | [d1, d2] => { results := [.lit (.bool true)], args := [d1, d2] }
  | _ => none }
def largePlaysRow : OpenClaim := { program := "ytpcaijopodhdgaagreatdoor", sum := "58b1c10beef203ec80f32ec417f24957c7af7b5f712399dfe43ad30b2d5ecdca", func := "intaglio/intagliolaw17.LargePlays", spec := "largePlays", inPlace := ["sync/atomic.AddInt64", "sync/atomic.LoadInt64", "internal/reflectlite.ValueOf", "(internal/reflectlite.Value).Type", "(internal/reflectlite.Value).IsNil", "internal/reflectlite.TypeOf", "(internal/reflectlite.Value).Elem", "(internal/reflectlite.Value).Set"], unfollowed := true, recurses := true, named := ["errors.errorType"], apart := false, laid := [("errors.errorType", laid_errors_errorType)] }
def LargePlaysSaid : Prop := largePlaysRow.holds Tryz.pinned (OpenSpec.ofChange largePlaysSpec)

/-- ITS FALSE NEIGHBOUR: 'it returns false'. Refute it at one input. -/
def largePlaysWrong : ChangeSpec := { name := "largePlays", fn := fun _ => fun
  | [d1, d2] => { results := [.lit (.bool false)], args := [d1, d2] }
  | _ => none }
def LargePlaysWrongFalsely : Prop := largePlaysRow.holds Tryz.pinned (OpenSpec.ofChange largePlaysWrong)

/- THE SECOND FORM. 'bulk': how many values and letters a reading holds, each counted each time it is reached (what is shared counts as often as it is met; a slice's spare places count too). A statement '..UptoSaid' is the law's where the arguments, and the package variables that the reading takes, are together of bulk at most 1048576: NARROWER than '..Said'. Prove '..Said' where nothing that the law and all that it calls make is longer than what came in: it says more and counts as full. Else prove '..UptoSaid'. A law counts once. -/
mutual
def uptoBulk {H : Type} : DataW H → Nat
  | .lit (.string bytes) => bytes.length + 1
  | .lit _ => 1
  | .nil => 1
  | .ptr d => uptoBulk d + 1
  | .slice elems spare => uptoBulkAll elems + uptoBulkAll spare + 1
  | .agg parts => uptoBulkAll parts + 1
  | .iface _ d => uptoBulk d + 1
  | .map entries => uptoBulkEntries entries + 1
  | .held _ => 1
def uptoBulkAll {H : Type} : List (DataW H) → Nat
  | [] => 0
  | d :: r => uptoBulk d + uptoBulkAll r
def uptoBulkEntries {H : Type} : List (Lit × DataW H) → Nat
  | [] => 0
  | x :: r => uptoBulkEntry x + uptoBulkEntries r
def uptoBulkEntry {H : Type} : Lit × DataW H → Nat
  | (.string bytes, d) => bytes.length + uptoBulk d + 1
  | (_, d) => uptoBulk d + 1
 end
def uptoSmall : (H : Type) → List (DataW H) → Bool := fun _ ds => decide (uptoBulkAll ds ≤ 1048576)
def OpenSpec.upto (s : _root_.Go.ChangeSpec) : _root_.Go.OpenSpec := { _root_.Go.OpenSpec.ofChange s with cond := some uptoSmall }

/-- 'intagliolaw17.LargeNil', WHERE WHAT IT READS IS OF BULK AT MOST 1048576: true; the input reads as it did. -/
def largeNilUptoRow : OpenClaim := { program := "ytpcaijopodhdgaagreatdoor", sum := "58b1c10beef203ec80f32ec417f24957c7af7b5f712399dfe43ad30b2d5ecdca", func := "intaglio/intagliolaw17.LargeNil", spec := "largeNil", inPlace := ["sync/atomic.AddInt64", "sync/atomic.LoadInt64", "internal/reflectlite.ValueOf", "(internal/reflectlite.Value).Type", "(internal/reflectlite.Value).IsNil", "internal/reflectlite.TypeOf", "(internal/reflectlite.Value).Elem", "(internal/reflectlite.Value).Set"], unfollowed := true, recurses := true, named := ["errors.errorType"], apart := false, laid := [("errors.errorType", laid_errors_errorType)], narrowed := true }
def LargeNilUptoSaid : Prop := largeNilUptoRow.holds Tryz.pinned (OpenSpec.upto largeNilSpec)

/-- 'intagliolaw17.LargeAlone', WHERE WHAT IT READS IS OF BULK AT MOST 1048576: true; the input reads as it did. -/
def largeAloneUptoRow : OpenClaim := { program := "ytpcaijopodhdgaagreatdoor", sum := "58b1c10beef203ec80f32ec417f24957c7af7b5f712399dfe43ad30b2d5ecdca", func := "intaglio/intagliolaw17.LargeAlone", spec := "largeAlone", inPlace := ["sync/atomic.AddInt64", "sync/atomic.LoadInt64", "internal/reflectlite.ValueOf", "(internal/reflectlite.Value).Type", "(internal/reflectlite.Value).IsNil", "internal/reflectlite.TypeOf", "(internal/reflectlite.Value).Elem", "(internal/reflectlite.Value).Set"], unfollowed := true, recurses := true, named := ["errors.errorType"], apart := false, laid := [("errors.errorType", laid_errors_errorType)], narrowed := true }
def LargeAloneUptoSaid : Prop := largeAloneUptoRow.holds Tryz.pinned (OpenSpec.upto largeAloneSpec)

/-- 'intagliolaw17.LargeLast', WHERE WHAT IT READS IS OF BULK AT MOST 1048576: true; the input reads as it did. -/
def largeLastUptoRow : OpenClaim := { program := "ytpcaijopodhdgaagreatdoor", sum := "58b1c10beef203ec80f32ec417f24957c7af7b5f712399dfe43ad30b2d5ecdca", func := "intaglio/intagliolaw17.LargeLast", spec := "largeLast", inPlace := ["sync/atomic.AddInt64", "sync/atomic.LoadInt64", "internal/reflectlite.ValueOf", "(internal/reflectlite.Value).Type", "(internal/reflectlite.Value).IsNil", "internal/reflectlite.TypeOf", "(internal/reflectlite.Value).Elem", "(internal/reflectlite.Value).Set"], unfollowed := true, recurses := true, named := ["errors.errorType"], apart := false, laid := [("errors.errorType", laid_errors_errorType)], narrowed := true }
def LargeLastUptoSaid : Prop := largeLastUptoRow.holds Tryz.pinned (OpenSpec.upto largeLastSpec)

/-- 'intagliolaw17.LargeApart', WHERE WHAT IT READS IS OF BULK AT MOST 1048576: true; the input reads as it did. -/
def largeApartUptoRow : OpenClaim := { program := "ytpcaijopodhdgaagreatdoor", sum := "58b1c10beef203ec80f32ec417f24957c7af7b5f712399dfe43ad30b2d5ecdca", func := "intaglio/intagliolaw17.LargeApart", spec := "largeApart", inPlace := ["sync/atomic.AddInt64", "sync/atomic.LoadInt64", "internal/reflectlite.ValueOf", "(internal/reflectlite.Value).Type", "(internal/reflectlite.Value).IsNil", "internal/reflectlite.TypeOf", "(internal/reflectlite.Value).Elem", "(internal/reflectlite.Value).Set"], unfollowed := true, recurses := true, named := ["errors.errorType"], apart := false, laid := [("errors.errorType", laid_errors_errorType)], narrowed := true }
def LargeApartUptoSaid : Prop := largeApartUptoRow.holds Tryz.pinned (OpenSpec.upto largeApartSpec)

/-- 'intagliolaw17.LargeWhole', WHERE WHAT IT READS IS OF BULK AT MOST 1048576: true; the input reads as it did. -/
def largeWholeUptoRow : OpenClaim := { program := "ytpcaijopodhdgaagreatdoor", sum := "58b1c10beef203ec80f32ec417f24957c7af7b5f712399dfe43ad30b2d5ecdca", func := "intaglio/intagliolaw17.LargeWhole", spec := "largeWhole", inPlace := ["sync/atomic.AddInt64", "sync/atomic.LoadInt64", "internal/reflectlite.ValueOf", "(internal/reflectlite.Value).Type", "(internal/reflectlite.Value).IsNil", "internal/reflectlite.TypeOf", "(internal/reflectlite.Value).Elem", "(internal/reflectlite.Value).Set"], unfollowed := true, recurses := true, named := ["errors.errorType"], apart := false, laid := [("errors.errorType", laid_errors_errorType)], narrowed := true }
def LargeWholeUptoSaid : Prop := largeWholeUptoRow.holds Tryz.pinned (OpenSpec.upto largeWholeSpec)

/-- 'intagliolaw17.LargePlays', WHERE WHAT IT READS IS OF BULK AT MOST 1048576: true; the input reads as it did. -/
def largePlaysUptoRow : OpenClaim := { program := "ytpcaijopodhdgaagreatdoor", sum := "58b1c10beef203ec80f32ec417f24957c7af7b5f712399dfe43ad30b2d5ecdca", func := "intaglio/intagliolaw17.LargePlays", spec := "largePlays", inPlace := ["sync/atomic.AddInt64", "sync/atomic.LoadInt64", "internal/reflectlite.ValueOf", "(internal/reflectlite.Value).Type", "(internal/reflectlite.Value).IsNil", "internal/reflectlite.TypeOf", "(internal/reflectlite.Value).Elem", "(internal/reflectlite.Value).Set"], unfollowed := true, recurses := true, named := ["errors.errorType"], apart := false, laid := [("errors.errorType", laid_errors_errorType)], narrowed := true }
def LargePlaysUptoSaid : Prop := largePlaysUptoRow.holds Tryz.pinned (OpenSpec.upto largePlaysSpec)

end Rows
end Go.Proofs.YtpcaijopodhdgaaGreatDoor
