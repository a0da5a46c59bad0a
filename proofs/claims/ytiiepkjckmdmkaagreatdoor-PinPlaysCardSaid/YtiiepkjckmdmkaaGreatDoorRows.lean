/-
  NARROWER THAN 'FOR EVERY INPUT', by the rows' own cells (each row's printed sentence says how): PinNil: laid · PinKeeps: laid · PinPlays: laid.
  DERIVED. THE GIVEN ROWS OF THIS SEAT. 3 by the template 'for every input the law returns true; each argument reads behind the call as it read before'; 0 by the template 'total and deterministic' (their statements: YtiiepkjckmdmkaaGreatDoorTotals.lean).
  GIVEN WITH THE SEED: the statements are not yours to turn. If you find one false, say at which input.
  Laid BY PROGRAM, IN A SANDBOX (cutbox-rows.mjs): the forced cells as the released guide's own fill.sh prints them over the translation caf7224132b4374b… (all of the seat's roots in one cut). By AI agents, Wed Nov 11 2026. No macro, syntax, notation, axiom, sorry.
-/
import Derived.Test.YtiiepkjckmdmkaaGreatDoorChecked
import GoSem.Claim
import GoSem.ClaimJoined
import GoSem.ClaimMapViews
import Derived.JoinedTies
import Derived.KernelRfl
namespace Go.Proofs.YtiiepkjckmdmkaaGreatDoor
/- THE CELL 'sum', in the pinned program and in every row, IS THE sha256 OF THE DUMP (.gsa) THAT YtiiepkjckmdmkaaGreatDoorProg.lean LOADS. Nothing in Lean hashes anything: it is a label: what it is worth is what the hold of that sum in a sandbox is worth. -/
noncomputable def Tryz.pinned : Pinned := { name := "ytiiepkjckmdmkaagreatdoor", sum := "caf7224132b4374b429ccf273375ddf6db1f439573249684b8f940cb0383876a", checked := Tryz.checked }
namespace Rows
def none {H : Type} : Left H := { results := [], args := [] }

/- WHAT THE LISTED PACKAGE-LEVEL VARIABLES READ AS WHEN THE CALL BEGINS. Each datum BY PROGRAM (the guide's laid-datum.mjs) off the statement by which the dump's own 'gosem.cut.vars' lays the variable. In a bare row this is a premise. The card (YtiiepkjckmdmkaaGreatDoorCards.lean) ties it to the program's text. -/
def laid_errors_errorType {H : Type} : DataW H := .iface "internal/reflectlite.rtype" (.agg [.ptr (.lit (.string [101, 114, 114, 111, 114]))])

/-- 'intagliolaw18.PinNil': WHATEVER THE INPUT: true; the input reads as it did. -/
def pinNilSpec : ChangeSpec := { name := "pinNil", fn := fun _ => fun
  | [d] => { results := [.lit (.bool true)], args := [d] }
  | _ => none }
def pinNilRow : OpenClaim := { program := "ytiiepkjckmdmkaagreatdoor", sum := "caf7224132b4374b429ccf273375ddf6db1f439573249684b8f940cb0383876a", func := "intaglio/intagliolaw18.PinNil", spec := "pinNil", inPlace := ["sync/atomic.AddInt64", "internal/reflectlite.ValueOf", "(internal/reflectlite.Value).Type", "(internal/reflectlite.Value).IsNil", "internal/reflectlite.TypeOf", "(internal/reflectlite.Value).Elem", "(internal/reflectlite.Value).Set", "sync/atomic.LoadInt64"], unfollowed := true, recurses := true, named := ["errors.errorType"], apart := false, laid := [("errors.errorType", laid_errors_errorType)] }
def PinNilSaid : Prop := pinNilRow.holds Tryz.pinned (OpenSpec.ofChange pinNilSpec)

/-- ITS FALSE NEIGHBOUR: 'it returns false'. Refute it at one input. -/
def pinNilWrong : ChangeSpec := { name := "pinNil", fn := fun _ => fun
  | [d] => { results := [.lit (.bool false)], args := [d] }
  | _ => none }
def PinNilWrongFalsely : Prop := pinNilRow.holds Tryz.pinned (OpenSpec.ofChange pinNilWrong)

/-- 'intagliolaw18.PinKeeps': WHATEVER THE INPUT: true; the input reads as it did. -/
def pinKeepsSpec : ChangeSpec := { name := "pinKeeps", fn := fun _ => fun
  | [d1, d2] => { results := [.lit (.bool true)], args := [d1, d2] }
  | _ => none }
def pinKeepsRow : OpenClaim := { program := "ytiiepkjckmdmkaagreatdoor", sum := "caf7224132b4374b429ccf273375ddf6db1f439573249684b8f940cb0383876a", func := "intaglio/intagliolaw18.PinKeeps", spec := "pinKeeps", inPlace := ["sync/atomic.AddInt64", "internal/reflectlite.ValueOf", "(internal/reflectlite.Value).Type", "(internal/reflectlite.Value).IsNil", "internal/reflectlite.TypeOf", "(internal/reflectlite.Value).Elem", "(internal/reflectlite.Value).Set", "sync/atomic.LoadInt64"], unfollowed := true, recurses := true, named := ["errors.errorType"], apart := false, laid := [("errors.errorType", laid_errors_errorType)] }
def PinKeepsSaid : Prop := pinKeepsRow.holds Tryz.pinned (OpenSpec.ofChange pinKeepsSpec)

/-- ITS FALSE NEIGHBOUR: 'it returns false'. Refute it at one input. -/
def pinKeepsWrong : ChangeSpec := { name := "pinKeeps", fn := fun _ => fun
  | [d1, d2] => { results := [.lit (.bool false)], args := [d1, d2] }
  | _ => none }
def PinKeepsWrongFalsely : Prop := pinKeepsRow.holds Tryz.pinned (OpenSpec.ofChange pinKeepsWrong)

/-- 'intagliolaw18.PinPlays': WHATEVER THE INPUT: true; the input reads as it did. -/
def pinPlaysSpec : ChangeSpec := { name := "pinPlays", fn := fun _ => fun
  | [d1, d2] => { results := [.lit (.bool true)], args := [d1, d2] }
  | _ => none }
def pinPlaysRow : OpenClaim := { program := "ytiiepkjckmdmkaagreatdoor", sum := "caf7224132b4374b429ccf273375ddf6db1f439573249684b8f940cb0383876a", func := "intaglio/intagliolaw18.PinPlays", spec := "pinPlays", inPlace := ["sync/atomic.AddInt64", "internal/reflectlite.ValueOf", "(internal/reflectlite.Value).Type", "(internal/reflectlite.Value).IsNil", "internal/reflectlite.TypeOf", "(internal/reflectlite.Value).Elem", "(internal/reflectlite.Value).Set", "sync/atomic.LoadInt64"], unfollowed := true, recurses := true, named := ["errors.errorType"], apart := false, laid := [("errors.errorType", laid_errors_errorType)] }
def PinPlaysSaid : Prop := pinPlaysRow.holds Tryz.pinned (OpenSpec.ofChange pinPlaysSpec)

/-- ITS FALSE NEIGHBOUR: 'it returns false'. Refute it at one input. -/
def pinPlaysWrong : ChangeSpec := { name := "pinPlays", fn := fun _ => fun
  | [d1, d2] => { results := [.lit (.bool false)], args := [d1, d2] }
  | _ => none }
def PinPlaysWrongFalsely : Prop := pinPlaysRow.holds Tryz.pinned (OpenSpec.ofChange pinPlaysWrong)

/- THE SECOND FORM. 'bulk': how many values and letters a reading holds, each counted each time it is reached (what is shared counts as often as it is met; a slice's spare places count too). A statement '..UptoSaid' is the law's where the arguments, and the package variables that the reading takes, are together of bulk at most 1048576: NARROWER than '..Said'. Prove '..Said' where nothing that the law and all that it calls make is longer than what came in: it says more and counts as full. Else prove '..UptoSaid'. A law counts once. -/
mutual
def uptoBulk {H : Type} : DataW H → Nat
  | .lit (.string bytes) => bytes.length + 1
  | .lit _ => 1
  | .nil => 1
  | .ptr d => uptoBulk d + 1
  | .slice elems spare => uptoBulkAll elems + uptoBulkAll spare + 1
  | .agg parts => uptoBulkAll parts + 1
  | .iface _ d => uptoBulk d + 1
  | .map entries => uptoBulkEntries entries + 1
  | .held _ => 1
def uptoBulkAll {H : Type} : List (DataW H) → Nat
  | [] => 0
  | d :: r => uptoBulk d + uptoBulkAll r
def uptoBulkEntries {H : Type} : List (Lit × DataW H) → Nat
  | [] => 0
  | x :: r => uptoBulkEntry x + uptoBulkEntries r
def uptoBulkEntry {H : Type} : Lit × DataW H → Nat
  | (.string bytes, d) => bytes.length + uptoBulk d + 1
  | (_, d) => uptoBulk d + 1
 end
def uptoSmall : (H : Type) → List (DataW H) → Bool := fun _ ds => decide (uptoBulkAll ds ≤ 1048576)
def OpenSpec.upto (s : _root_.Go.ChangeSpec) : _root_.Go.OpenSpec := { _root_.Go.OpenSpec.ofChange s with cond := some uptoSmall }

/-- 'intagliolaw18.PinNil', WHERE WHAT IT READS IS OF BULK AT MOST 1048576: true; the input reads as it did. -/
def pinNilUptoRow : OpenClaim := { program := "ytiiepkjckmdmkaagreatdoor", sum := "caf7224132b4374b429ccf273375ddf6db1f439573249684b8f940cb0383876a", func := "intaglio/intagliolaw18.PinNil", spec := "pinNil", inPlace := ["sync/atomic.AddInt64", "internal/reflectlite.ValueOf", "(internal/reflectlite.Value).Type", "(internal/reflectlite.Value).IsNil", "internal/reflectlite.TypeOf", "(internal/reflectlite.Value).Elem", "(internal/reflectlite.Value).Set", "sync/atomic.LoadInt64"], unfollowed := true, recurses := true, named := ["errors.errorType"], apart := false, laid := [("errors.errorType", laid_errors_errorType)], narrowed := true }
def PinNilUptoSaid : Prop := pinNilUptoRow.holds Tryz.pinned (OpenSpec.upto pinNilSpec)

/-- 'intagliolaw18.PinKeeps', WHERE WHAT IT READS IS OF BULK AT MOST 1048576: true; the input reads as it did. -/
def pinKeepsUptoRow : OpenClaim := { program := "ytiiepkjckmdmkaagreatdoor", sum := "caf7224132b4374b429ccf273375ddf6db1f439573249684b8f940cb0383876a", func := "intaglio/intagliolaw18.PinKeeps", spec := "pinKeeps", inPlace := ["sync/atomic.AddInt64", "internal/reflectlite.ValueOf", "(internal/reflectlite.Value).Type", "(internal/reflectlite.Value).IsNil", "internal/reflectlite.TypeOf", "(internal/reflectlite.Value).Elem", "(internal/reflectlite.Value).Set", "sync/atomic.LoadInt64"], unfollowed := true, recurses := true, named := ["errors.errorType"], apart := false, laid := [("errors.errorType", laid_errors_errorType)], narrowed := true }
def PinKeepsUptoSaid : Prop := pinKeepsUptoRow.holds Tryz.pinned (OpenSpec.upto pinKeepsSpec)

/-- 'intagliolaw18.PinPlays', WHERE WHAT IT READS IS OF BULK AT MOST 1048576: true; the input reads as it did. -/
def pinPlaysUptoRow : OpenClaim := { program := "ytiiepkjckmdmkaagreatdoor", sum := "caf7224132b4374b429ccf273375ddf6db1f439573249684b8f940cb0383876a", func := "intaglio/intagliolaw18.PinPlays", spec := "pinPlays", inPlace := ["sync/atomic.AddInt64", "internal/reflectlite.ValueOf", "(internal/reflectlite.Value).Type", "(internal/reflectlite.Value).IsNil", "internal/reflectlite.TypeOf", "(internal/reflectlite.Value).Elem", "(internal/reflectlite.Value).Set", "sync/atomic.LoadInt64"], unfollowed := true, recurses := true, named := ["errors.errorType"], apart := false, laid := [("errors.errorType", laid_errors_errorType)], narrowed := true }
def PinPlaysUptoSaid : Prop := pinPlaysUptoRow.holds Tryz.pinned (OpenSpec.upto pinPlaysSpec)

end Rows
end Go.Proofs.YtiiepkjckmdmkaaGreatDoor
