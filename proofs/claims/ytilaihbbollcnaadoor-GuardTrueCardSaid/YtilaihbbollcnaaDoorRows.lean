/-
  NARROWER THAN 'FOR EVERY INPUT', by the rows' own cells (each row's printed sentence says how): GuardAlone: laid · GuardNil: laid · GuardTrue: laid · GuardSteady: laid.
  DERIVED. THE GIVEN ROWS OF THIS SEAT. 4 by the template 'for every input the law returns true; each argument reads behind the call as it read before'; 0 by the template 'total and deterministic' (their statements: YtilaihbbollcnaaDoorTotals.lean).
  GIVEN WITH THE SEED: the statements are not yours to turn. If you find one false, say at which input.
  Laid BY PROGRAM, IN A SANDBOX (cutbox-rows.mjs): the forced cells as the released guide's own fill.sh prints them over the translation 12633dbb5dabe6e0… (all of the seat's roots in one cut). By AI agents, Wed Nov 11 2026. No macro, syntax, notation, axiom, sorry.
-/
import Derived.Test.YtilaihbbollcnaaDoorChecked
import GoSem.Claim
import GoSem.ClaimJoined
import GoSem.ClaimMapViews
import Derived.JoinedTies
import Derived.KernelRfl
namespace Go.Proofs.YtilaihbbollcnaaDoor
/- THE CELL 'sum', in the pinned program and in every row, IS THE sha256 OF THE DUMP (.gsa) THAT YtilaihbbollcnaaDoorProg.lean LOADS. Nothing in Lean hashes anything: it is a label: what it is worth is what the hold of that sum in a sandbox is worth. -/
noncomputable def Tryd.pinned : Pinned := { name := "ytilaihbbollcnaadoor", sum := "12633dbb5dabe6e06b84d4b567ef33bb7443ddae84efc93f4f9c1eb13742f4ca", checked := Tryd.checked }
namespace Rows
def none {H : Type} : Left H := { results := [], args := [] }

/- WHAT THE LISTED PACKAGE-LEVEL VARIABLES READ AS WHEN THE CALL BEGINS. Each datum BY PROGRAM (the guide's laid-datum.mjs) off the statement by which the dump's own 'gosem.cut.vars' lays the variable. In a bare row this is a premise. The card (YtilaihbbollcnaaDoorCards.lean) ties it to the program's text. -/
def laid_errors_errorType {H : Type} : DataW H := .iface "internal/reflectlite.rtype" (.agg [.ptr (.lit (.string [101, 114, 114, 111, 114]))])

/-- 'intagliolaw14.GuardAlone': WHATEVER THE INPUT: true; the input reads as it did. -/
def guardAloneSpec : ChangeSpec := { name := "guardAlone", fn := fun _ => fun
  | [d1, d2, d3] => { results := [.lit (.bool true)], args := [d1, d2, d3] }
  | _ => none }
def guardAloneRow : OpenClaim := { program := "ytilaihbbollcnaadoor", sum := "12633dbb5dabe6e06b84d4b567ef33bb7443ddae84efc93f4f9c1eb13742f4ca", func := "intaglio/intagliolaw14.GuardAlone", spec := "guardAlone", inPlace := ["sync/atomic.AddInt64", "sync/atomic.LoadInt64", "internal/reflectlite.ValueOf", "(internal/reflectlite.Value).Type", "(internal/reflectlite.Value).IsNil", "internal/reflectlite.TypeOf", "(internal/reflectlite.Value).Elem", "(internal/reflectlite.Value).Set"], unfollowed := true, recurses := true, named := ["errors.errorType"], apart := false, laid := [("errors.errorType", laid_errors_errorType)] }
def GuardAloneSaid : Prop := guardAloneRow.holds Tryd.pinned (OpenSpec.ofChange guardAloneSpec)

/-- ITS FALSE NEIGHBOUR: 'it returns false'. Refute it at one input. -/
def guardAloneWrong : ChangeSpec := { name := "guardAlone", fn := fun _ => fun
  | [d1, d2, d3] => { results := [.lit (.bool false)], args := [d1, d2, d3] }
  | _ => none }
def GuardAloneWrongFalsely : Prop := guardAloneRow.holds Tryd.pinned (OpenSpec.ofChange guardAloneWrong)

/-- 'intagliolaw14.GuardNil': WHATEVER THE INPUT: true; the input reads as it did. -/
def guardNilSpec : ChangeSpec := { name := "guardNil", fn := fun _ => fun
  | [d] => { results := [.lit (.bool true)], args := [d] }
  | _ => none }
def guardNilRow : OpenClaim := { program := "ytilaihbbollcnaadoor", sum := "12633dbb5dabe6e06b84d4b567ef33bb7443ddae84efc93f4f9c1eb13742f4ca", func := "intaglio/intagliolaw14.GuardNil", spec := "guardNil", inPlace := ["sync/atomic.AddInt64", "sync/atomic.LoadInt64", "internal/reflectlite.ValueOf", "(internal/reflectlite.Value).Type", "(internal/reflectlite.Value).IsNil", "internal/reflectlite.TypeOf", "(internal/reflectlite.Value).Elem", "(internal/reflectlite.Value).Set"], unfollowed := true, recurses := true, named := ["errors.errorType"], apart := false, laid := [("errors.errorType", laid_errors_errorType)] }
def GuardNilSaid : Prop := guardNilRow.holds Tryd.pinned (OpenSpec.ofChange guardNilSpec)

/-- ITS FALSE NEIGHBOUR: 'it returns false'. Refute it at one input. -/
def guardNilWrong : ChangeSpec := { name := "guardNil", fn := fun _ => fun
  | [d] => { results := [.lit (.bool false)], args := [d] }
  | _ => none }
def GuardNilWrongFalsely : Prop := guardNilRow.holds Tryd.pinned (OpenSpec.ofChange guardNilWrong)

/-- 'intagliolaw14.GuardTrue': WHATEVER THE INPUT: true; the input reads as it did. -/
def guardTrueSpec : ChangeSpec := { name := "guardTrue", fn := fun _ => fun
  | [d1, d2, d3] => { results := [.lit (.bool true)], args := [d1, d2, d3] }
  | _ => none }
def guardTrueRow : OpenClaim := { program := "ytilaihbbollcnaadoor", sum := "12633dbb5dabe6e06b84d4b567ef33bb7443ddae84efc93f4f9c1eb13742f4ca", func := "intaglio/intagliolaw14.GuardTrue", spec := "guardTrue", inPlace := ["sync/atomic.AddInt64", "sync/atomic.LoadInt64", "internal/reflectlite.ValueOf", "(internal/reflectlite.Value).Type", "(internal/reflectlite.Value).IsNil", "internal/reflectlite.TypeOf", "(internal/reflectlite.Value).Elem", "(internal/reflectlite.Value).Set"], unfollowed := true, recurses := true, named := ["errors.errorType"], apart := false, laid := [("errors.errorType", laid_errors_errorType)] }
def GuardTrueSaid : Prop := guardTrueRow.holds Tryd.pinned (OpenSpec.ofChange guardTrueSpec)

/-- ITS FALSE NEIGHBOUR: 'it returns false'. Refute it at one input. -/
def guardTrueWrong : ChangeSpec := { name := "guardTrue", fn := fun _ => fun
  | [d1, d2, d3] => { results := [.lit (.bool false)], args := [d1, d2, d3] }
  | _ => none }
def GuardTrueWrongFalsely : Prop := guardTrueRow.holds Tryd.pinned (OpenSpec.ofChange guardTrueWrong)

/-- 'intagliolaw14.GuardSteady': WHATEVER THE INPUT: true; the input reads as it did. -/
def guardSteadySpec : ChangeSpec := { name := "guardSteady", fn := fun _ => fun
  | [d1, d2] => { results := [.lit (.bool true)], args := [d1, d2] }
  | _ => none }
def guardSteadyRow : OpenClaim := { program := "ytilaihbbollcnaadoor", sum := "12633dbb5dabe6e06b84d4b567ef33bb7443ddae84efc93f4f9c1eb13742f4ca", func := "intaglio/intagliolaw14.GuardSteady", spec := "guardSteady", inPlace := ["sync/atomic.AddInt64", "sync/atomic.LoadInt64", "internal/reflectlite.ValueOf", "(internal/reflectlite.Value).Type", "(internal/reflectlite.Value).IsNil", "internal/reflectlite.TypeOf", "(internal/reflectlite.Value).Elem", "(internal/reflectlite.Value).Set"], unfollowed := true, recurses := true, named := ["errors.errorType"], apart := false, laid := [("errors.errorType", laid_errors_errorType)] }
def GuardSteadySaid : Prop := guardSteadyRow.holds Tryd.pinned (OpenSpec.ofChange guardSteadySpec)

/-- ITS FALSE NEIGHBOUR: 'it returns false'. Refute it at one input. -/
def guardSteadyWrong : ChangeSpec := { name := "guardSteady", fn := fun _ => fun
  | [d1, d2] => { results := [.lit (.bool false)], args := [d1, d2] }
  | _ => none }
def GuardSteadyWrongFalsely : Prop := guardSteadyRow.holds Tryd.pinned (OpenSpec.ofChange guardSteadyWrong)

/- THE SECOND FORM. 'bulk': how many values and letters a reading holds, each counted each time it is reached (what is shared counts as often as it is met; a slice's spare places count too). A statement '..UptoSaid' is the law's where the arguments, and the package variables that the reading takes, are together of bulk at most 1048576: NARROWER than '..Said'. Prove '..Said' where nothing that the law and all that it calls make is longer than what came in: it says more and counts as full. Else prove '..UptoSaid'. A law counts once. -/
mutual
def uptoBulk {H : Type} : DataW H → Nat
  | .lit (.string bytes) => bytes.length + 1
  | .lit _ => 1
  | .nil => 1
  | .ptr d => uptoBulk d + 1
  | .slice elems spare => uptoBulkAll elems + uptoBulkAll spare + 1
  | .agg parts => uptoBulkAll parts + 1
  | .iface _ d => uptoBulk d + 1
  | .map entries => uptoBulkEntries entries + 1
  | .held _ => 1
def uptoBulkAll {H : Type} : List (DataW H) → Nat
  | [] => 0
  | d :: r => uptoBulk d + uptoBulkAll r
def uptoBulkEntries {H : Type} : List (Lit × DataW H) → Nat
  | [] => 0
  | x :: r => uptoBulkEntry x + uptoBulkEntries r
def uptoBulkEntry {H : Type} : Lit × DataW H → Nat
  | (.string bytes, d) => bytes.length + uptoBulk d + 1
  | (_, d) => uptoBulk d + 1
 end
def uptoSmall : (H : Type) → List (DataW H) → Bool := fun _ ds => decide (uptoBulkAll ds ≤ 1048576)
def OpenSpec.upto (s : _root_.Go.ChangeSpec) : _root_.Go.OpenSpec := { _root_.Go.OpenSpec.ofChange s with cond := some uptoSmall }

/-- 'intagliolaw14.GuardAlone', WHERE WHAT IT READS IS OF BULK AT MOST 1048576: true; the input reads as it did. -/
def guardAloneUptoRow : OpenClaim := { program := "ytilaihbbollcnaadoor", sum := "12633dbb5dabe6e06b84d4b567ef33bb7443ddae84efc93f4f9c1eb13742f4ca", func := "intaglio/intagliolaw14.GuardAlone", spec := "guardAlone", inPlace := ["sync/atomic.AddInt64", "sync/atomic.LoadInt64", "internal/reflectlite.ValueOf", "(internal/reflectlite.Value).Type", "(internal/reflectlite.Value).IsNil", "internal/reflectlite.TypeOf", "(internal/reflectlite.Value).Elem", "(internal/reflectlite.Value).Set"], unfollowed := true, recurses := true, named := ["errors.errorType"], apart := false, laid := [("errors.errorType", laid_errors_errorType)], narrowed := true }
def GuardAloneUptoSaid : Prop := guardAloneUptoRow.holds Tryd.pinned (OpenSpec.upto guardAloneSpec)

/-- 'intagliolaw14.GuardNil', WHERE WHAT IT READS IS OF BULK AT MOST 1048576: true; the input reads as it did. -/
def guardNilUptoRow : OpenClaim := { program := "ytilaihbbollcnaadoor", sum := "12633dbb5dabe6e06b84d4b567ef33bb7443ddae84efc93f4f9c1eb13742f4ca", func := "intaglio/intagliolaw14.GuardNil", spec := "guardNil", inPlace := ["sync/atomic.AddInt64", "sync/atomic.LoadInt64", "internal/reflectlite.ValueOf", "(internal/reflectlite.Value).Type", "(internal/reflectlite.Value).IsNil", "internal/reflectlite.TypeOf", "(internal/reflectlite.Value).Elem", "(internal/reflectlite.Value).Set"], unfollowed := true, recurses := true, named := ["errors.errorType"], apart := false, laid := [("errors.errorType", laid_errors_errorType)], narrowed := true }
def GuardNilUptoSaid : Prop := guardNilUptoRow.holds Tryd.pinned (OpenSpec.upto guardNilSpec)

/-- 'intagliolaw14.GuardTrue', WHERE WHAT IT READS IS OF BULK AT MOST 1048576: true; the input reads as it did. -/
def guardTrueUptoRow : OpenClaim := { program := "ytilaihbbollcnaadoor", sum := "12633dbb5dabe6e06b84d4b567ef33bb7443ddae84efc93f4f9c1eb13742f4ca", func := "intaglio/intagliolaw14.GuardTrue", spec := "guardTrue", inPlace := ["sync/atomic.AddInt64", "sync/atomic.LoadInt64", "internal/reflectlite.ValueOf", "(internal/reflectlite.Value).Type", "(internal/reflectlite.Value).IsNil", "internal/reflectlite.TypeOf", "(internal/reflectlite.Value).Elem", "(internal/reflectlite.Value).Set"], unfollowed := true, recurses := true, named := ["errors.errorType"], apart := false, laid := [("errors.errorType", laid_errors_errorType)], narrowed := true }
def GuardTrueUptoSaid : Prop := guardTrueUptoRow.holds Tryd.pinned (OpenSpec.upto guardTrueSpec)

/-- 'intagliolaw14.GuardSteady', WHERE WHAT IT READS IS OF BULK AT MOST 1048576: true; the input reads as it did. -/
def guardSteadyUptoRow : OpenClaim := { program := "ytilaihbbollcnaadoor", sum := "12633dbb5dabe6e06b84d4b567ef33bb7443ddae84efc93f4f9c1eb13742f4ca", func := "intaglio/intagliolaw14.GuardSteady", spec := "guardSteady", inPlace := ["sync/atomic.AddInt64", "sync/atomic.LoadInt64", "internal/reflectlite.ValueOf", "(internal/reflectlite.Value).Type", "(internal/reflectlite.Value).IsNil", "internal/reflectlite.TypeOf", "(internal/reflectlite.Value).Elem", "(internal/reflectlite.Value).Set"], unfollowed := true, recurses := true, named := ["errors.errorType"], apart := false, laid := [("errors.errorType", laid_errors_errorType)], narrowed := true }
def GuardSteadyUptoSaid : Prop := guardSteadyUptoRow.holds Tryd.pinned (OpenSpec.upto guardSteadySpec)

end Rows
end Go.Proofs.YtilaihbbollcnaaDoor
