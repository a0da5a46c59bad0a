/-
  NARROWER THAN 'FOR EVERY INPUT', by the rows' own cells (each row's printed sentence says how): ClientFields: laid · ClientAlone: laid · ClientKeeps: laid · ClientBlocks: laid · ClientSlots: laid · ClientNil: laid.
  DERIVED. THE GIVEN ROWS OF THIS SEAT. 6 by the template 'for every input the law returns true; each argument reads behind the call as it read before'; 0 by the template 'total and deterministic' (their statements: YtnnoeefjnpcfnaaGreatDoorTotals.lean).
  GIVEN WITH THE SEED: the statements are not yours to turn. If you find one false, say at which input.
  Laid BY PROGRAM, IN A SANDBOX (cutbox-rows.mjs): the forced cells as the released guide's own fill.sh prints them over the translation 7ddd5e0af48ee662… (all of the seat's roots in one cut). By AI agents, Wed Nov 11 2026. No macro, syntax, notation, axiom, sorry.
-/
import Derived.Test.YtnnoeefjnpcfnaaGreatDoorChecked
import GoSem.Claim
import GoSem.ClaimJoined
import GoSem.ClaimMapViews
import Derived.JoinedTies
import Derived.KernelRfl
namespace Go.Proofs.YtnnoeefjnpcfnaaGreatDoor
/- THE CELL 'sum', in the pinned program and in every row, IS THE sha256 OF THE DUMP (.gsa) THAT YtnnoeefjnpcfnaaGreatDoorProg.lean LOADS. Nothing in Lean hashes anything: it is a label: what it is worth is what the hold of that sum in a sandbox is worth. -/
noncomputable def Tryz.pinned : Pinned := { name := "ytnnoeefjnpcfnaagreatdoor", sum := "7ddd5e0af48ee6626277b800f329f50436a3b4ad922e6c7dde74a0464f90ea2d", checked := Tryz.checked }
namespace Rows
def none {H : Type} : Left H := { results := [], args := [] }

/- WHAT THE LISTED PACKAGE-LEVEL VARIABLES READ AS WHEN THE CALL BEGINS. Each datum BY PROGRAM (the guide's laid-datum.mjs) off the statement by which the dump's own 'gosem.cut.vars' lays the variable. In a bare row this is a premise. The card (YtnnoeefjnpcfnaaGreatDoorCards.lean) ties it to the program's text. -/
def laid_errors_errorType {H : Type} : DataW H := .iface "internal/reflectlite.rtype" (.agg [.ptr (.lit (.string [101, 114, 114, 111, 114]))])

/-- 'intagliolaw21.ClientFields': WHATEVER THE INPUT: true; the input reads as it did. -/
def clientFieldsSpec : ChangeSpec := { name := "clientFields", fn := fun _ => fun
  | [d1, d2] => { results := [.lit (.bool true)], args := [d1, d2] }
  | _ => none }
def clientFieldsRow : OpenClaim := { program := "ytnnoeefjnpcfnaagreatdoor", sum := "7ddd5e0af48ee6626277b800f329f50436a3b4ad922e6c7dde74a0464f90ea2d", func := "intaglio/intagliolaw21.ClientFields", spec := "clientFields", inPlace := ["sync/atomic.AddInt64", "sync/atomic.LoadInt64", "internal/reflectlite.ValueOf", "(internal/reflectlite.Value).Type", "(internal/reflectlite.Value).IsNil", "internal/reflectlite.TypeOf", "(internal/reflectlite.Value).Elem", "(internal/reflectlite.Value).Set"], unfollowed := true, recurses := true, named := ["errors.errorType"], apart := false, laid := [("errors.errorType", laid_errors_errorType)] }
def ClientFieldsSaid : Prop := clientFieldsRow.holds Tryz.pinned (OpenSpec.ofChange clientFieldsSpec)

/-- ITS FALSE NEIGHBOUR: 'it returns false'. Refute it at one input. -/
def clientFieldsWrong : ChangeSpec := { name := "clientFields", fn := fun _ => fun
  | [d1, d2] => { results := [.lit (.bool false)], args := [d1, d2] }
  | _ => none }
def ClientFieldsWrongFalsely : Prop := clientFieldsRow.holds Tryz.pinned (OpenSpec.ofChange clientFieldsWrong)

/-- 'intagliolaw21.ClientAlone': WHATEVER THE INPUT: true; the input reads as it did. -/
def clientAloneSpec : ChangeSpec := { name := "clientAlone", fn := fun _ => fun
  | [d1, d2, d3] => { results := [.lit (.bool true)], args := [d1, d2, d3] }
  | _ => none }
def clientAloneRow : OpenClaim := { program := "ytnnoeefjnpcfnaagreatdoor", sum := "7ddd5e0af48ee6626277b800f329f50436a3b4ad922e6c7dde74a0464f90ea2d", func := "intaglio/intagliolaw21.ClientAlone", spec := "clientAlone", inPlace := ["sync/atomic.AddInt64", "sync/atomic.LoadInt64", "internal/reflectlite.ValueOf", "(internal/reflectlite.Value).Type", "(internal/reflectlite.Value).IsNil", "internal/reflectlite.TypeOf", "(internal/reflectlite.Value).Elem", "(internal/reflectlite.Value).Set"], unfollowed := true, recurses := true, named := ["errors.errorType"], apart := false, laid := [("errors.errorType", laid_errors_errorType)] }
def ClientAloneSaid : Prop := clientAloneRow.holds Tryz.pinned (OpenSpec.ofChange clientAloneSpec)

/-- ITS FALSE NEIGHBOUR: 'it returns false'. Refute it at one input. -/
def clientAloneWrong : ChangeSpec := { name := "clientAlone", fn := fun _ => fun
  | [d1, d2, d3] => { results := [.lit (.bool false)], args := [d1, d2, d3] }
  | _ => none }
def ClientAloneWrongFalsely : Prop := clientAloneRow.holds Tryz.pinned (OpenSpec.ofChange clientAloneWrong)

/-- 'intagliolaw21.ClientKeeps': WHATEVER THE INPUT: true; the input reads as it did. -/
def clientKeepsSpec : ChangeSpec := { name := "clientKeeps", fn := fun _ => fun
  | [d1, d2] => { results := [.lit (.bool true)], args := [d1, d2] }
  | _ => none }
def clientKeepsRow : OpenClaim := { program := "ytnnoeefjnpcfnaagreatdoor", sum := "7ddd5e0af48ee6626277b800f329f50436a3b4ad922e6c7dde74a0464f90ea2d", func := "intaglio/intagliolaw21.ClientKeeps", spec := "clientKeeps", inPlace := ["sync/atomic.AddInt64", "sync/atomic.LoadInt64", "internal/reflectlite.ValueOf", "(internal/reflectlite.Value).Type", "(internal/reflectlite.Value).IsNil", "internal/reflectlite.TypeOf", "(internal/reflectlite.Value).Elem", "(internal/reflectlite.Value).Set"], unfollowed := true, recurses := true, named := ["errors.errorType"], apart := false, laid := [("errors.errorType", laid_errors_errorType)] }
def ClientKeepsSaid : Prop := clientKeepsRow.holds Tryz.pinned (OpenSpec.ofChange clientKeepsSpec)

/-- ITS FALSE NEIGHBOUR: 'it returns false'. Refute it at one input. -/
def clientKeepsWrong : ChangeSpec := { name := "clientKeeps", fn := fun _ => fun
  | [d1, d2] => { results := [.lit (.bool false)], args := [d1, d2] }
  | _ => none }
def ClientKeepsWrongFalsely : Prop := clientKeepsRow.holds Tryz.pinned (OpenSpec.ofChange clientKeepsWrong)

/-- 'intagliolaw21.ClientBlocks': WHATEVER THE INPUT: true; the input reads as it did. -/
def clientBlocksSpec : ChangeSpec := { name := "clientBlocks", fn := fun _ => fun
  | [d1, d2] => { results := [.lit (.bool true)], args := [d1, d2] }
  | _ => none }
def clientBlocksRow : OpenClaim := { program := "ytnnoeefjnpcfnaagreatdoor", sum := "7ddd5e0af48ee6626277b800f329f50436a3b4ad922e6c7dde74a0464f90ea2d", func := "intaglio/intagliolaw21.ClientBlocks", spec := "clientBlocks", inPlace := ["sync/atomic.AddInt64", "sync/atomic.LoadInt64", "internal/reflectlite.ValueOf", "(internal/reflectlite.Value).Type", "(internal/reflectlite.Value).IsNil", "internal/reflectlite.TypeOf", "(internal/reflectlite.Value).Elem", "(internal/reflectlite.Value).Set"], unfollowed := true, recurses := true, named := ["errors.errorType"], apart := false, laid := [("errors.errorType", laid_errors_errorType)] }
def ClientBlocksSaid : Prop := clientBlocksRow.holds Tryz.pinned (OpenSpec.ofChange clientBlocksSpec)

/-- ITS FALSE NEIGHBOUR: 'it returns false'. Refute it at one input. -/
def clientBlocksWrong : ChangeSpec := { name := "clientBlocks", fn := fun _ => fun
  | [d1, d2] => { results := [.lit (.bool false)], args := [d1, d2] }
  | _ => none }
def ClientBlocksWrongFalsely : Prop := clientBlocksRow.holds Tryz.pinned (OpenSpec.ofChange clientBlocksWrong)

/-- 'intagliolaw21.ClientSlots': WHATEVER THE INPUT: true; the input reads as it did. -/
def clientSlotsSpec : ChangeSpec := { name := "clientSlots", fn := fun _ => fun
  | [d1, d2] => { results := [.lit (.bool true)], args := [d1, d2] }
  | _ => none }
def clientSlotsRow : OpenClaim := { program := "ytnnoeefjnpcfnaagreatdoor", sum := "7ddd5e0af48ee6626277b800f329f50436a3b4ad922e6c7dde74a0464f90ea2d", func := "intaglio/intagliolaw21.ClientSlots", spec := "clientSlots", inPlace := ["sync/atomic.AddInt64", "sync/atomic.LoadInt64", "internal/reflectlite.ValueOf", "(internal/reflectlite.Value).Type", "(internal/reflectlite.Value).IsNil", "internal/reflectlite.TypeOf", "(internal/reflectlite.Value).Elem", "(internal/reflectlite.Value).Set"], unfollowed := true, recurses := true, named := ["errors.errorType"], apart := false, laid := [("errors.errorType", laid_errors_errorType)] }
def ClientSlotsSaid : Prop := clientSlotsRow.holds Tryz.pinned (OpenSpec.ofChange clientSlotsSpec)

/-- ITS FALSE NEIGHBOUR: 'it returns false'. Refute it at one input. -/
def clientSlotsWrong : ChangeSpec := { name := "clientSlots", fn := fun _ => fun
  | [d1, d2] => { results := [.lit (.bool false)], args := [d1, d2] }
  | _ => none }
def ClientSlotsWrongFalsely : Prop := clientSlotsRow.holds Tryz.pinned (OpenSpec.ofChange clientSlotsWrong)

/-- 'intagliolaw21.ClientNil': WHATEVER THE INPUT: true; the input reads as it did. -/
def clientNilSpec : ChangeSpec := { name := "clientNil", fn := fun _ => fun
  | [d1, d2] => { results := [.lit (.bool true)], args := [d1, d2] }
  | _ => none }
def clientNilRow : OpenClaim := { program := "ytnnoeefjnpcfnaagreatdoor", sum := "7ddd5e0af48ee6626277b800f329f50436a3b4ad922e6c7dde74a0464f90ea2d", func := "intaglio/intagliolaw21.ClientNil", spec := "clientNil", inPlace := ["sync/atomic.AddInt64", "sync/atomic.LoadInt64", "internal/reflectlite.ValueOf", "(internal/reflectlite.Value).Type", "(internal/reflectlite.Value).IsNil", "internal/reflectlite.TypeOf", "(internal/reflectlite.Value).Elem", "(internal/reflectlite.Value).Set"], unfollowed := true, recurses := true, named := ["errors.errorType"], apart := false, laid := [("errors.errorType", laid_errors_errorType)] }
def ClientNilSaid : Prop := clientNilRow.holds Tryz.pinned (OpenSpec.ofChange clientNilSpec)

/-- ITS FALSE NEIGHBOUR: 'it returns false'. Refute it at one input. -/
def clientNilWrong : ChangeSpec := { name := "clientNil", fn := fun _ => fun
  | [d1, d2] => { results := [.lit (.bool false)], args := [d1, d2] }
  | _ => none }
def ClientNilWrongFalsely : Prop := clientNilRow.holds Tryz.pinned (OpenSpec.ofChange clientNilWrong)

/- THE SECOND FORM. 'bulk': how many values and letters a reading holds, each counted each time it is reached (what is shared counts as often as it is met; a slice's spare places count too). A statement '..UptoSaid' is the law's where the arguments, and the package variables that the reading takes, are together of bulk at most 1048576: NARROWER than '..Said'. Prove '..Said' where nothing that the law and all that it calls make is longer than what came in: it says more and counts as full. Else prove '..UptoSaid'. A law counts once. -/
mutual
def uptoBulk {H : Type} : DataW H → Nat
  | .lit (.string bytes) => bytes.length + 1
  | .lit _ => 1
  | .nil => 1
  | .ptr d => uptoBulk d + 1
  | .slice elems spare => uptoBulkAll elems + uptoBulkAll spare + 1
  | .agg parts => uptoBulkAll parts + 1
  | .iface _ d => uptoBulk d + 1
  | .map entries => uptoBulkEntries entries + 1
  | .held _ => 1
def uptoBulkAll {H : Type} : List (DataW H) → Nat
  | [] => 0
  | d :: r => uptoBulk d + uptoBulkAll r
def uptoBulkEntries {H : Type} : List (Lit × DataW H) → Nat
  | [] => 0
  | x :: r => uptoBulkEntry x + uptoBulkEntries r
def uptoBulkEntry {H : Type} : Lit × DataW H → Nat
  | (.string bytes, d) => bytes.length + uptoBulk d + 1
  | (_, d) => uptoBulk d + 1
 end
def uptoSmall : (H : Type) → List (DataW H) → Bool := fun _ ds => decide (uptoBulkAll ds ≤ 1048576)
def OpenSpec.upto (s : _root_.Go.ChangeSpec) : _root_.Go.OpenSpec := { _root_.Go.OpenSpec.ofChange s with cond := some uptoSmall }

/-- 'intagliolaw21.ClientFields', WHERE WHAT IT READS IS OF BULK AT MOST 1048576: true; the input reads as it did. -/
def clientFieldsUptoRow : OpenClaim := { program := "ytnnoeefjnpcfnaagreatdoor", sum := "7ddd5e0af48ee6626277b800f329f50436a3b4ad922e6c7dde74a0464f90ea2d", func := "intaglio/intagliolaw21.ClientFields", spec := "clientFields", inPlace := ["sync/atomic.AddInt64", "sync/atomic.LoadInt64", "internal/reflectlite.ValueOf", "(internal/reflectlite.Value).Type", "(internal/reflectlite.Value).IsNil", "internal/reflectlite.TypeOf", "(internal/reflectlite.Value).Elem", "(internal/reflectlite.Value).Set"], unfollowed := true, recurses := true, named := ["errors.errorType"], apart := false, laid := [("errors.errorType", laid_errors_errorType)], narrowed := true }
def ClientFieldsUptoSaid : Prop := clientFieldsUptoRow.holds Tryz.pinned (OpenSpec.upto clientFieldsSpec)

/-- 'intagliolaw21.ClientAlone', WHERE WHAT IT READS IS OF BULK AT MOST 1048576: true; the input reads as it did. -/
def clientAloneUptoRow : OpenClaim := { program := "ytnnoeefjnpcfnaagreatdoor", sum := "7ddd5e0af48ee6626277b800f329f50436a3b4ad922e6c7dde74a0464f90ea2d", func := "intaglio/intagliolaw21.ClientAlone", spec := "clientAlone", inPlace := ["sync/atomic.AddInt64", "sync/atomic.LoadInt64", "internal/reflectlite.ValueOf", "(internal/reflectlite.Value).Type", "(internal/reflectlite.Value).IsNil", "internal/reflectlite.TypeOf", "(internal/reflectlite.Value).Elem", "(internal/reflectlite.Value).Set"], unfollowed := true, recurses := true, named := ["errors.errorType"], apart := false, laid := [("errors.errorType", laid_errors_errorType)], narrowed := true }
def ClientAloneUptoSaid : Prop := clientAloneUptoRow.holds Tryz.pinned (OpenSpec.upto clientAloneSpec)

/-- 'intagliolaw21.ClientKeeps', WHERE WHAT IT READS IS OF BULK AT MOST 1048576: true; the input reads as it did. -/
def clientKeepsUptoRow : OpenClaim := { program := "ytnnoeefjnpcfnaagreatdoor", sum := "7ddd5e0af48ee6626277b800f329f50436a3b4ad922e6c7dde74a0464f90ea2d", func := "intaglio/intagliolaw21.ClientKeeps", spec := "clientKeeps", inPlace := ["sync/atomic.AddInt64", "sync/atomic.LoadInt64", "internal/reflectlite.ValueOf", "(internal/reflectlite.Value).Type", "(internal/reflectlite.Value).IsNil", "internal/reflectlite.TypeOf", "(internal/reflectlite.Value).Elem", "(internal/reflectlite.Value).Set"], unfollowed := true, recurses := true, named := ["errors.errorType"], apart := false, laid := [("errors.errorType", laid_errors_errorType)], narrowed := true }
def ClientKeepsUptoSaid : Prop := clientKeepsUptoRow.holds Tryz.pinned (OpenSpec.upto clientKeepsSpec)

/-- 'intagliolaw21.ClientBlocks', WHERE WHAT IT READS IS OF BULK AT MOST 1048576: true; the input reads as it did. -/
def clientBlocksUptoRow : OpenClaim := { program := "ytnnoeefjnpcfnaagreatdoor", sum := "7ddd5e0af48ee6626277b800f329f50436a3b4ad922e6c7dde74a0464f90ea2d", func := "intaglio/intagliolaw21.ClientBlocks", spec := "clientBlocks", inPlace := ["sync/atomic.AddInt64", "sync/atomic.LoadInt64", "internal/reflectlite.ValueOf", "(internal/reflectlite.Value).Type", "(internal/reflectlite.Value).IsNil", "internal/reflectlite.TypeOf", "(internal/reflectlite.Value).Elem", "(internal/reflectlite.Value).Set"], unfollowed := true, recurses := true, named := ["errors.errorType"], apart := false, laid := [("errors.errorType", laid_errors_errorType)], narrowed := true }
def ClientBlocksUptoSaid : Prop := clientBlocksUptoRow.holds Tryz.pinned (OpenSpec.upto clientBlocksSpec)

/-- 'intagliolaw21.ClientSlots', WHERE WHAT IT READS IS OF BULK AT MOST 1048576: true; the input reads as it did. -/
def clientSlotsUptoRow : OpenClaim := { program := "ytnnoeefjnpcfnaagreatdoor", sum := "7ddd5e0af48ee6626277b800f329f50436a3b4ad922e6c7dde74a0464f90ea2d", func := "intaglio/intagliolaw21.ClientSlots", spec := "clientSlots", inPlace := ["sync/atomic.AddInt64", "sync/atomic.LoadInt64", "internal/reflectlite.ValueOf", "(internal/reflectlite.Value).Type", "(internal/reflectlite.Value).IsNil", "internal/reflectlite.TypeOf", "(internal/reflectlite.Value).Elem", "(internal/reflectlite.Value).Set"], unfollowed := true, recurses := true, named := ["errors.errorType"], apart := false, laid := [("errors.errorType", laid_errors_errorType)], narrowed := true }
def ClientSlotsUptoSaid : Prop := clientSlotsUptoRow.holds Tryz.pinned (OpenSpec.upto clientSlotsSpec)

/-- 'intagliolaw21.ClientNil', WHERE WHAT IT READS IS OF BULK AT MOST 1048576: true; the input reads as it did. -/
def clientNilUptoRow : OpenClaim := { program := "ytnnoeefjnpcfnaagreatdoor", sum := "7ddd5e0af48ee6626277b800f329f50436a3b4ad922e6c7dde74a0464f90ea2d", func := "intaglio/intagliolaw21.ClientNil", spec := "clientNil", inPlace := ["sync/atomic.AddInt64", "sync/atomic.LoadInt64", "internal/reflectlite.ValueOf", "(internal/reflectlite.Value).Type", "(internal/reflectlite.Value).IsNil", "internal/reflectlite.TypeOf", "(internal/reflectlite.Value).Elem", "(internal/reflectlite.Value).Set"], unfollowed := true, recurses := true, named := ["errors.errorType"], apart := false, laid := [("errors.errorType", laid_errors_errorType)], narrowed := true }
def ClientNilUptoSaid : Prop := clientNilUptoRow.holds Tryz.pinned (OpenSpec.upto clientNilSpec)

end Rows
end Go.Proofs.YtnnoeefjnpcfnaaGreatDoor
