/-
  No cell of these rows narrows 'for every input' (looked for: loops, veiled, ifaces, maps, wideKeys, modest, calm, conditions, laid).
  DERIVED. THE GIVEN ROWS OF THIS SEAT. 4 by the template 'for every input the law returns true; each argument reads behind the call as it read before'; 0 by the template 'total and deterministic' (their statements: YtilaihbbollcnaaTotals.lean).
  GIVEN WITH THE SEED: the statements are not yours to turn. If you find one false, say at which input.
  Laid BY PROGRAM, IN A SANDBOX (cutbox-rows.mjs): the forced cells as the released guide's own fill.sh prints them over the translation 87f36edcfd812024… (all of the seat's roots in one cut). By AI agents, Wed Nov 11 2026. No macro, syntax, notation, axiom, sorry.
-/
import Derived.Test.YtilaihbbollcnaaChecked
import GoSem.Claim
import GoSem.ClaimJoined
import GoSem.ClaimMapViews
import Derived.JoinedTies
import Derived.KernelRfl
namespace Go.Proofs.Ytilaihbbollcnaa
/- THE CELL 'sum', in the pinned program and in every row, IS THE sha256 OF THE DUMP (.gsa) THAT YtilaihbbollcnaaProg.lean LOADS. Nothing in Lean hashes anything: it is a label: what it is worth is what the hold of that sum in a sandbox is worth. -/
noncomputable def Try.pinned : Pinned := { name := "ytilaihbbollcnaa", sum := "87f36edcfd812024152c02d7253a96b79c67e3e22ecf8d4031a68afd5c65cce8", checked := Try.checked }
namespace Rows
def none {H : Type} : Left H := { results := [], args := [] }

/-- 'intagliolaw15.RetireKeeps': WHATEVER THE INPUT: true; the input reads as it did. -/
def retireKeepsSpec : ChangeSpec := { name := "retireKeeps", fn := fun _ => fun
  | [d1, d2] => { results := [.lit (.bool true)], args := [d1, d2] }
  | _ => none }
def retireKeepsRow : OpenClaim := { program := "ytilaihbbollcnaa", sum := "87f36edcfd812024152c02d7253a96b79c67e3e22ecf8d4031a68afd5c65cce8", func := "intaglio/intagliolaw15.RetireKeeps", spec := "retireKeeps", inPlace := ["sync/atomic.AddInt64"], unfollowed := true, recurses := true, apart := false }
def RetireKeepsSaid : Prop := retireKeepsRow.holds Try.pinned (OpenSpec.ofChange retireKeepsSpec)

/-- ITS FALSE NEIGHBOUR: 'it returns false'. Refute it at one input. -/
def retireKeepsWrong : ChangeSpec := { name := "retireKeeps", fn := fun _ => fun
  | [d1, d2] => { results := [.lit (.bool false)], args := [d1, d2] }
  | _ => none }
def RetireKeepsWrongFalsely : Prop := retireKeepsRow.holds Try.pinned (OpenSpec.ofChange retireKeepsWrong)

/-- 'intagliolaw15.RetireNil': WHATEVER THE INPUT: true; the input reads as it did. -/
def retireNilSpec : ChangeSpec := { name := "retireNil", fn := fun _ => fun
  | [d1, d2] => { results := [.lit (.bool true)], args := [d1, d2] }
  | _ => none }
def retireNilRow : OpenClaim := { program := "ytilaihbbollcnaa", sum := "87f36edcfd812024152c02d7253a96b79c67e3e22ecf8d4031a68afd5c65cce8", func := "intaglio/intagliolaw15.RetireNil", spec := "retireNil", inPlace := ["sync/atomic.AddInt64", "sync/atomic.LoadInt64"], unfollowed := true, recurses := true, apart := false }
def RetireNilSaid : Prop := retireNilRow.holds Try.pinned (OpenSpec.ofChange retireNilSpec)

/-- ITS FALSE NEIGHBOUR: 'it returns false'. Refute it at one input. -/
def retireNilWrong : ChangeSpec := { name := "retireNil", fn := fun _ => fun
  | [d1, d2] => { results := [.lit (.bool false)], args := [d1, d2] }
  | _ => none }
def RetireNilWrongFalsely : Prop := retireNilRow.holds Try.pinned (OpenSpec.ofChange retireNilWrong)

/-- 'intagliolaw15.RetireAgain': WHATEVER THE INPUT: true; the input reads as it did. -/
def retireAgainSpec : ChangeSpec := { name := "retireAgain", fn := fun _ => fun
  | [d] => { results := [.lit (.bool true)], args := [d] }
  | _ => none }
def retireAgainRow : OpenClaim := { program := "ytilaihbbollcnaa", sum := "87f36edcfd812024152c02d7253a96b79c67e3e22ecf8d4031a68afd5c65cce8", func := "intaglio/intagliolaw15.RetireAgain", spec := "retireAgain", inPlace := ["sync/atomic.AddInt64"], unfollowed := true, recurses := true, apart := false }
def RetireAgainSaid : Prop := retireAgainRow.holds Try.pinned (OpenSpec.ofChange retireAgainSpec)

/-- ITS FALSE NEIGHBOUR: 'it returns false'. Refute it at one input. -/
def retireAgainWrong : ChangeSpec := { name := "retireAgain", fn := fun _ => fun
  | [d] => { results := [.lit (.bool false)], args := [d] }
  | _ => none }
def RetireAgainWrongFalsely : Prop := retireAgainRow.holds Try.pinned (OpenSpec.ofChange retireAgainWrong)

/-- 'intagliolaw15.RetirePlays': WHATEVER THE INPUT: true; the input reads as it did. -/
def retirePlaysSpec : ChangeSpec := { name := "retirePlays", fn := fun _ => fun
  | [d1, d2] => { results := [.lit (.bool true)], args := [d1, d2] }
  | _ => none }
def retirePlaysRow : OpenClaim := { program := "ytilaihbbollcnaa", sum := "87f36edcfd812024152c02d7253a96b79c67e3e22ecf8d4031a68afd5c65cce8", func := "intaglio/intagliolaw15.RetirePlays", spec := "retirePlays", inPlace := ["sync/atomic.AddInt64", "sync/atomic.LoadInt64"], unfollowed := true, recurses := true, apart := false }
def RetirePlaysSaid : Prop := retirePlaysRow.holds Try.pinned (OpenSpec.ofChange retirePlaysSpec)

/-- ITS FALSE NEIGHBOUR: 'it returns false'. Refute it at one input. -/
def retirePlaysWrong : ChangeSpec := { name := "retirePlays", fn := fun _ => fun
  | [d1, d2] => { results := [.lit (.bool false)], args := [d1, d2] }
  | _ => none }
def RetirePlaysWrongFalsely : Prop := retirePlaysRow.holds Try.pinned (OpenSpec.ofChange retirePlaysWrong)

/- THE SECOND FORM. 'bulk': how many values and letters a reading holds, each counted each time it is reached (what is shared counts as often as it is met; a slice's spare places count too). A statement '..UptoSaid' is the law's where the arguments, and the package variables that the reading takes, are together of bulk at most 1048576: NARROWER than '..Said'. Prove '..Said' where nothing that the law and all that it calls make is longer than what came in: it says more and counts as full. Else prove '..UptoSaid'. A law counts once. -/
mutual
def uptoBulk {H : Type} : DataW H → Nat
  | .lit (.string bytes) => bytes.length + 1
  | .lit _ => 1
  | .nil => 1
  | .ptr d => uptoBulk d + 1
  | .slice elems spare => uptoBulkAll elems + uptoBulkAll spare + 1
  | .agg parts => uptoBulkAll parts + 1
  | .iface _ d => uptoBulk d + 1
  | .map entries => uptoBulkEntries entries + 1
  | .held _ => 1
def uptoBulkAll {H : Type} : List (DataW H) → Nat
  | [] => 0
  | d :: r => uptoBulk d + uptoBulkAll r
def uptoBulkEntries {H : Type} : List (Lit × DataW H) → Nat
  | [] => 0
  | x :: r => uptoBulkEntry x + uptoBulkEntries r
def uptoBulkEntry {H : Type} : Lit × DataW H → Nat
  | (.string bytes, d) => bytes.length + uptoBulk d + 1
  | (_, d) => uptoBulk d + 1
 end
def uptoSmall : (H : Type) → List (DataW H) → Bool := fun _ ds => decide (uptoBulkAll ds ≤ 1048576)
def OpenSpec.upto (s : _root_.Go.ChangeSpec) : _root_.Go.OpenSpec := { _root_.Go.OpenSpec.ofChange s with cond := some uptoSmall }

/-- 'intagliolaw15.RetireKeeps', WHERE WHAT IT READS IS OF BULK AT MOST 1048576: true; the input reads as it did. -/
def retireKeepsUptoRow : OpenClaim := { program := "ytilaihbbollcnaa", sum := "87f36edcfd812024152c02d7253a96b79c67e3e22ecf8d4031a68afd5c65cce8", func := "intaglio/intagliolaw15.RetireKeeps", spec := "retireKeeps", inPlace := ["sync/atomic.AddInt64"], unfollowed := true, recurses := true, apart := false, narrowed := true }
def RetireKeepsUptoSaid : Prop := retireKeepsUptoRow.holds Try.pinned (OpenSpec.upto retireKeepsSpec)

/-- 'intagliolaw15.RetireNil', WHERE WHAT IT READS IS OF BULK AT MOST 1048576: true; the input reads as it did. -/
def retireNilUptoRow : OpenClaim := { program := "ytilaihbbollcnaa", sum := "87f36edcfd812024152c02d7253a96b79c67e3e22ecf8d4031a68afd5c65cce8", func := "intaglio/intagliolaw15.RetireNil", spec := "retireNil", inPlace := ["sync/atomic.AddInt64", "sync/atomic.LoadInt64"], unfollowed := true, recurses := true, apart := false, narrowed := true }
def RetireNilUptoSaid : Prop := retireNilUptoRow.holds Try.pinned (OpenSpec.upto retireNilSpec)

/-- 'intagliolaw15.RetireAgain', WHERE WHAT IT READS IS OF BULK AT MOST 1048576: true; the input reads as it did. -/
def retireAgainUptoRow : OpenClaim := { program := "ytilaihbbollcnaa", sum := "87f36edcfd812024152c02d7253a96b79c67e3e22ecf8d4031a68afd5c65cce8", func := "intaglio/intagliolaw15.RetireAgain", spec := "retireAgain", inPlace := ["sync/atomic.AddInt64"], unfollowed := true, recurses := true, apart := false, narrowed := true }
def RetireAgainUptoSaid : Prop := retireAgainUptoRow.holds Try.pinned (OpenSpec.upto retireAgainSpec)

/-- 'intagliolaw15.RetirePlays', WHERE WHAT IT READS IS OF BULK AT MOST 1048576: true; the input reads as it did. -/
def retirePlaysUptoRow : OpenClaim := { program := "ytilaihbbollcnaa", sum := "87f36edcfd812024152c02d7253a96b79c67e3e22ecf8d4031a68afd5c65cce8", func := "intaglio/intagliolaw15.RetirePlays", spec := "retirePlays", inPlace := ["sync/atomic.AddInt64", "sync/atomic.LoadInt64"], unfollowed := true, recurses := true, apart := false, narrowed := true }
def RetirePlaysUptoSaid : Prop := retirePlaysUptoRow.holds Try.pinned (OpenSpec.upto retirePlaysSpec)

end Rows
end Go.Proofs.Ytilaihbbollcnaa
