/-
  No cell of these rows narrows 'for every input' (looked for: loops, veiled, ifaces, maps, wideKeys, modest, calm, conditions, laid).
  DERIVED. THE GIVEN ROWS OF THIS SEAT. 2 by the template 'for every input the law returns true; each argument reads behind the call as it read before'; 0 by the template 'total and deterministic' (their statements: YtgnfgafiegimoaaTotals.lean).
  GIVEN WITH THE SEED: the statements are not yours to turn. If you find one false, say at which input.
  Laid BY PROGRAM, IN A SANDBOX (cutbox-rows.mjs): the forced cells as the released guide's own fill.sh prints them over the translation 5f947d0a9fb37a2d… (all of the seat's roots in one cut). By AI agents, Wed Nov 11 2026. No macro, syntax, notation, axiom, sorry.
-/
import Derived.Test.YtgnfgafiegimoaaChecked
import GoSem.Claim
import GoSem.ClaimJoined
import GoSem.ClaimMapViews
import Derived.JoinedTies
import Derived.KernelRfl
namespace Go.Proofs.Ytgnfgafiegimoaa
/- THE CELL 'sum', in the pinned program and in every row, IS THE sha256 OF THE DUMP (.gsa) THAT YtgnfgafiegimoaaProg.lean LOADS. Nothing in Lean hashes anything: it is a label: what it is worth is what the hold of that sum in a sandbox is worth. -/
noncomputable def Try.pinned : Pinned := { name := "ytgnfgafiegimoaa", sum := "5f947d0a9fb37a2de4f52a081e5bff50100a85c705b8af8e1133035f1fddc2c5", checked := Try.checked }
namespace Rows
def none {H : Type} : Left H := { results := [], args := [] }

/-- 'bynamelaw12.WorkMeets': WHATEVER THE INPUT: true; the input reads as it did. -/
def workMeetsSpec : ChangeSpec := { name := "workMeets", fn := fun _ => fun
  | [d] => { results := [.lit (.bool true)], args := [d] }
  | _ => none }
def workMeetsRow : OpenClaim := { program := "ytgnfgafiegimoaa", sum := "5f947d0a9fb37a2de4f52a081e5bff50100a85c705b8af8e1133035f1fddc2c5", func := "byname/bynamelaw12.WorkMeets", spec := "workMeets", inPlace := ["math/bits.Sub64", "math/bits.Add64"], apart := false }
def WorkMeetsSaid : Prop := workMeetsRow.holds Try.pinned (OpenSpec.ofChange workMeetsSpec)

/-- ITS FALSE NEIGHBOUR: 'it returns false'. Refute it at one input. -/
def workMeetsWrong : ChangeSpec := { name := "workMeets", fn := fun _ => fun
  | [d] => { results := [.lit (.bool false)], args := [d] }
  | _ => none }
def WorkMeetsWrongFalsely : Prop := workMeetsRow.holds Try.pinned (OpenSpec.ofChange workMeetsWrong)

/-- 'bynamelaw12.WorkMedian': WHATEVER THE INPUT: true; the input reads as it did. -/
def workMedianSpec : ChangeSpec := { name := "workMedian", fn := fun _ => fun
  | [d] => { results := [.lit (.bool true)], args := [d] }
  | _ => none }
def workMedianRow : OpenClaim := { program := "ytgnfgafiegimoaa", sum := "5f947d0a9fb37a2de4f52a081e5bff50100a85c705b8af8e1133035f1fddc2c5", func := "byname/bynamelaw12.WorkMedian", spec := "workMedian", inPlace := ["math/bits.Sub64", "math/bits.Add64"], unfollowed := true, recurses := true, apart := false }
def WorkMedianSaid : Prop := workMedianRow.holds Try.pinned (OpenSpec.ofChange workMedianSpec)

/-- ITS FALSE NEIGHBOUR: 'it returns false'. Refute it at one input. -/
def workMedianWrong : ChangeSpec := { name := "workMedian", fn := fun _ => fun
  | [d] => { results := [.lit (.bool false)], args := [d] }
  | _ => none }
def WorkMedianWrongFalsely : Prop := workMedianRow.holds Try.pinned (OpenSpec.ofChange workMedianWrong)

/- THE SECOND FORM. 'bulk': how many values and letters a reading holds, each counted each time it is reached (what is shared counts as often as it is met; a slice's spare places count too). A statement '..UptoSaid' is the law's where the arguments, and the package variables that the reading takes, are together of bulk at most 1048576: NARROWER than '..Said'. Prove '..Said' where nothing that the law and all that it calls make is longer than what came in: it says more and counts as full. Else prove '..UptoSaid'. A law counts once. -/
mutual
def uptoBulk {H : Type} : DataW H → Nat
  | .lit (.string bytes) => bytes.length + 1
  | .lit _ => 1
  | .nil => 1
  | .ptr d => uptoBulk d + 1
  | .slice elems spare => uptoBulkAll elems + uptoBulkAll spare + 1
  | .agg parts => uptoBulkAll parts + 1
  | .iface _ d => uptoBulk d + 1
  | .map entries => uptoBulkEntries entries + 1
  | .held _ => 1
def uptoBulkAll {H : Type} : List (DataW H) → Nat
  | [] => 0
  | d :: r => uptoBulk d + uptoBulkAll r
def uptoBulkEntries {H : Type} : List (Lit × DataW H) → Nat
  | [] => 0
  | x :: r => uptoBulkEntry x + uptoBulkEntries r
def uptoBulkEntry {H : Type} : Lit × DataW H → Nat
  | (.string bytes, d) => bytes.length + uptoBulk d + 1
  | (_, d) => uptoBulk d + 1
 end
def uptoSmall : (H : Type) → List (DataW H) → Bool := fun _ ds => decide (uptoBulkAll ds ≤ 1048576)
def OpenSpec.upto (s : _root_.Go.ChangeSpec) : _root_.Go.OpenSpec := { _root_.Go.OpenSpec.ofChange s with cond := some uptoSmall }

/-- 'bynamelaw12.WorkMeets', WHERE WHAT IT READS IS OF BULK AT MOST 1048576: true; the input reads as it did. -/
def workMeetsUptoRow : OpenClaim := { program := "ytgnfgafiegimoaa", sum := "5f947d0a9fb37a2de4f52a081e5bff50100a85c705b8af8e1133035f1fddc2c5", func := "byname/bynamelaw12.WorkMeets", spec := "workMeets", inPlace := ["math/bits.Sub64", "math/bits.Add64"], apart := false, narrowed := true }
def WorkMeetsUptoSaid : Prop := workMeetsUptoRow.holds Try.pinned (OpenSpec.upto workMeetsSpec)

/-- 'bynamelaw12.WorkMedian', WHERE WHAT IT READS IS OF BULK AT MOST 1048576: true; the input reads as it did. -/
def workMedianUptoRow : OpenClaim := { program := "ytgnfgafiegimoaa", sum := "5f947d0a9fb37a2de4f52a081e5bff50100a85c705b8af8e1133035f1fddc2c5", func := "byname/bynamelaw12.WorkMedian", spec := "workMedian", inPlace := ["math/bits.Sub64", "math/bits.Add64"], unfollowed := true, recurses := true, apart := false, narrowed := true }
def WorkMedianUptoSaid : Prop := workMedianUptoRow.holds Try.pinned (OpenSpec.upto workMedianSpec)

end Rows
end Go.Proofs.Ytgnfgafiegimoaa
