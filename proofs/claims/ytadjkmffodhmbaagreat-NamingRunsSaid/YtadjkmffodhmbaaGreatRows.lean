/-
  No cell of these rows narrows 'for every input' (looked for: loops, veiled, ifaces, maps, wideKeys, modest, calm, conditions, laid).
  DERIVED. THE GIVEN ROWS OF THIS SEAT. 4 by the template 'for every input the law returns true; each argument reads behind the call as it read before'; 0 by the template 'total and deterministic' (their statements: YtadjkmffodhmbaaGreatTotals.lean).
  GIVEN WITH THE SEED: the statements are not yours to turn. If you find one false, say at which input.
  Laid BY PROGRAM, IN A SANDBOX (cutbox-rows.mjs): the forced cells as the released guide's own fill.sh prints them over the translation dd7d592de93ad978… (all of the seat's roots in one cut). By AI agents, Wed Nov 11 2026. No macro, syntax, notation, axiom, sorry.
-/
import Derived.Test.YtadjkmffodhmbaaGreatChecked
import GoSem.Claim
import GoSem.ClaimJoined
import GoSem.ClaimMapViews
import Derived.JoinedTies
import Derived.KernelRfl
namespace Go.Proofs.YtadjkmffodhmbaaGreat
/- THE CELL 'sum', in the pinned program and in every row, IS THE sha256 OF THE DUMP (.gsa) THAT YtadjkmffodhmbaaGreatProg.lean LOADS. Nothing in Lean hashes anything: it is a label: what it is worth is what the hold of that sum in a sandbox is worth. -/
noncomputable def Tryz.pinned : Pinned := { name := "ytadjkmffodhmbaagreat", sum := "dd7d592de93ad978e7e98472792dae15aaf4a618c7835570e1272b1fd8c79363", checked := Tryz.checked }
namespace Rows
def none {H : Type} : Left H := { results := [], args := [] }

/-- 'bynamelaw17.NamingChecks': WHATEVER THE INPUT: true; the input reads as it did. -/
def namingChecksSpec : ChangeSpec := { name := "namingChecks", fn := fun _ => fun
  | [d1, d2, d3] => { results := [.lit (.bool true)], args := [d1, d2, d3] }
  | _ => none }
def namingChecksRow : OpenClaim := { program := "ytadjkmffodhmbaagreat", sum := "dd7d592de93ad978e7e98472792dae15aaf4a618c7835570e1272b1fd8c79363", func := "byname/bynamelaw17.NamingChecks", spec := "namingChecks", unfollowed := true, recurses := true, apart := false }
def NamingChecksSaid : Prop := namingChecksRow.holds Tryz.pinned (OpenSpec.ofChange namingChecksSpec)

/-- ITS FALSE NEIGHBOUR: 'it returns false'. Refute it at one input. -/
def namingChecksWrong : ChangeSpec := { name := "namingChecks", fn := fun _ => fun
  | [d1, d2, d3] => { results := [.lit (.bool false)], args := [d1, d2, d3] }
  | _ => none }
def NamingChecksWrongFalsely : Prop := namingChecksRow.holds Tryz.pinned (OpenSpec.ofChange namingChecksWrong)

/-- 'bynamelaw17.NamingTells': WHATEVER THE INPUT: true; the input reads as it did. -/
def namingTellsSpec : ChangeSpec := { name := "namingTells", fn := fun _ => fun
  | [d1, d2, d3] => { results := [.lit (.bool true)], args := [d1, d2, d3] }
  | _ => none }
def namingTellsRow : OpenClaim := { program := "ytadjkmffodhmbaagreat", sum := "dd7d592de93ad978e7e98472792dae15aaf4a618c7835570e1272b1fd8c79363", func := "byname/bynamelaw17.NamingTells", spec := "namingTells", unfollowed := true, recurses := true, apart := false }
def NamingTellsSaid : Prop := namingTellsRow.holds Tryz.pinned (OpenSpec.ofChange namingTellsSpec)

/-- ITS FALSE NEIGHBOUR: 'it returns false'. Refute it at one input. -/
def namingTellsWrong : ChangeSpec := { name := "namingTells", fn := fun _ => fun
  | [d1, d2, d3] => { results := [.lit (.bool false)], args := [d1, d2, d3] }
  | _ => none }
def NamingTellsWrongFalsely : Prop := namingTellsRow.holds Tryz.pinned (OpenSpec.ofChange namingTellsWrong)

/-- 'bynamelaw17.NamingRuns': WHATEVER THE INPUT: true; the input reads as it did. -/
def namingRunsSpec : ChangeSpec := { name := "namingRuns", fn := fun _ => fun
  | [d1, d2, d3] => { results := [.lit (.bool true)], args := [d1, d2, d3] }
  | _ => none }
def namingRunsRow : OpenClaim := { program := "ytadjkmffodhmbaagreat", sum := "dd7d592de93ad978e7e98472792dae15aaf4a618c7835570e1272b1fd8c79363", func := "byname/bynamelaw17.NamingRuns", spec := "namingRuns", unfollowed := true, recurses := true, apart := false }
def NamingRunsSaid : Prop := namingRunsRow.holds Tryz.pinned (OpenSpec.ofChange namingRunsSpec)

/-- ITS FALSE NEIGHBOUR: 'it returns false'. Refute it at one input. -/
def namingRunsWrong : ChangeSpec := { name := "namingRuns", fn := fun _ => fun
  | [d1, d2, d3] => { results := [.lit (.bool false)], args := [d1, d2, d3] }
  | _ => none }
def NamingRunsWrongFalsely : Prop := namingRunsRow.holds Tryz.pinned (OpenSpec.ofChange namingRunsWrong)

/-- 'bynamelaw17.NamingScans': WHATEVER THE INPUT: true; the input reads as it did. -/
def namingScansSpec : ChangeSpec := { name := "namingScans", fn := fun _ => fun
  | [d1, d2, d3] => { results := [.lit (.bool true)], args := [d1, d2, d3] }
  | _ => none }
def namingScansRow : OpenClaim := { program := "ytadjkmffodhmbaagreat", sum := "dd7d592de93ad978e7e98472792dae15aaf4a618c7835570e1272b1fd8c79363", func := "byname/bynamelaw17.NamingScans", spec := "namingScans", unfollowed := true, recurses := true, apart := false }
def NamingScansSaid : Prop := namingScansRow.holds Tryz.pinned (OpenSpec.ofChange namingScansSpec)

/-- ITS FALSE NEIGHBOUR: 'it returns false'. Refute it at one input. -/
def namingScansWrong : ChangeSpec := { name := "namingScans", fn := fun _ => fun
  | [d1, d2, d3] => { results := [.lit (.bool false)], args := [d1, d2, d3] }
  | _ => none }
def NamingScansWrongFalsely : Prop := namingScansRow.holds Tryz.pinned (OpenSpec.ofChange namingScansWrong)

/- THE SECOND FORM. 'bulk': how many values and letters a reading holds, each counted each time it is reached (what is shared counts as often as it is met; a slice's spare places count too). A statement '..UptoSaid' is the law's where the arguments, and the package variables that the reading takes, are together of bulk at most 1048576: NARROWER than '..Said'. Prove '..Said' where nothing that the law and all that it calls make is longer than what came in: it says more and counts as full. Else prove '..UptoSaid'. A law counts once. -/
mutual
def uptoBulk {H : Type} : DataW H → Nat
  | .lit (.string bytes) => bytes.length + 1
  | .lit _ => 1
  | .nil => 1
  | .ptr d => uptoBulk d + 1
  | .slice elems spare => uptoBulkAll elems + uptoBulkAll spare + 1
  | .agg parts => uptoBulkAll parts + 1
  | .iface _ d => uptoBulk d + 1
  | .map entries => uptoBulkEntries entries + 1
  | .held _ => 1
def uptoBulkAll {H : Type} : List (DataW H) → Nat
  | [] => 0
  | d :: r => uptoBulk d + uptoBulkAll r
def uptoBulkEntries {H : Type} : List (Lit × DataW H) → Nat
  | [] => 0
  | x :: r => uptoBulkEntry x + uptoBulkEntries r
def uptoBulkEntry {H : Type} : Lit × DataW H → Nat
  | (.string bytes, d) => bytes.length + uptoBulk d + 1
  | (_, d) => uptoBulk d + 1
 end
def uptoSmall : (H : Type) → List (DataW H) → Bool := fun _ ds => decide (uptoBulkAll ds ≤ 1048576)
def OpenSpec.upto (s : _root_.Go.ChangeSpec) : _root_.Go.OpenSpec := { _root_.Go.OpenSpec.ofChange s with cond := some uptoSmall }

/-- 'bynamelaw17.NamingChecks', WHERE WHAT IT READS IS OF BULK AT MOST 1048576: true; the input reads as it did. -/
def namingChecksUptoRow : OpenClaim := { program := "ytadjkmffodhmbaagreat", sum := "dd7d592de93ad978e7e98472792dae15aaf4a618c7835570e1272b1fd8c79363", func := "byname/bynamelaw17.NamingChecks", spec := "namingChecks", unfollowed := true, recurses := true, apart := false, narrowed := true }
def NamingChecksUptoSaid : Prop := namingChecksUptoRow.holds Tryz.pinned (OpenSpec.upto namingChecksSpec)

/-- 'bynamelaw17.NamingTells', WHERE WHAT IT READS IS OF BULK AT MOST 1048576: true; the input reads as it did. -/
def namingTellsUptoRow : OpenClaim := { program := "ytadjkmffodhmbaagreat", sum := "dd7d592de93ad978e7e98472792dae15aaf4a618c7835570e1272b1fd8c79363", func := "byname/bynamelaw17.NamingTells", spec := "namingTells", unfollowed := true, recurses := true, apart := false, narrowed := true }
def NamingTellsUptoSaid : Prop := namingTellsUptoRow.holds Tryz.pinned (OpenSpec.upto namingTellsSpec)

/-- 'bynamelaw17.NamingRuns', WHERE WHAT IT READS IS OF BULK AT MOST 1048576: true; the input reads as it did. -/
def namingRunsUptoRow : OpenClaim := { program := "ytadjkmffodhmbaagreat", sum := "dd7d592de93ad978e7e98472792dae15aaf4a618c7835570e1272b1fd8c79363", func := "byname/bynamelaw17.NamingRuns", spec := "namingRuns", unfollowed := true, recurses := true, apart := false, narrowed := true }
def NamingRunsUptoSaid : Prop := namingRunsUptoRow.holds Tryz.pinned (OpenSpec.upto namingRunsSpec)

/-- 'bynamelaw17.NamingScans', WHERE WHAT IT READS IS OF BULK AT MOST 1048576: true; the input reads as it did. -/
def namingScansUptoRow : OpenClaim := { program := "ytadjkmffodhmbaagreat", sum := "dd7d592de93ad978e7e98472792dae15aaf4a618c7835570e1272b1fd8c79363", func := "byname/bynamelaw17.NamingScans", spec := "namingScans", unfollowed := true, recurses := true, apart := false, narrowed := true }
def NamingScansUptoSaid : Prop := namingScansUptoRow.holds Tryz.pinned (OpenSpec.upto namingScansSpec)

end Rows
end Go.Proofs.YtadjkmffodhmbaaGreat
