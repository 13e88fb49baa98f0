/-
  No cell of these rows narrows 'for every input' (looked for: loops, veiled, ifaces, maps, wideKeys, modest, calm, conditions, laid).
  DERIVED. THE GIVEN ROWS OF THIS SEAT. 3 by the template 'for every input the law returns true; each argument reads behind the call as it read before'; 0 by the template 'total and deterministic' (their statements: YteoeonfajlnggaaGreatTotals.lean).
  GIVEN WITH THE SEED: the statements are not yours to turn. If you find one false, say at which input.
  Laid BY PROGRAM, IN A SANDBOX (cutbox-rows.mjs): the forced cells as the released guide's own fill.sh prints them over the translation eaddd1e8ecd7f64d… (all of the seat's roots in one cut). By AI agents, Wed Nov 11 2026. No macro, syntax, notation, axiom, sorry.
-/
import Derived.Test.YteoeonfajlnggaaGreatChecked
import GoSem.Claim
import GoSem.ClaimJoined
import GoSem.ClaimMapViews
import Derived.JoinedTies
import Derived.KernelRfl
namespace Go.Proofs.YteoeonfajlnggaaGreat
/- THE CELL 'sum', in the pinned program and in every row, IS THE sha256 OF THE DUMP (.gsa) THAT YteoeonfajlnggaaGreatProg.lean LOADS. Nothing in Lean hashes anything: it is a label: what it is worth is what the hold of that sum in a sandbox is worth. -/
noncomputable def Tryz.pinned : Pinned := { name := "yteoeonfajlnggaagreat", sum := "eaddd1e8ecd7f64d20eb4e8d0c7c7d86aa8b289d59842cf4a088d127c9f80ed9", checked := Tryz.checked }
namespace Rows
def none {H : Type} : Left H := { results := [], args := [] }

/-- 'bynamelaw16.PurseSums': WHATEVER THE INPUT: true; the input reads as it did. -/
def purseSumsSpec : ChangeSpec := { name := "purseSums", fn := fun _ => fun
  | [d1, d2, d3] => { results := [.lit (.bool true)], args := [d1, d2, d3] }
  | _ => none }
def purseSumsRow : OpenClaim := { program := "yteoeonfajlnggaagreat", sum := "eaddd1e8ecd7f64d20eb4e8d0c7c7d86aa8b289d59842cf4a088d127c9f80ed9", func := "byname/bynamelaw16.PurseSums", spec := "purseSums", inPlace := ["math/bits.Sub64", "math/bits.Add64"], unfollowed := true, recurses := true, plainKeys := false, apart := false }
def PurseSumsSaid : Prop := purseSumsRow.holds Tryz.pinned (OpenSpec.ofChange purseSumsSpec)

/-- ITS FALSE NEIGHBOUR: 'it returns false'. Refute it at one input. -/
def purseSumsWrong : ChangeSpec := { name := "purseSums", fn := fun _ => fun
  | [d1, d2, d3] => { results := [.lit (.bool false)], args := [d1, d2, d3] }
  | _ => none }
def PurseSumsWrongFalsely : Prop := purseSumsRow.holds Tryz.pinned (OpenSpec.ofChange purseSumsWrong)

/-- 'bynamelaw16.PurseRuns': WHATEVER THE INPUT: true; the input reads as it did. -/
def purseRunsSpec : ChangeSpec := { name := "purseRuns", fn := fun _ => fun
  | [d1, d2, d3] => { results := [.lit (.bool true)], args := [d1, d2, d3] }
  | _ => none }
def purseRunsRow : OpenClaim := { program := "yteoeonfajlnggaagreat", sum := "eaddd1e8ecd7f64d20eb4e8d0c7c7d86aa8b289d59842cf4a088d127c9f80ed9", func := "byname/bynamelaw16.PurseRuns", spec := "purseRuns", inPlace := ["math/bits.Sub64", "math/bits.Add64", "maps.clone", "internal/bytealg.Compare"], unfollowed := true, recurses := true, plainKeys := false, apart := false }
def PurseRunsSaid : Prop := purseRunsRow.holds Tryz.pinned (OpenSpec.ofChange purseRunsSpec)

/-- ITS FALSE NEIGHBOUR: 'it returns false'. Refute it at one input. -/
def purseRunsWrong : ChangeSpec := { name := "purseRuns", fn := fun _ => fun
  | [d1, d2, d3] => { results := [.lit (.bool false)], args := [d1, d2, d3] }
  | _ => none }
def PurseRunsWrongFalsely : Prop := purseRunsRow.holds Tryz.pinned (OpenSpec.ofChange purseRunsWrong)

/-- 'bynamelaw16.PurseApart': WHATEVER THE INPUT: true; the input reads as it did. -/
def purseApartSpec : ChangeSpec := { name := "purseApart", fn := fun _ => fun
  | [d1, d2] => { results := [.lit (.bool true)], args := [d1, d2] }
  | _ => none }
def purseApartRow : OpenClaim := { program := "yteoeonfajlnggaagreat", sum := "eaddd1e8ecd7f64d20eb4e8d0c7c7d86aa8b289d59842cf4a088d127c9f80ed9", func := "byname/bynamelaw16.PurseApart", spec := "purseApart", inPlace := ["math/bits.Sub64", "math/bits.Add64", "internal/bytealg.Compare", "maps.clone"], unfollowed := true, recurses := true, plainKeys := false, apart := false }
def PurseApartSaid : Prop := purseApartRow.holds Tryz.pinned (OpenSpec.ofChange purseApartSpec)

/-- ITS FALSE NEIGHBOUR: 'it returns false'. Refute it at one input. -/
def purseApartWrong : ChangeSpec := { name := "purseApart", fn := fun _ => fun
  | [d1, d2] => { results := [.lit (.bool false)], args := [d1, d2] }
  | _ => none }
def PurseApartWrongFalsely : Prop := purseApartRow.holds Tryz.pinned (OpenSpec.ofChange purseApartWrong)

/- THE SECOND FORM. 'bulk': how many values and letters a reading holds, each counted each time it is reached (what is shared counts as often as it is met; a slice's spare places count too). A statement '..UptoSaid' is the law's where the arguments, and the package variables that the reading takes, are together of bulk at most 1048576: NARROWER than '..Said'. Prove '..Said' where nothing that the law and all that it calls make is longer than what came in: it says more and counts as full. Else prove '..UptoSaid'. A law counts once. -/
mutual
def uptoBulk {H : Type} : DataW H → Nat
  | .lit (.string bytes) => bytes.length + 1
  | .lit _ => 1
  | .nil => 1
  | .ptr d => uptoBulk d + 1
  | .slice elems spare => uptoBulkAll elems + uptoBulkAll spare + 1
  | .agg parts => uptoBulkAll parts + 1
  | .iface _ d => uptoBulk d + 1
  | .map entries => uptoBulkEntries entries + 1
  | .held _ => 1
def uptoBulkAll {H : Type} : List (DataW H) → Nat
  | [] => 0
  | d :: r => uptoBulk d + uptoBulkAll r
def uptoBulkEntries {H : Type} : List (Lit × DataW H) → Nat
  | [] => 0
  | x :: r => uptoBulkEntry x + uptoBulkEntries r
def uptoBulkEntry {H : Type} : Lit × DataW H → Nat
  | (.string bytes, d) => bytes.length + uptoBulk d + 1
  | (_, d) => uptoBulk d + 1
 end
def uptoSmall : (H : Type) → List (DataW H) → Bool := fun _ ds => decide (uptoBulkAll ds ≤ 1048576)
def OpenSpec.upto (s : _root_.Go.ChangeSpec) : _root_.Go.OpenSpec := { _root_.Go.OpenSpec.ofChange s with cond := some uptoSmall }

/-- 'bynamelaw16.PurseSums', WHERE WHAT IT READS IS OF BULK AT MOST 1048576: true; the input reads as it did. -/
def purseSumsUptoRow : OpenClaim := { program := "yteoeonfajlnggaagreat", sum := "eaddd1e8ecd7f64d20eb4e8d0c7c7d86aa8b289d59842cf4a088d127c9f80ed9", func := "byname/bynamelaw16.PurseSums", spec := "purseSums", inPlace := ["math/bits.Sub64", "math/bits.Add64"], unfollowed := true, recurses := true, plainKeys := false, apart := false, narrowed := true }
def PurseSumsUptoSaid : Prop := purseSumsUptoRow.holds Tryz.pinned (OpenSpec.upto purseSumsSpec)

/-- 'bynamelaw16.PurseRuns', WHERE WHAT IT READS IS OF BULK AT MOST 1048576: true; the input reads as it did. -/
def purseRunsUptoRow : OpenClaim := { program := "yteoeonfajlnggaagreat", sum := "eaddd1e8ecd7f64d20eb4e8d0c7c7d86aa8b289d59842cf4a088d127c9f80ed9", func := "byname/bynamelaw16.PurseRuns", spec := "purseRuns", inPlace := ["math/bits.Sub64", "math/bits.Add64", "maps.clone", "internal/bytealg.Compare"], unfollowed := true, recurses := true, plainKeys := false, apart := false, narrowed := true }
def PurseRunsUptoSaid : Prop := purseRunsUptoRow.holds Tryz.pinned (OpenSpec.upto purseRunsSpec)

/-- 'bynamelaw16.PurseApart', WHERE WHAT IT READS IS OF BULK AT MOST 1048576: true; the input reads as it did. -/
def purseApartUptoRow : OpenClaim := { program := "yteoeonfajlnggaagreat", sum := "eaddd1e8ecd7f64d20eb4e8d0c7c7d86aa8b289d59842cf4a088d127c9f80ed9", func := "byname/bynamelaw16.PurseApart", spec := "purseApart", inPlace := ["math/bits.Sub64", "math/bits.Add64", "internal/bytealg.Compare", "maps.clone"], unfollowed := true, recurses := true, plainKeys := false, apart := false, narrowed := true }
def PurseApartUptoSaid : Prop := purseApartUptoRow.holds Tryz.pinned (OpenSpec.upto purseApartSpec)

end Rows
end Go.Proofs.YteoeonfajlnggaaGreat
