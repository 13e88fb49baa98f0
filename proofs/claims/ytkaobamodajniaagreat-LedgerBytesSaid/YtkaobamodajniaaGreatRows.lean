/-
  No cell of these rows narrows 'for every input' (looked for: loops, veiled, ifaces, maps, wideKeys, modest, calm, conditions, laid).
  DERIVED. THE GIVEN ROWS OF THIS SEAT. 2 by the template 'for every input the law returns true; each argument reads behind the call as it read before'; 0 by the template 'total and deterministic' (their statements: YtkaobamodajniaaGreatTotals.lean).
  GIVEN WITH THE SEED: the statements are not yours to turn. If you find one false, say at which input.
  Laid BY PROGRAM, IN A SANDBOX (cutbox-rows.mjs): the forced cells as the released guide's own fill.sh prints them over the translation bd64670125ee2cdb… (all of the seat's roots in one cut). By AI agents, Wed Nov 11 2026. No macro, syntax, notation, axiom, sorry.
-/
import Derived.Test.YtkaobamodajniaaGreatChecked
import GoSem.Claim
import GoSem.ClaimJoined
import GoSem.ClaimMapViews
import Derived.JoinedTies
import Derived.KernelRfl
namespace Go.Proofs.YtkaobamodajniaaGreat
/- THE CELL 'sum', in the pinned program and in every row, IS THE sha256 OF THE DUMP (.gsa) THAT YtkaobamodajniaaGreatProg.lean LOADS. Nothing in Lean hashes anything: it is a label: what it is worth is what the hold of that sum in a sandbox is worth. -/
noncomputable def Tryz.pinned : Pinned := { name := "ytkaobamodajniaagreat", sum := "bd64670125ee2cdb6d9e33dea19cb6f0127dc0a8028ef00ae9e883a8a9b98e69", checked := Tryz.checked }
namespace Rows
def none {H : Type} : Left H := { results := [], args := [] }

/-- 'bynamelaw18.LedgerEntries': WHATEVER THE INPUT: true; the input reads as it did. -/
def ledgerEntriesSpec : ChangeSpec := { name := "ledgerEntries", fn := fun _ => fun
  | [d1, d2, d3] => { results := [.lit (.bool true)], args := [d1, d2, d3] }
  | _ => none }
def ledgerEntriesRow : OpenClaim := { program := "ytkaobamodajniaagreat", sum := "bd64670125ee2cdb6d9e33dea19cb6f0127dc0a8028ef00ae9e883a8a9b98e69", func := "byname/bynamelaw18.LedgerEntries", spec := "ledgerEntries", inPlace := ["math/bits.Sub64", "math/bits.Add64"], unfollowed := true, recurses := true, plainKeys := false, apart := false }
def LedgerEntriesSaid : Prop := ledgerEntriesRow.holds Tryz.pinned (OpenSpec.ofChange ledgerEntriesSpec)

/-- ITS FALSE NEIGHBOUR: 'it returns false'. Refute it at one input. -/
def ledgerEntriesWrong : ChangeSpec := { name := "ledgerEntries", fn := fun _ => fun
  | [d1, d2, d3] => { results := [.lit (.bool false)], args := [d1, d2, d3] }
  | _ => none }
def LedgerEntriesWrongFalsely : Prop := ledgerEntriesRow.holds Tryz.pinned (OpenSpec.ofChange ledgerEntriesWrong)

/-- 'bynamelaw18.LedgerBytes': WHATEVER THE INPUT: true; the input reads as it did. -/
def ledgerBytesSpec : ChangeSpec := { name := "ledgerBytes", fn := fun _ => fun
  | [d1, d2] => { results := [.lit (.bool true)], args := [d1, d2] }
  | _ => none }
def ledgerBytesRow : OpenClaim := { program := "ytkaobamodajniaagreat", sum := "bd64670125ee2cdb6d9e33dea19cb6f0127dc0a8028ef00ae9e883a8a9b98e69", func := "byname/bynamelaw18.LedgerBytes", spec := "ledgerBytes", inPlace := ["math/bits.Sub64", "math/bits.Add64"], unfollowed := true, recurses := true, plainKeys := false, apart := false }
def LedgerBytesSaid : Prop := ledgerBytesRow.holds Tryz.pinned (OpenSpec.ofChange ledgerBytesSpec)

/-- ITS FALSE NEIGHBOUR: 'it returns false'. Refute it at one input. -/
def ledgerBytesWrong : ChangeSpec := { name := "ledgerBytes", fn := fun _ => fun
  | [d1, d2] => { results := [.lit (.bool false)], args := [d1, d2] }
  | _ => none }
def LedgerBytesWrongFalsely : Prop := ledgerBytesRow.holds Tryz.pinned (OpenSpec.ofChange ledgerBytesWrong)

/- THE SECOND FORM. 'bulk': how many values and letters a reading holds, each counted each time it is reached (what is shared counts as often as it is met; a slice's spare places count too). A statement '..UptoSaid' is the law's where the arguments, and the package variables that the reading takes, are together of bulk at most 1048576: NARROWER than '..Said'. Prove '..Said' where nothing that the law and all that it calls make is longer than what came in: it says more and counts as full. Else prove '..UptoSaid'. A law counts once. -/
mutual
def uptoBulk {H : Type} : DataW H → Nat
  | .lit (.string bytes) => bytes.length + 1
  | .lit _ => 1
  | .nil => 1
  | .ptr d => uptoBulk d + 1
  | .slice elems spare => uptoBulkAll elems + uptoBulkAll spare + 1
  | .agg parts => uptoBulkAll parts + 1
  | .iface _ d => uptoBulk d + 1
  | .map entries => uptoBulkEntries entries + 1
  | .held _ => 1
def uptoBulkAll {H : Type} : List (DataW H) → Nat
  | [] => 0
  | d :: r => uptoBulk d + uptoBulkAll r
def uptoBulkEntries {H : Type} : List (Lit × DataW H) → Nat
  | [] => 0
  | x :: r => uptoBulkEntry x + uptoBulkEntries r
def uptoBulkEntry {H : Type} : Lit × DataW H → Nat
  | (.string bytes, d) => bytes.length + uptoBulk d + 1
  | (_, d) => uptoBulk d + 1
 end
def uptoSmall : (H : Type) → List (DataW H) → Bool := fun _ ds => decide (uptoBulkAll ds ≤ 1048576)
def OpenSpec.upto (s : _root_.Go.ChangeSpec) : _root_.Go.OpenSpec := { _root_.Go.OpenSpec.ofChange s with cond := some uptoSmall }

/-- 'bynamelaw18.LedgerEntries', WHERE WHAT IT READS IS OF BULK AT MOST 1048576: true; the input reads as it did. -/
def ledgerEntriesUptoRow : OpenClaim := { program := "ytkaobamodajniaagreat", sum := "bd64670125ee2cdb6d9e33dea19cb6f0127dc0a8028ef00ae9e883a8a9b98e69", func := "byname/bynamelaw18.LedgerEntries", spec := "ledgerEntries", inPlace := ["math/bits.Sub64", "math/bits.Add64"], unfollowed := true, recurses := true, plainKeys := false, apart := false, narrowed := true }
def LedgerEntriesUptoSaid : Prop := ledgerEntriesUptoRow.holds Tryz.pinned (OpenSpec.upto ledgerEntriesSpec)

/-- 'bynamelaw18.LedgerBytes', WHERE WHAT IT READS IS OF BULK AT MOST 1048576: true; the input reads as it did. -/
def ledgerBytesUptoRow : OpenClaim := { program := "ytkaobamodajniaagreat", sum := "bd64670125ee2cdb6d9e33dea19cb6f0127dc0a8028ef00ae9e883a8a9b98e69", func := "byname/bynamelaw18.LedgerBytes", spec := "ledgerBytes", inPlace := ["math/bits.Sub64", "math/bits.Add64"], unfollowed := true, recurses := true, plainKeys := false, apart := false, narrowed := true }
def LedgerBytesUptoSaid : Prop := ledgerBytesUptoRow.holds Tryz.pinned (OpenSpec.upto ledgerBytesSpec)

end Rows
end Go.Proofs.YtkaobamodajniaaGreat
