/-
  DERIVED. GIVEN WITH THE SEED: THE CARDS: each row of YtffgbjbmojdeeaaGreatDoorRows.lean that lists a variable, with what it lists TIED to the program's text (the seventh form; the later family's looks); each row that meets fmt, with fmt's text TOLD by the authors' own Lean function (tested against real Go, not proved from fmt's source: count such statements apart). THE CARD IS WHAT COUNTS. Prove the row's statement (the work); the ties are given (YtffgbjbmojdeeaaGreatDoorTie.lean); close each card by the builder's one call (the guide's Derived/Test/ToyasCard.lean, 'card_holds'). Laid BY PROGRAM, IN A SANDBOX (cutbox-door.mjs). By AI agents, Wed Nov 11 2026. No macro, syntax, notation, axiom, sorry.
-/
import Derived.Test.YtffgbjbmojdeeaaGreatDoorRows
import GoSem.ClaimSeven
namespace Go.Proofs.YtffgbjbmojdeeaaGreatDoor
namespace Rows

/-- THE TIED CARD OF 'bynamelaw25.FrontHexes'. -/
def frontHexesCard : Claim7 := { stood := { row := frontHexesRow, standIns := [], harness := (true, "90602c10236fb2f943cb2ee9f8ca11251e3ecc3277161578736ae51a9da17318"), looks := true }, kinds := [], alts := [], laidByText := true, laidKinds := [.data, .data, .data, .data, .sentinel, .sentinel, .pinned], laidTests := true, laidLooks := .later }
def FrontHexesCardSaid : Prop := Claim7.holds Tryz.pinned (.plain (OpenSpec.ofChange frontHexesSpec)) frontHexesCard

/-- THE SECOND FORM's CARD OF 'bynamelaw25.FrontHexes'. -/
def frontHexesUptoCard : Claim7 := { stood := { row := frontHexesUptoRow, standIns := [], harness := (true, "90602c10236fb2f943cb2ee9f8ca11251e3ecc3277161578736ae51a9da17318"), looks := true }, kinds := [], alts := [], laidByText := true, laidKinds := [.data, .data, .data, .data, .sentinel, .sentinel, .pinned], laidTests := true, laidLooks := .later }
def FrontHexesUptoCardSaid : Prop := Claim7.holds Tryz.pinned (.plain (OpenSpec.upto frontHexesSpec)) frontHexesUptoCard
end Rows
end Go.Proofs.YtffgbjbmojdeeaaGreatDoor
