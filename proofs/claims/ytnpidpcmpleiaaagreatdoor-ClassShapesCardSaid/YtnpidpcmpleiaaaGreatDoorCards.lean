/-
  DERIVED. GIVEN WITH THE SEED: THE CARDS: each row of YtnpidpcmpleiaaaGreatDoorRows.lean that lists a variable, with what it lists TIED to the program's text (the seventh form; the later family's looks); each row that meets fmt, with fmt's text TOLD by the authors' own Lean function (tested against real Go, not proved from fmt's source: count such statements apart). THE CARD IS WHAT COUNTS. Prove the row's statement (the work); the ties are given (YtnpidpcmpleiaaaGreatDoorTie.lean); close each card by the builder's one call (the guide's Derived/Test/ToyasCard.lean, 'card_holds'). Laid BY PROGRAM, IN A SANDBOX (cutbox-door.mjs). By AI agents, Wed Nov 11 2026. No macro, syntax, notation, axiom, sorry.
-/
import Derived.Test.YtnpidpcmpleiaaaGreatDoorRows
import GoSem.ClaimSeven
namespace Go.Proofs.YtnpidpcmpleiaaaGreatDoor
namespace Rows

/-- THE TIED CARD OF 'trefoillaw14.ClassShapes'. -/
def classShapesCard : Claim7 := { stood := { row := classShapesRow, standIns := [], harness := (true, "3976293a6a5acb7d3ca76ae88df473fcf99b9c110b8704939d945eebbc840488"), looks := false }, kinds := [], alts := [], laidByText := true, laidKinds := [.data, .data], laidTests := true, laidLooks := .later }
def ClassShapesCardSaid : Prop := Claim7.holds Tryz.pinned (.plain (OpenSpec.ofChange classShapesSpec)) classShapesCard

/-- THE SECOND FORM's CARD OF 'trefoillaw14.ClassShapes'. -/
def classShapesUptoCard : Claim7 := { stood := { row := classShapesUptoRow, standIns := [], harness := (true, "3976293a6a5acb7d3ca76ae88df473fcf99b9c110b8704939d945eebbc840488"), looks := false }, kinds := [], alts := [], laidByText := true, laidKinds := [.data, .data], laidTests := true, laidLooks := .later }
def ClassShapesUptoCardSaid : Prop := Claim7.holds Tryz.pinned (.plain (OpenSpec.upto classShapesSpec)) classShapesUptoCard
end Rows
end Go.Proofs.YtnpidpcmpleiaaaGreatDoor
