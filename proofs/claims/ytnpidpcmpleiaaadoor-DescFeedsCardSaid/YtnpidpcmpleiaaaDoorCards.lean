/-
  DERIVED. GIVEN WITH THE SEED: THE CARDS: each row of YtnpidpcmpleiaaaDoorRows.lean that lists a variable, with what it lists TIED to the program's text (the seventh form; the later family's looks); each row that meets fmt, with fmt's text TOLD by the authors' own Lean function (tested against real Go, not proved from fmt's source: count such statements apart). THE CARD IS WHAT COUNTS. Prove the row's statement (the work); the ties are given (YtnpidpcmpleiaaaDoorTie.lean); close each card by the builder's one call (the guide's Derived/Test/ToyasCard.lean, 'card_holds'). Laid BY PROGRAM, IN A SANDBOX (cutbox-door.mjs). By AI agents, Wed Nov 11 2026. No macro, syntax, notation, axiom, sorry.
-/
import Derived.Test.YtnpidpcmpleiaaaDoorRows
import GoSem.ClaimSeven
namespace Go.Proofs.YtnpidpcmpleiaaaDoor
namespace Rows

/-- THE TIED CARD OF 'trefoillaw05.DescFeeds'. -/
def descFeedsCard : Claim7 := { stood := { row := descFeedsRow, standIns := [], harness := (true, "98ff9083b453f9a824804d8eb151ebf26dcad139571c8fa2a3f10d736681436a"), looks := false }, kinds := [], alts := [], laidByText := true, laidKinds := [.data, .data], laidTests := true, laidLooks := .later }
def DescFeedsCardSaid : Prop := Claim7.holds Tryd.pinned (.plain (OpenSpec.ofChange descFeedsSpec)) descFeedsCard

/-- THE SECOND FORM's CARD OF 'trefoillaw05.DescFeeds'. -/
def descFeedsUptoCard : Claim7 := { stood := { row := descFeedsUptoRow, standIns := [], harness := (true, "98ff9083b453f9a824804d8eb151ebf26dcad139571c8fa2a3f10d736681436a"), looks := false }, kinds := [], alts := [], laidByText := true, laidKinds := [.data, .data], laidTests := true, laidLooks := .later }
def DescFeedsUptoCardSaid : Prop := Claim7.holds Tryd.pinned (.plain (OpenSpec.upto descFeedsSpec)) descFeedsUptoCard
end Rows
end Go.Proofs.YtnpidpcmpleiaaaDoor
