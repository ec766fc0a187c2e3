/-
  DERIVED. GIVEN WITH THE SEED: THE CARDS: each row of YtljgncbdagmeeaaDoorRows.lean that lists a variable, with what it lists TIED to the program's text (the seventh form; the later family's looks); each row that meets fmt, with fmt's text TOLD by the authors' own Lean function (tested against real Go, not proved from fmt's source: count such statements apart). THE CARD IS WHAT COUNTS. Prove the row's statement (the work); the ties are given (YtljgncbdagmeeaaDoorTie.lean); close each card by the builder's one call (the guide's Derived/Test/ToyasCard.lean, 'card_holds'). Laid BY PROGRAM, IN A SANDBOX (cutbox-door.mjs). By AI agents, Wed Nov 11 2026. No macro, syntax, notation, axiom, sorry.
-/
import Derived.Test.YtljgncbdagmeeaaDoorRows
import GoSem.ClaimSeven
namespace Go.Proofs.YtljgncbdagmeeaaDoor
namespace Rows

/-- THE TIED CARD OF 'trefoillaw07.LowTells'. -/
def lowTellsCard : Claim7 := { stood := { row := lowTellsRow, standIns := [], harness := (true, "d907b5d9381713682315e2e2b6cdc9b83e8277611de7aab9efce85a6aaa9d615"), looks := false }, kinds := [], alts := [], laidByText := true, laidKinds := [.data, .data], laidTests := true, laidLooks := .later }
def LowTellsCardSaid : Prop := Claim7.holds Tryd.pinned (.plain (OpenSpec.ofChange lowTellsSpec)) lowTellsCard

/-- THE TIED CARD OF 'trefoillaw07.LowPlaces'. -/
def lowPlacesCard : Claim7 := { stood := { row := lowPlacesRow, standIns := [], harness := (true, "d907b5d9381713682315e2e2b6cdc9b83e8277611de7aab9efce85a6aaa9d615"), looks := false }, kinds := [], alts := [], laidByText := true, laidKinds := [.data, .data], laidTests := true, laidLooks := .later }
def LowPlacesCardSaid : Prop := Claim7.holds Tryd.pinned (.plain (OpenSpec.ofChange lowPlacesSpec)) lowPlacesCard

/-- THE TIED CARD OF 'trefoillaw07.LowWork'. -/
def lowWorkCard : Claim7 := { stood := { row := lowWorkRow, standIns := [], harness := (true, "d907b5d9381713682315e2e2b6cdc9b83e8277611de7aab9efce85a6aaa9d615"), looks := false }, kinds := [], alts := [], laidByText := true, laidKinds := [.data, .data], laidTests := true, laidLooks := .later }
def LowWorkCardSaid : Prop := Claim7.holds Tryd.pinned (.plain (OpenSpec.ofChange lowWorkSpec)) lowWorkCard

/-- THE TIED CARD OF 'trefoillaw07.LowTouch'. -/
def lowTouchCard : Claim7 := { stood := { row := lowTouchRow, standIns := [], harness := (true, "d907b5d9381713682315e2e2b6cdc9b83e8277611de7aab9efce85a6aaa9d615"), looks := false }, kinds := [], alts := [], laidByText := true, laidKinds := [.data, .data], laidTests := true, laidLooks := .later }
def LowTouchCardSaid : Prop := Claim7.holds Tryd.pinned (.plain (OpenSpec.ofChange lowTouchSpec)) lowTouchCard

/-- THE TIED CARD OF 'trefoillaw07.LowBarrier'. -/
def lowBarrierCard : Claim7 := { stood := { row := lowBarrierRow, standIns := [], harness := (true, "d907b5d9381713682315e2e2b6cdc9b83e8277611de7aab9efce85a6aaa9d615"), looks := false }, kinds := [], alts := [], laidByText := true, laidKinds := [.data, .data], laidTests := true, laidLooks := .later }
def LowBarrierCardSaid : Prop := Claim7.holds Tryd.pinned (.plain (OpenSpec.ofChange lowBarrierSpec)) lowBarrierCard

/-- THE TIED CARD OF 'trefoillaw07.LowRound'. -/
def lowRoundCard : Claim7 := { stood := { row := lowRoundRow, standIns := [], harness := (true, "d907b5d9381713682315e2e2b6cdc9b83e8277611de7aab9efce85a6aaa9d615"), looks := false }, kinds := [], alts := [], laidByText := true, laidKinds := [.data, .data], laidTests := true, laidLooks := .later }
def LowRoundCardSaid : Prop := Claim7.holds Tryd.pinned (.plain (OpenSpec.ofChange lowRoundSpec)) lowRoundCard

/-- THE TIED CARD OF 'trefoillaw07.LowLess'. -/
def lowLessCard : Claim7 := { stood := { row := lowLessRow, standIns := [], harness := (true, "d907b5d9381713682315e2e2b6cdc9b83e8277611de7aab9efce85a6aaa9d615"), looks := false }, kinds := [], alts := [], laidByText := true, laidKinds := [.data, .data], laidTests := true, laidLooks := .later }
def LowLessCardSaid : Prop := Claim7.holds Tryd.pinned (.plain (OpenSpec.ofChange lowLessSpec)) lowLessCard

/-- THE TIED CARD OF 'trefoillaw14.ClassTells'. -/
def classTellsCard : Claim7 := { stood := { row := classTellsRow, standIns := [], harness := (true, "d907b5d9381713682315e2e2b6cdc9b83e8277611de7aab9efce85a6aaa9d615"), looks := false }, kinds := [], alts := [], laidByText := true, laidKinds := [.data, .data], laidTests := true, laidLooks := .later }
def ClassTellsCardSaid : Prop := Claim7.holds Tryd.pinned (.plain (OpenSpec.ofChange classTellsSpec)) classTellsCard

/-- THE TIED CARD OF 'trefoillaw14.ClassLeast'. -/
def classLeastCard : Claim7 := { stood := { row := classLeastRow, standIns := [], harness := (true, "d907b5d9381713682315e2e2b6cdc9b83e8277611de7aab9efce85a6aaa9d615"), looks := false }, kinds := [], alts := [], laidByText := true, laidKinds := [.data, .data], laidTests := true, laidLooks := .later }
def ClassLeastCardSaid : Prop := Claim7.holds Tryd.pinned (.plain (OpenSpec.ofChange classLeastSpec)) classLeastCard

/-- THE TIED CARD OF 'trefoillaw14.ClassMore'. -/
def classMoreCard : Claim7 := { stood := { row := classMoreRow, standIns := [], harness := (true, "d907b5d9381713682315e2e2b6cdc9b83e8277611de7aab9efce85a6aaa9d615"), looks := false }, kinds := [], alts := [], laidByText := true, laidKinds := [.data, .data], laidTests := true, laidLooks := .later }
def ClassMoreCardSaid : Prop := Claim7.holds Tryd.pinned (.plain (OpenSpec.ofChange classMoreSpec)) classMoreCard

/-- THE TIED CARD OF 'trefoillaw08.EvalOps'. -/
def evalOpsCard : Claim7 := { stood := { row := evalOpsRow, standIns := [], harness := (true, "d907b5d9381713682315e2e2b6cdc9b83e8277611de7aab9efce85a6aaa9d615"), looks := false }, kinds := [], alts := [], laidByText := true, laidKinds := [.data, .data], laidTests := true, laidLooks := .later }
def EvalOpsCardSaid : Prop := Claim7.holds Tryd.pinned (.plain (OpenSpec.ofChange evalOpsSpec)) evalOpsCard

/-- THE SECOND FORM's CARD OF 'trefoillaw07.LowTells'. -/
def lowTellsUptoCard : Claim7 := { stood := { row := lowTellsUptoRow, standIns := [], harness := (true, "d907b5d9381713682315e2e2b6cdc9b83e8277611de7aab9efce85a6aaa9d615"), looks := false }, kinds := [], alts := [], laidByText := true, laidKinds := [.data, .data], laidTests := true, laidLooks := .later }
def LowTellsUptoCardSaid : Prop := Claim7.holds Tryd.pinned (.plain (OpenSpec.upto lowTellsSpec)) lowTellsUptoCard

/-- THE SECOND FORM's CARD OF 'trefoillaw07.LowPlaces'. -/
def lowPlacesUptoCard : Claim7 := { stood := { row := lowPlacesUptoRow, standIns := [], harness := (true, "d907b5d9381713682315e2e2b6cdc9b83e8277611de7aab9efce85a6aaa9d615"), looks := false }, kinds := [], alts := [], laidByText := true, laidKinds := [.data, .data], laidTests := true, laidLooks := .later }
def LowPlacesUptoCardSaid : Prop := Claim7.holds Tryd.pinned (.plain (OpenSpec.upto lowPlacesSpec)) lowPlacesUptoCard

/-- THE SECOND FORM's CARD OF 'trefoillaw07.LowWork'. -/
def lowWorkUptoCard : Claim7 := { stood := { row := lowWorkUptoRow, standIns := [], harness := (true, "d907b5d9381713682315e2e2b6cdc9b83e8277611de7aab9efce85a6aaa9d615"), looks := false }, kinds := [], alts := [], laidByText := true, laidKinds := [.data, .data], laidTests := true, laidLooks := .later }
def LowWorkUptoCardSaid : Prop := Claim7.holds Tryd.pinned (.plain (OpenSpec.upto lowWorkSpec)) lowWorkUptoCard

/-- THE SECOND FORM's CARD OF 'trefoillaw07.LowTouch'. -/
def lowTouchUptoCard : Claim7 := { stood := { row := lowTouchUptoRow, standIns := [], harness := (true, "d907b5d9381713682315e2e2b6cdc9b83e8277611de7aab9efce85a6aaa9d615"), looks := false }, kinds := [], alts := [], laidByText := true, laidKinds := [.data, .data], laidTests := true, laidLooks := .later }
def LowTouchUptoCardSaid : Prop := Claim7.holds Tryd.pinned (.plain (OpenSpec.upto lowTouchSpec)) lowTouchUptoCard

/-- THE SECOND FORM's CARD OF 'trefoillaw07.LowBarrier'. -/
def lowBarrierUptoCard : Claim7 := { stood := { row := lowBarrierUptoRow, standIns := [], harness := (true, "d907b5d9381713682315e2e2b6cdc9b83e8277611de7aab9efce85a6aaa9d615"), looks := false }, kinds := [], alts := [], laidByText := true, laidKinds := [.data, .data], laidTests := true, laidLooks := .later }
def LowBarrierUptoCardSaid : Prop := Claim7.holds Tryd.pinned (.plain (OpenSpec.upto lowBarrierSpec)) lowBarrierUptoCard

/-- THE SECOND FORM's CARD OF 'trefoillaw07.LowRound'. -/
def lowRoundUptoCard : Claim7 := { stood := { row := lowRoundUptoRow, standIns := [], harness := (true, "d907b5d9381713682315e2e2b6cdc9b83e8277611de7aab9efce85a6aaa9d615"), looks := false }, kinds := [], alts := [], laidByText := true, laidKinds := [.data, .data], laidTests := true, laidLooks := .later }
def LowRoundUptoCardSaid : Prop := Claim7.holds Tryd.pinned (.plain (OpenSpec.upto lowRoundSpec)) lowRoundUptoCard

/-- THE SECOND FORM's CARD OF 'trefoillaw07.LowLess'. -/
def lowLessUptoCard : Claim7 := { stood := { row := lowLessUptoRow, standIns := [], harness := (true, "d907b5d9381713682315e2e2b6cdc9b83e8277611de7aab9efce85a6aaa9d615"), looks := false }, kinds := [], alts := [], laidByText := true, laidKinds := [.data, .data], laidTests := true, laidLooks := .later }
def LowLessUptoCardSaid : Prop := Claim7.holds Tryd.pinned (.plain (OpenSpec.upto lowLessSpec)) lowLessUptoCard

/-- THE SECOND FORM's CARD OF 'trefoillaw14.ClassTells'. -/
def classTellsUptoCard : Claim7 := { stood := { row := classTellsUptoRow, standIns := [], harness := (true, "d907b5d9381713682315e2e2b6cdc9b83e8277611de7aab9efce85a6aaa9d615"), looks := false }, kinds := [], alts := [], laidByText := true, laidKinds := [.data, .data], laidTests := true, laidLooks := .later }
def ClassTellsUptoCardSaid : Prop := Claim7.holds Tryd.pinned (.plain (OpenSpec.upto classTellsSpec)) classTellsUptoCard

/-- THE SECOND FORM's CARD OF 'trefoillaw14.ClassLeast'. -/
def classLeastUptoCard : Claim7 := { stood := { row := classLeastUptoRow, standIns := [], harness := (true, "d907b5d9381713682315e2e2b6cdc9b83e8277611de7aab9efce85a6aaa9d615"), looks := false }, kinds := [], alts := [], laidByText := true, laidKinds := [.data, .data], laidTests := true, laidLooks := .later }
def ClassLeastUptoCardSaid : Prop := Claim7.holds Tryd.pinned (.plain (OpenSpec.upto classLeastSpec)) classLeastUptoCard

/-- THE SECOND FORM's CARD OF 'trefoillaw14.ClassMore'. -/
def classMoreUptoCard : Claim7 := { stood := { row := classMoreUptoRow, standIns := [], harness := (true, "d907b5d9381713682315e2e2b6cdc9b83e8277611de7aab9efce85a6aaa9d615"), looks := false }, kinds := [], alts := [], laidByText := true, laidKinds := [.data, .data], laidTests := true, laidLooks := .later }
def ClassMoreUptoCardSaid : Prop := Claim7.holds Tryd.pinned (.plain (OpenSpec.upto classMoreSpec)) classMoreUptoCard

/-- THE SECOND FORM's CARD OF 'trefoillaw08.EvalOps'. -/
def evalOpsUptoCard : Claim7 := { stood := { row := evalOpsUptoRow, standIns := [], harness := (true, "d907b5d9381713682315e2e2b6cdc9b83e8277611de7aab9efce85a6aaa9d615"), looks := false }, kinds := [], alts := [], laidByText := true, laidKinds := [.data, .data], laidTests := true, laidLooks := .later }
def EvalOpsUptoCardSaid : Prop := Claim7.holds Tryd.pinned (.plain (OpenSpec.upto evalOpsSpec)) evalOpsUptoCard
end Rows
end Go.Proofs.YtljgncbdagmeeaaDoor
