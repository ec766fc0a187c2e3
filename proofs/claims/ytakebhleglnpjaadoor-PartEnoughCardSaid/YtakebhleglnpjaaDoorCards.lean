/-
  DERIVED. GIVEN WITH THE SEED: THE CARDS: each row of YtakebhleglnpjaaDoorRows.lean that lists a variable, with what it lists TIED to the program's text (the seventh form; the later family's looks); each row that meets fmt, with fmt's text TOLD by the authors' own Lean function (tested against real Go, not proved from fmt's source: count such statements apart). THE CARD IS WHAT COUNTS. Prove the row's statement (the work); the ties are given (YtakebhleglnpjaaDoorTie.lean); close each card by the builder's one call (the guide's Derived/Test/ToyasCard.lean, 'card_holds'). Laid BY PROGRAM, IN A SANDBOX (cutbox-door.mjs). By AI agents, Wed Nov 11 2026. No macro, syntax, notation, axiom, sorry.
-/
import Derived.Test.YtakebhleglnpjaaDoorRows
import GoSem.ClaimSeven
namespace Go.Proofs.YtakebhleglnpjaaDoor
namespace Rows

/-- THE TIED CARD OF 'trefoillaw05.DescChecks'. -/
def descChecksCard : Claim7 := { stood := { row := descChecksRow, standIns := [], harness := (true, "c304ce4f19ee0c58d3f34ffb446807514b945b97a6a1efc5874848b5fda48ca8"), looks := false }, kinds := [], alts := [], laidByText := true, laidKinds := [.data, .data], laidTests := true, laidLooks := .later }
def DescChecksCardSaid : Prop := Claim7.holds Tryd.pinned (.plain (OpenSpec.ofChange descChecksSpec)) descChecksCard

/-- THE TIED CARD OF 'trefoillaw05.DescFeeds'. -/
def descFeedsCard : Claim7 := { stood := { row := descFeedsRow, standIns := [], harness := (true, "c304ce4f19ee0c58d3f34ffb446807514b945b97a6a1efc5874848b5fda48ca8"), looks := false }, kinds := [], alts := [], laidByText := true, laidKinds := [.data, .data], laidTests := true, laidLooks := .later }
def DescFeedsCardSaid : Prop := Claim7.holds Tryd.pinned (.plain (OpenSpec.ofChange descFeedsSpec)) descFeedsCard

/-- THE TIED CARD OF 'trefoillaw05.DescGaps'. -/
def descGapsCard : Claim7 := { stood := { row := descGapsRow, standIns := [], harness := (true, "c304ce4f19ee0c58d3f34ffb446807514b945b97a6a1efc5874848b5fda48ca8"), looks := false }, kinds := [], alts := [], laidByText := true, laidKinds := [.data, .data], laidTests := true, laidLooks := .later }
def DescGapsCardSaid : Prop := Claim7.holds Tryd.pinned (.plain (OpenSpec.ofChange descGapsSpec)) descGapsCard

/-- THE TIED CARD OF 'trefoillaw05.DescCounts'. -/
def descCountsCard : Claim7 := { stood := { row := descCountsRow, standIns := [], harness := (true, "c304ce4f19ee0c58d3f34ffb446807514b945b97a6a1efc5874848b5fda48ca8"), looks := false }, kinds := [], alts := [], laidByText := true, laidKinds := [.data, .data], laidTests := true, laidLooks := .later }
def DescCountsCardSaid : Prop := Claim7.holds Tryd.pinned (.plain (OpenSpec.ofChange descCountsSpec)) descCountsCard

/-- THE TIED CARD OF 'trefoillaw05.DescLess'. -/
def descLessCard : Claim7 := { stood := { row := descLessRow, standIns := [], harness := (true, "c304ce4f19ee0c58d3f34ffb446807514b945b97a6a1efc5874848b5fda48ca8"), looks := false }, kinds := [], alts := [], laidByText := true, laidKinds := [.data, .data], laidTests := true, laidLooks := .later }
def DescLessCardSaid : Prop := Claim7.holds Tryd.pinned (.plain (OpenSpec.ofChange descLessSpec)) descLessCard

/-- THE TIED CARD OF 'trefoillaw05.DescSame'. -/
def descSameCard : Claim7 := { stood := { row := descSameRow, standIns := [], harness := (true, "c304ce4f19ee0c58d3f34ffb446807514b945b97a6a1efc5874848b5fda48ca8"), looks := false }, kinds := [], alts := [], laidByText := true, laidKinds := [.data, .data], laidTests := true, laidLooks := .later }
def DescSameCardSaid : Prop := Claim7.holds Tryd.pinned (.plain (OpenSpec.ofChange descSameSpec)) descSameCard

/-- THE TIED CARD OF 'trefoillaw16.PartRight'. -/
def partRightCard : Claim7 := { stood := { row := partRightRow, standIns := [], harness := (true, "c304ce4f19ee0c58d3f34ffb446807514b945b97a6a1efc5874848b5fda48ca8"), looks := false }, kinds := [], alts := [], laidByText := true, laidKinds := [.data, .data], laidTests := true, laidLooks := .later }
def PartRightCardSaid : Prop := Claim7.holds Tryd.pinned (.plain (OpenSpec.ofChange partRightSpec)) partRightCard

/-- THE TIED CARD OF 'trefoillaw16.PartEnough'. -/
def partEnoughCard : Claim7 := { stood := { row := partEnoughRow, standIns := [], harness := (true, "c304ce4f19ee0c58d3f34ffb446807514b945b97a6a1efc5874848b5fda48ca8"), looks := false }, kinds := [], alts := [], laidByText := true, laidKinds := [.data, .data], laidTests := true, laidLooks := .later }
def PartEnoughCardSaid : Prop := Claim7.holds Tryd.pinned (.plain (OpenSpec.ofChange partEnoughSpec)) partEnoughCard

/-- THE TIED CARD OF 'trefoillaw16.PartMore'. -/
def partMoreCard : Claim7 := { stood := { row := partMoreRow, standIns := [], harness := (true, "c304ce4f19ee0c58d3f34ffb446807514b945b97a6a1efc5874848b5fda48ca8"), looks := false }, kinds := [], alts := [], laidByText := true, laidKinds := [.data, .data], laidTests := true, laidLooks := .later }
def PartMoreCardSaid : Prop := Claim7.holds Tryd.pinned (.plain (OpenSpec.ofChange partMoreSpec)) partMoreCard

/-- THE TIED CARD OF 'trefoillaw16.PartOrder'. -/
def partOrderCard : Claim7 := { stood := { row := partOrderRow, standIns := [], harness := (true, "c304ce4f19ee0c58d3f34ffb446807514b945b97a6a1efc5874848b5fda48ca8"), looks := false }, kinds := [], alts := [], laidByText := true, laidKinds := [.data, .data], laidTests := true, laidLooks := .later }
def PartOrderCardSaid : Prop := Claim7.holds Tryd.pinned (.plain (OpenSpec.ofChange partOrderSpec)) partOrderCard

/-- THE TIED CARD OF 'trefoillaw16.PartFirst'. -/
def partFirstCard : Claim7 := { stood := { row := partFirstRow, standIns := [], harness := (true, "c304ce4f19ee0c58d3f34ffb446807514b945b97a6a1efc5874848b5fda48ca8"), looks := false }, kinds := [], alts := [], laidByText := true, laidKinds := [.data, .data], laidTests := true, laidLooks := .later }
def PartFirstCardSaid : Prop := Claim7.holds Tryd.pinned (.plain (OpenSpec.ofChange partFirstSpec)) partFirstCard

/-- THE TIED CARD OF 'trefoillaw16.PartWider'. -/
def partWiderCard : Claim7 := { stood := { row := partWiderRow, standIns := [], harness := (true, "c304ce4f19ee0c58d3f34ffb446807514b945b97a6a1efc5874848b5fda48ca8"), looks := false }, kinds := [], alts := [], laidByText := true, laidKinds := [.data, .data], laidTests := true, laidLooks := .later }
def PartWiderCardSaid : Prop := Claim7.holds Tryd.pinned (.plain (OpenSpec.ofChange partWiderSpec)) partWiderCard

/-- THE SECOND FORM's CARD OF 'trefoillaw05.DescChecks'. -/
def descChecksUptoCard : Claim7 := { stood := { row := descChecksUptoRow, standIns := [], harness := (true, "c304ce4f19ee0c58d3f34ffb446807514b945b97a6a1efc5874848b5fda48ca8"), looks := false }, kinds := [], alts := [], laidByText := true, laidKinds := [.data, .data], laidTests := true, laidLooks := .later }
def DescChecksUptoCardSaid : Prop := Claim7.holds Tryd.pinned (.plain (OpenSpec.upto descChecksSpec)) descChecksUptoCard

/-- THE SECOND FORM's CARD OF 'trefoillaw05.DescFeeds'. -/
def descFeedsUptoCard : Claim7 := { stood := { row := descFeedsUptoRow, standIns := [], harness := (true, "c304ce4f19ee0c58d3f34ffb446807514b945b97a6a1efc5874848b5fda48ca8"), looks := false }, kinds := [], alts := [], laidByText := true, laidKinds := [.data, .data], laidTests := true, laidLooks := .later }
def DescFeedsUptoCardSaid : Prop := Claim7.holds Tryd.pinned (.plain (OpenSpec.upto descFeedsSpec)) descFeedsUptoCard

/-- THE SECOND FORM's CARD OF 'trefoillaw05.DescGaps'. -/
def descGapsUptoCard : Claim7 := { stood := { row := descGapsUptoRow, standIns := [], harness := (true, "c304ce4f19ee0c58d3f34ffb446807514b945b97a6a1efc5874848b5fda48ca8"), looks := false }, kinds := [], alts := [], laidByText := true, laidKinds := [.data, .data], laidTests := true, laidLooks := .later }
def DescGapsUptoCardSaid : Prop := Claim7.holds Tryd.pinned (.plain (OpenSpec.upto descGapsSpec)) descGapsUptoCard

/-- THE SECOND FORM's CARD OF 'trefoillaw05.DescCounts'. -/
def descCountsUptoCard : Claim7 := { stood := { row := descCountsUptoRow, standIns := [], harness := (true, "c304ce4f19ee0c58d3f34ffb446807514b945b97a6a1efc5874848b5fda48ca8"), looks := false }, kinds := [], alts := [], laidByText := true, laidKinds := [.data, .data], laidTests := true, laidLooks := .later }
def DescCountsUptoCardSaid : Prop := Claim7.holds Tryd.pinned (.plain (OpenSpec.upto descCountsSpec)) descCountsUptoCard

/-- THE SECOND FORM's CARD OF 'trefoillaw05.DescLess'. -/
def descLessUptoCard : Claim7 := { stood := { row := descLessUptoRow, standIns := [], harness := (true, "c304ce4f19ee0c58d3f34ffb446807514b945b97a6a1efc5874848b5fda48ca8"), looks := false }, kinds := [], alts := [], laidByText := true, laidKinds := [.data, .data], laidTests := true, laidLooks := .later }
def DescLessUptoCardSaid : Prop := Claim7.holds Tryd.pinned (.plain (OpenSpec.upto descLessSpec)) descLessUptoCard

/-- THE SECOND FORM's CARD OF 'trefoillaw05.DescSame'. -/
def descSameUptoCard : Claim7 := { stood := { row := descSameUptoRow, standIns := [], harness := (true, "c304ce4f19ee0c58d3f34ffb446807514b945b97a6a1efc5874848b5fda48ca8"), looks := false }, kinds := [], alts := [], laidByText := true, laidKinds := [.data, .data], laidTests := true, laidLooks := .later }
def DescSameUptoCardSaid : Prop := Claim7.holds Tryd.pinned (.plain (OpenSpec.upto descSameSpec)) descSameUptoCard

/-- THE SECOND FORM's CARD OF 'trefoillaw16.PartRight'. -/
def partRightUptoCard : Claim7 := { stood := { row := partRightUptoRow, standIns := [], harness := (true, "c304ce4f19ee0c58d3f34ffb446807514b945b97a6a1efc5874848b5fda48ca8"), looks := false }, kinds := [], alts := [], laidByText := true, laidKinds := [.data, .data], laidTests := true, laidLooks := .later }
def PartRightUptoCardSaid : Prop := Claim7.holds Tryd.pinned (.plain (OpenSpec.upto partRightSpec)) partRightUptoCard

/-- THE SECOND FORM's CARD OF 'trefoillaw16.PartEnough'. -/
def partEnoughUptoCard : Claim7 := { stood := { row := partEnoughUptoRow, standIns := [], harness := (true, "c304ce4f19ee0c58d3f34ffb446807514b945b97a6a1efc5874848b5fda48ca8"), looks := false }, kinds := [], alts := [], laidByText := true, laidKinds := [.data, .data], laidTests := true, laidLooks := .later }
def PartEnoughUptoCardSaid : Prop := Claim7.holds Tryd.pinned (.plain (OpenSpec.upto partEnoughSpec)) partEnoughUptoCard

/-- THE SECOND FORM's CARD OF 'trefoillaw16.PartMore'. -/
def partMoreUptoCard : Claim7 := { stood := { row := partMoreUptoRow, standIns := [], harness := (true, "c304ce4f19ee0c58d3f34ffb446807514b945b97a6a1efc5874848b5fda48ca8"), looks := false }, kinds := [], alts := [], laidByText := true, laidKinds := [.data, .data], laidTests := true, laidLooks := .later }
def PartMoreUptoCardSaid : Prop := Claim7.holds Tryd.pinned (.plain (OpenSpec.upto partMoreSpec)) partMoreUptoCard

/-- THE SECOND FORM's CARD OF 'trefoillaw16.PartOrder'. -/
def partOrderUptoCard : Claim7 := { stood := { row := partOrderUptoRow, standIns := [], harness := (true, "c304ce4f19ee0c58d3f34ffb446807514b945b97a6a1efc5874848b5fda48ca8"), looks := false }, kinds := [], alts := [], laidByText := true, laidKinds := [.data, .data], laidTests := true, laidLooks := .later }
def PartOrderUptoCardSaid : Prop := Claim7.holds Tryd.pinned (.plain (OpenSpec.upto partOrderSpec)) partOrderUptoCard

/-- THE SECOND FORM's CARD OF 'trefoillaw16.PartFirst'. -/
def partFirstUptoCard : Claim7 := { stood := { row := partFirstUptoRow, standIns := [], harness := (true, "c304ce4f19ee0c58d3f34ffb446807514b945b97a6a1efc5874848b5fda48ca8"), looks := false }, kinds := [], alts := [], laidByText := true, laidKinds := [.data, .data], laidTests := true, laidLooks := .later }
def PartFirstUptoCardSaid : Prop := Claim7.holds Tryd.pinned (.plain (OpenSpec.upto partFirstSpec)) partFirstUptoCard

/-- THE SECOND FORM's CARD OF 'trefoillaw16.PartWider'. -/
def partWiderUptoCard : Claim7 := { stood := { row := partWiderUptoRow, standIns := [], harness := (true, "c304ce4f19ee0c58d3f34ffb446807514b945b97a6a1efc5874848b5fda48ca8"), looks := false }, kinds := [], alts := [], laidByText := true, laidKinds := [.data, .data], laidTests := true, laidLooks := .later }
def PartWiderUptoCardSaid : Prop := Claim7.holds Tryd.pinned (.plain (OpenSpec.upto partWiderSpec)) partWiderUptoCard
end Rows
end Go.Proofs.YtakebhleglnpjaaDoor
