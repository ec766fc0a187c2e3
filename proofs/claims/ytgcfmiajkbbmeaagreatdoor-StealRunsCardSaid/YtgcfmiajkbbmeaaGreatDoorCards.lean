/-
  DERIVED. GIVEN WITH THE SEED: THE CARDS: each row of YtgcfmiajkbbmeaaGreatDoorRows.lean that lists a variable, with what it lists TIED to the program's text (the seventh form; the later family's looks); each row that meets fmt, with fmt's text TOLD by the authors' own Lean function (tested against real Go, not proved from fmt's source: count such statements apart). THE CARD IS WHAT COUNTS. Prove the row's statement (the work); the ties are given (YtgcfmiajkbbmeaaGreatDoorTie.lean); close each card by the builder's one call (the guide's Derived/Test/ToyasCard.lean, 'card_holds'). Laid BY PROGRAM, IN A SANDBOX (cutbox-door.mjs). By AI agents, Wed Nov 11 2026. No macro, syntax, notation, axiom, sorry.
-/
import Derived.Test.YtgcfmiajkbbmeaaGreatDoorRows
import GoSem.ClaimSeven
namespace Go.Proofs.YtgcfmiajkbbmeaaGreatDoor
namespace Rows

/-- THE TIED CARD OF 'trefoillaw13.StealRuns'. -/
def stealRunsCard : Claim7 := { stood := { row := stealRunsRow, standIns := [], harness := (true, "d6d7d9d5c807326625a91c6e0083beb2768bae7db06b561411ca8dd5dfe6ff89"), looks := false }, kinds := [], alts := [], laidByText := true, laidKinds := [.data, .data], laidTests := true, laidLooks := .later }
def StealRunsCardSaid : Prop := Claim7.holds Tryz.pinned (.plain (OpenSpec.ofChange stealRunsSpec)) stealRunsCard

/-- THE TIED CARD OF 'trefoillaw13.StealCalm'. -/
def stealCalmCard : Claim7 := { stood := { row := stealCalmRow, standIns := [], harness := (true, "d6d7d9d5c807326625a91c6e0083beb2768bae7db06b561411ca8dd5dfe6ff89"), looks := false }, kinds := [], alts := [], laidByText := true, laidKinds := [.data, .data], laidTests := true, laidLooks := .later }
def StealCalmCardSaid : Prop := Claim7.holds Tryz.pinned (.plain (OpenSpec.ofChange stealCalmSpec)) stealCalmCard

/-- THE TIED CARD OF 'trefoillaw13.StealOnce'. -/
def stealOnceCard : Claim7 := { stood := { row := stealOnceRow, standIns := [], harness := (true, "d6d7d9d5c807326625a91c6e0083beb2768bae7db06b561411ca8dd5dfe6ff89"), looks := false }, kinds := [], alts := [], laidByText := true, laidKinds := [.data, .data], laidTests := true, laidLooks := .later }
def StealOnceCardSaid : Prop := Claim7.holds Tryz.pinned (.plain (OpenSpec.ofChange stealOnceSpec)) stealOnceCard

/-- THE TIED CARD OF 'trefoillaw13.StealOne'. -/
def stealOneCard : Claim7 := { stood := { row := stealOneRow, standIns := [], harness := (true, "d6d7d9d5c807326625a91c6e0083beb2768bae7db06b561411ca8dd5dfe6ff89"), looks := false }, kinds := [], alts := [], laidByText := true, laidKinds := [.data, .data], laidTests := true, laidLooks := .later }
def StealOneCardSaid : Prop := Claim7.holds Tryz.pinned (.plain (OpenSpec.ofChange stealOneSpec)) stealOneCard

/-- THE TIED CARD OF 'trefoillaw13.StealSched'. -/
def stealSchedCard : Claim7 := { stood := { row := stealSchedRow, standIns := [], harness := (true, "d6d7d9d5c807326625a91c6e0083beb2768bae7db06b561411ca8dd5dfe6ff89"), looks := false }, kinds := [], alts := [], laidByText := true, laidKinds := [.data, .data], laidTests := true, laidLooks := .later }
def StealSchedCardSaid : Prop := Claim7.holds Tryz.pinned (.plain (OpenSpec.ofChange stealSchedSpec)) stealSchedCard

/-- THE TIED CARD OF 'trefoillaw14.ClassMeets'. -/
def classMeetsCard : Claim7 := { stood := { row := classMeetsRow, standIns := [], harness := (true, "d6d7d9d5c807326625a91c6e0083beb2768bae7db06b561411ca8dd5dfe6ff89"), looks := false }, kinds := [], alts := [], laidByText := true, laidKinds := [.data, .data], laidTests := true, laidLooks := .later }
def ClassMeetsCardSaid : Prop := Claim7.holds Tryz.pinned (.plain (OpenSpec.ofChange classMeetsSpec)) classMeetsCard

/-- THE SECOND FORM's CARD OF 'trefoillaw13.StealRuns'. -/
def stealRunsUptoCard : Claim7 := { stood := { row := stealRunsUptoRow, standIns := [], harness := (true, "d6d7d9d5c807326625a91c6e0083beb2768bae7db06b561411ca8dd5dfe6ff89"), looks := false }, kinds := [], alts := [], laidByText := true, laidKinds := [.data, .data], laidTests := true, laidLooks := .later }
def StealRunsUptoCardSaid : Prop := Claim7.holds Tryz.pinned (.plain (OpenSpec.upto stealRunsSpec)) stealRunsUptoCard

/-- THE SECOND FORM's CARD OF 'trefoillaw13.StealCalm'. -/
def stealCalmUptoCard : Claim7 := { stood := { row := stealCalmUptoRow, standIns := [], harness := (true, "d6d7d9d5c807326625a91c6e0083beb2768bae7db06b561411ca8dd5dfe6ff89"), looks := false }, kinds := [], alts := [], laidByText := true, laidKinds := [.data, .data], laidTests := true, laidLooks := .later }
def StealCalmUptoCardSaid : Prop := Claim7.holds Tryz.pinned (.plain (OpenSpec.upto stealCalmSpec)) stealCalmUptoCard

/-- THE SECOND FORM's CARD OF 'trefoillaw13.StealOnce'. -/
def stealOnceUptoCard : Claim7 := { stood := { row := stealOnceUptoRow, standIns := [], harness := (true, "d6d7d9d5c807326625a91c6e0083beb2768bae7db06b561411ca8dd5dfe6ff89"), looks := false }, kinds := [], alts := [], laidByText := true, laidKinds := [.data, .data], laidTests := true, laidLooks := .later }
def StealOnceUptoCardSaid : Prop := Claim7.holds Tryz.pinned (.plain (OpenSpec.upto stealOnceSpec)) stealOnceUptoCard

/-- THE SECOND FORM's CARD OF 'trefoillaw13.StealOne'. -/
def stealOneUptoCard : Claim7 := { stood := { row := stealOneUptoRow, standIns := [], harness := (true, "d6d7d9d5c807326625a91c6e0083beb2768bae7db06b561411ca8dd5dfe6ff89"), looks := false }, kinds := [], alts := [], laidByText := true, laidKinds := [.data, .data], laidTests := true, laidLooks := .later }
def StealOneUptoCardSaid : Prop := Claim7.holds Tryz.pinned (.plain (OpenSpec.upto stealOneSpec)) stealOneUptoCard

/-- THE SECOND FORM's CARD OF 'trefoillaw13.StealSched'. -/
def stealSchedUptoCard : Claim7 := { stood := { row := stealSchedUptoRow, standIns := [], harness := (true, "d6d7d9d5c807326625a91c6e0083beb2768bae7db06b561411ca8dd5dfe6ff89"), looks := false }, kinds := [], alts := [], laidByText := true, laidKinds := [.data, .data], laidTests := true, laidLooks := .later }
def StealSchedUptoCardSaid : Prop := Claim7.holds Tryz.pinned (.plain (OpenSpec.upto stealSchedSpec)) stealSchedUptoCard

/-- THE SECOND FORM's CARD OF 'trefoillaw14.ClassMeets'. -/
def classMeetsUptoCard : Claim7 := { stood := { row := classMeetsUptoRow, standIns := [], harness := (true, "d6d7d9d5c807326625a91c6e0083beb2768bae7db06b561411ca8dd5dfe6ff89"), looks := false }, kinds := [], alts := [], laidByText := true, laidKinds := [.data, .data], laidTests := true, laidLooks := .later }
def ClassMeetsUptoCardSaid : Prop := Claim7.holds Tryz.pinned (.plain (OpenSpec.upto classMeetsSpec)) classMeetsUptoCard
end Rows
end Go.Proofs.YtgcfmiajkbbmeaaGreatDoor
