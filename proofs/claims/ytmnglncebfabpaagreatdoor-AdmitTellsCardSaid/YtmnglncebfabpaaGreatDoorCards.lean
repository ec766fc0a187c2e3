/-
  DERIVED. GIVEN WITH THE SEED: THE CARDS: each row of YtmnglncebfabpaaGreatDoorRows.lean that lists a variable, with what it lists TIED to the program's text (the seventh form; the later family's looks); each row that meets fmt, with fmt's text TOLD by the authors' own Lean function (tested against real Go, not proved from fmt's source: count such statements apart). THE CARD IS WHAT COUNTS. Prove the row's statement (the work); the ties are given (YtmnglncebfabpaaGreatDoorTie.lean); close each card by the builder's one call (the guide's Derived/Test/ToyasCard.lean, 'card_holds'). Laid BY PROGRAM, IN A SANDBOX (cutbox-door.mjs). By AI agents, Wed Nov 11 2026. No macro, syntax, notation, axiom, sorry.
-/
import Derived.Test.YtmnglncebfabpaaGreatDoorRows
import GoSem.ClaimSeven
namespace Go.Proofs.YtmnglncebfabpaaGreatDoor
namespace Rows

/-- THE TIED CARD OF 'trefoillaw17.AdmitTells'. -/
def admitTellsCard : Claim7 := { stood := { row := admitTellsRow, standIns := [], harness := (true, "5993bbbb36cd418e27731508b4ad0539b37fc49c272e06c4f0b99c3df5968dc5"), looks := false }, kinds := [], alts := [], laidByText := true, laidKinds := [.data, .data], laidTests := true, laidLooks := .later }
def AdmitTellsCardSaid : Prop := Claim7.holds Tryz.pinned (.plain (OpenSpec.ofChange admitTellsSpec)) admitTellsCard

/-- THE TIED CARD OF 'trefoillaw17.AdmitPlans'. -/
def admitPlansCard : Claim7 := { stood := { row := admitPlansRow, standIns := [], harness := (true, "5993bbbb36cd418e27731508b4ad0539b37fc49c272e06c4f0b99c3df5968dc5"), looks := false }, kinds := [], alts := [], laidByText := true, laidKinds := [.data, .data], laidTests := true, laidLooks := .later }
def AdmitPlansCardSaid : Prop := Claim7.holds Tryz.pinned (.plain (OpenSpec.ofChange admitPlansSpec)) admitPlansCard

/-- THE TIED CARD OF 'trefoillaw17.AdmitEnough'. -/
def admitEnoughCard : Claim7 := { stood := { row := admitEnoughRow, standIns := [], harness := (true, "5993bbbb36cd418e27731508b4ad0539b37fc49c272e06c4f0b99c3df5968dc5"), looks := false }, kinds := [], alts := [], laidByText := true, laidKinds := [.data, .data], laidTests := true, laidLooks := .later }
def AdmitEnoughCardSaid : Prop := Claim7.holds Tryz.pinned (.plain (OpenSpec.ofChange admitEnoughSpec)) admitEnoughCard

/-- THE TIED CARD OF 'trefoillaw17.AdmitMore'. -/
def admitMoreCard : Claim7 := { stood := { row := admitMoreRow, standIns := [], harness := (true, "5993bbbb36cd418e27731508b4ad0539b37fc49c272e06c4f0b99c3df5968dc5"), looks := false }, kinds := [], alts := [], laidByText := true, laidKinds := [.data, .data], laidTests := true, laidLooks := .later }
def AdmitMoreCardSaid : Prop := Claim7.holds Tryz.pinned (.plain (OpenSpec.ofChange admitMoreSpec)) admitMoreCard

/-- THE TIED CARD OF 'trefoillaw17.AdmitLess'. -/
def admitLessCard : Claim7 := { stood := { row := admitLessRow, standIns := [], harness := (true, "5993bbbb36cd418e27731508b4ad0539b37fc49c272e06c4f0b99c3df5968dc5"), looks := false }, kinds := [], alts := [], laidByText := true, laidKinds := [.data, .data], laidTests := true, laidLooks := .later }
def AdmitLessCardSaid : Prop := Claim7.holds Tryz.pinned (.plain (OpenSpec.ofChange admitLessSpec)) admitLessCard

/-- THE TIED CARD OF 'trefoillaw17.AdmitSound'. -/
def admitSoundCard : Claim7 := { stood := { row := admitSoundRow, standIns := [], harness := (true, "5993bbbb36cd418e27731508b4ad0539b37fc49c272e06c4f0b99c3df5968dc5"), looks := false }, kinds := [], alts := [], laidByText := true, laidKinds := [.data, .data], laidTests := true, laidLooks := .later }
def AdmitSoundCardSaid : Prop := Claim7.holds Tryz.pinned (.plain (OpenSpec.ofChange admitSoundSpec)) admitSoundCard

/-- THE SECOND FORM's CARD OF 'trefoillaw17.AdmitTells'. -/
def admitTellsUptoCard : Claim7 := { stood := { row := admitTellsUptoRow, standIns := [], harness := (true, "5993bbbb36cd418e27731508b4ad0539b37fc49c272e06c4f0b99c3df5968dc5"), looks := false }, kinds := [], alts := [], laidByText := true, laidKinds := [.data, .data], laidTests := true, laidLooks := .later }
def AdmitTellsUptoCardSaid : Prop := Claim7.holds Tryz.pinned (.plain (OpenSpec.upto admitTellsSpec)) admitTellsUptoCard

/-- THE SECOND FORM's CARD OF 'trefoillaw17.AdmitPlans'. -/
def admitPlansUptoCard : Claim7 := { stood := { row := admitPlansUptoRow, standIns := [], harness := (true, "5993bbbb36cd418e27731508b4ad0539b37fc49c272e06c4f0b99c3df5968dc5"), looks := false }, kinds := [], alts := [], laidByText := true, laidKinds := [.data, .data], laidTests := true, laidLooks := .later }
def AdmitPlansUptoCardSaid : Prop := Claim7.holds Tryz.pinned (.plain (OpenSpec.upto admitPlansSpec)) admitPlansUptoCard

/-- THE SECOND FORM's CARD OF 'trefoillaw17.AdmitEnough'. -/
def admitEnoughUptoCard : Claim7 := { stood := { row := admitEnoughUptoRow, standIns := [], harness := (true, "5993bbbb36cd418e27731508b4ad0539b37fc49c272e06c4f0b99c3df5968dc5"), looks := false }, kinds := [], alts := [], laidByText := true, laidKinds := [.data, .data], laidTests := true, laidLooks := .later }
def AdmitEnoughUptoCardSaid : Prop := Claim7.holds Tryz.pinned (.plain (OpenSpec.upto admitEnoughSpec)) admitEnoughUptoCard

/-- THE SECOND FORM's CARD OF 'trefoillaw17.AdmitMore'. -/
def admitMoreUptoCard : Claim7 := { stood := { row := admitMoreUptoRow, standIns := [], harness := (true, "5993bbbb36cd418e27731508b4ad0539b37fc49c272e06c4f0b99c3df5968dc5"), looks := false }, kinds := [], alts := [], laidByText := true, laidKinds := [.data, .data], laidTests := true, laidLooks := .later }
def AdmitMoreUptoCardSaid : Prop := Claim7.holds Tryz.pinned (.plain (OpenSpec.upto admitMoreSpec)) admitMoreUptoCard

/-- THE SECOND FORM's CARD OF 'trefoillaw17.AdmitLess'. -/
def admitLessUptoCard : Claim7 := { stood := { row := admitLessUptoRow, standIns := [], harness := (true, "5993bbbb36cd418e27731508b4ad0539b37fc49c272e06c4f0b99c3df5968dc5"), looks := false }, kinds := [], alts := [], laidByText := true, laidKinds := [.data, .data], laidTests := true, laidLooks := .later }
def AdmitLessUptoCardSaid : Prop := Claim7.holds Tryz.pinned (.plain (OpenSpec.upto admitLessSpec)) admitLessUptoCard

/-- THE SECOND FORM's CARD OF 'trefoillaw17.AdmitSound'. -/
def admitSoundUptoCard : Claim7 := { stood := { row := admitSoundUptoRow, standIns := [], harness := (true, "5993bbbb36cd418e27731508b4ad0539b37fc49c272e06c4f0b99c3df5968dc5"), looks := false }, kinds := [], alts := [], laidByText := true, laidKinds := [.data, .data], laidTests := true, laidLooks := .later }
def AdmitSoundUptoCardSaid : Prop := Claim7.holds Tryz.pinned (.plain (OpenSpec.upto admitSoundSpec)) admitSoundUptoCard
end Rows
end Go.Proofs.YtmnglncebfabpaaGreatDoor
