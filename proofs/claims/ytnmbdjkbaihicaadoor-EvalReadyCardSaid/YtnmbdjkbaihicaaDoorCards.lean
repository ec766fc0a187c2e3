/-
  DERIVED. GIVEN WITH THE SEED: THE CARDS: each row of YtnmbdjkbaihicaaDoorRows.lean that lists a variable, with what it lists TIED to the program's text (the seventh form; the later family's looks); each row that meets fmt, with fmt's text TOLD by the authors' own Lean function (tested against real Go, not proved from fmt's source: count such statements apart). THE CARD IS WHAT COUNTS. Prove the row's statement (the work); the ties are given (YtnmbdjkbaihicaaDoorTie.lean); close each card by the builder's one call (the guide's Derived/Test/ToyasCard.lean, 'card_holds'). Laid BY PROGRAM, IN A SANDBOX (cutbox-door.mjs). By AI agents, Wed Nov 11 2026. No macro, syntax, notation, axiom, sorry.
-/
import Derived.Test.YtnmbdjkbaihicaaDoorRows
import GoSem.ClaimSeven
namespace Go.Proofs.YtnmbdjkbaihicaaDoor
namespace Rows

/-- THE TIED CARD OF 'trefoillaw08.EvalOrder'. -/
def evalOrderCard : Claim7 := { stood := { row := evalOrderRow, standIns := [], harness := (true, "3ab9be834fa2b7d026ba399aa683e49be0919143fbbd24a24d6e9902cb90d35e"), looks := false }, kinds := [], alts := [], laidByText := true, laidKinds := [.data, .data], laidTests := true, laidLooks := .later }
def EvalOrderCardSaid : Prop := Claim7.holds Tryd.pinned (.plain (OpenSpec.ofChange evalOrderSpec)) evalOrderCard

/-- THE TIED CARD OF 'trefoillaw08.EvalReady'. -/
def evalReadyCard : Claim7 := { stood := { row := evalReadyRow, standIns := [], harness := (true, "3ab9be834fa2b7d026ba399aa683e49be0919143fbbd24a24d6e9902cb90d35e"), looks := false }, kinds := [], alts := [], laidByText := true, laidKinds := [.data, .data], laidTests := true, laidLooks := .later }
def EvalReadyCardSaid : Prop := Claim7.holds Tryd.pinned (.plain (OpenSpec.ofChange evalReadySpec)) evalReadyCard

/-- THE TIED CARD OF 'trefoillaw08.EvalInputs'. -/
def evalInputsCard : Claim7 := { stood := { row := evalInputsRow, standIns := [], harness := (true, "3ab9be834fa2b7d026ba399aa683e49be0919143fbbd24a24d6e9902cb90d35e"), looks := false }, kinds := [], alts := [], laidByText := true, laidKinds := [.data, .data], laidTests := true, laidLooks := .later }
def EvalInputsCardSaid : Prop := Claim7.holds Tryd.pinned (.plain (OpenSpec.ofChange evalInputsSpec)) evalInputsCard

/-- THE TIED CARD OF 'trefoillaw09.SourceSteps'. -/
def sourceStepsCard : Claim7 := { stood := { row := sourceStepsRow, standIns := [], harness := (true, "3ab9be834fa2b7d026ba399aa683e49be0919143fbbd24a24d6e9902cb90d35e"), looks := false }, kinds := [], alts := [], laidByText := true, laidKinds := [.data, .data], laidTests := true, laidLooks := .later }
def SourceStepsCardSaid : Prop := Claim7.holds Tryd.pinned (.plain (OpenSpec.ofChange sourceStepsSpec)) sourceStepsCard

/-- THE TIED CARD OF 'trefoillaw09.SourceRuns'. -/
def sourceRunsCard : Claim7 := { stood := { row := sourceRunsRow, standIns := [], harness := (true, "3ab9be834fa2b7d026ba399aa683e49be0919143fbbd24a24d6e9902cb90d35e"), looks := false }, kinds := [], alts := [], laidByText := true, laidKinds := [.data, .data], laidTests := true, laidLooks := .later }
def SourceRunsCardSaid : Prop := Claim7.holds Tryd.pinned (.plain (OpenSpec.ofChange sourceRunsSpec)) sourceRunsCard

/-- THE TIED CARD OF 'trefoillaw09.SourceOrder'. -/
def sourceOrderCard : Claim7 := { stood := { row := sourceOrderRow, standIns := [], harness := (true, "3ab9be834fa2b7d026ba399aa683e49be0919143fbbd24a24d6e9902cb90d35e"), looks := false }, kinds := [], alts := [], laidByText := true, laidKinds := [.data, .data], laidTests := true, laidLooks := .later }
def SourceOrderCardSaid : Prop := Claim7.holds Tryd.pinned (.plain (OpenSpec.ofChange sourceOrderSpec)) sourceOrderCard

/-- THE TIED CARD OF 'trefoillaw09.SourceBarrier'. -/
def sourceBarrierCard : Claim7 := { stood := { row := sourceBarrierRow, standIns := [], harness := (true, "3ab9be834fa2b7d026ba399aa683e49be0919143fbbd24a24d6e9902cb90d35e"), looks := false }, kinds := [], alts := [], laidByText := true, laidKinds := [.data, .data], laidTests := true, laidLooks := .later }
def SourceBarrierCardSaid : Prop := Claim7.holds Tryd.pinned (.plain (OpenSpec.ofChange sourceBarrierSpec)) sourceBarrierCard

/-- THE TIED CARD OF 'trefoillaw09.SourceMay'. -/
def sourceMayCard : Claim7 := { stood := { row := sourceMayRow, standIns := [], harness := (true, "3ab9be834fa2b7d026ba399aa683e49be0919143fbbd24a24d6e9902cb90d35e"), looks := false }, kinds := [], alts := [], laidByText := true, laidKinds := [.data, .data], laidTests := true, laidLooks := .later }
def SourceMayCardSaid : Prop := Claim7.holds Tryd.pinned (.plain (OpenSpec.ofChange sourceMaySpec)) sourceMayCard

/-- THE TIED CARD OF 'trefoillaw09.SourceLow'. -/
def sourceLowCard : Claim7 := { stood := { row := sourceLowRow, standIns := [], harness := (true, "3ab9be834fa2b7d026ba399aa683e49be0919143fbbd24a24d6e9902cb90d35e"), looks := false }, kinds := [], alts := [], laidByText := true, laidKinds := [.data, .data], laidTests := true, laidLooks := .later }
def SourceLowCardSaid : Prop := Claim7.holds Tryd.pinned (.plain (OpenSpec.ofChange sourceLowSpec)) sourceLowCard

/-- THE SECOND FORM's CARD OF 'trefoillaw08.EvalOrder'. -/
def evalOrderUptoCard : Claim7 := { stood := { row := evalOrderUptoRow, standIns := [], harness := (true, "3ab9be834fa2b7d026ba399aa683e49be0919143fbbd24a24d6e9902cb90d35e"), looks := false }, kinds := [], alts := [], laidByText := true, laidKinds := [.data, .data], laidTests := true, laidLooks := .later }
def EvalOrderUptoCardSaid : Prop := Claim7.holds Tryd.pinned (.plain (OpenSpec.upto evalOrderSpec)) evalOrderUptoCard

/-- THE SECOND FORM's CARD OF 'trefoillaw08.EvalReady'. -/
def evalReadyUptoCard : Claim7 := { stood := { row := evalReadyUptoRow, standIns := [], harness := (true, "3ab9be834fa2b7d026ba399aa683e49be0919143fbbd24a24d6e9902cb90d35e"), looks := false }, kinds := [], alts := [], laidByText := true, laidKinds := [.data, .data], laidTests := true, laidLooks := .later }
def EvalReadyUptoCardSaid : Prop := Claim7.holds Tryd.pinned (.plain (OpenSpec.upto evalReadySpec)) evalReadyUptoCard

/-- THE SECOND FORM's CARD OF 'trefoillaw08.EvalInputs'. -/
def evalInputsUptoCard : Claim7 := { stood := { row := evalInputsUptoRow, standIns := [], harness := (true, "3ab9be834fa2b7d026ba399aa683e49be0919143fbbd24a24d6e9902cb90d35e"), looks := false }, kinds := [], alts := [], laidByText := true, laidKinds := [.data, .data], laidTests := true, laidLooks := .later }
def EvalInputsUptoCardSaid : Prop := Claim7.holds Tryd.pinned (.plain (OpenSpec.upto evalInputsSpec)) evalInputsUptoCard

/-- THE SECOND FORM's CARD OF 'trefoillaw09.SourceSteps'. -/
def sourceStepsUptoCard : Claim7 := { stood := { row := sourceStepsUptoRow, standIns := [], harness := (true, "3ab9be834fa2b7d026ba399aa683e49be0919143fbbd24a24d6e9902cb90d35e"), looks := false }, kinds := [], alts := [], laidByText := true, laidKinds := [.data, .data], laidTests := true, laidLooks := .later }
def SourceStepsUptoCardSaid : Prop := Claim7.holds Tryd.pinned (.plain (OpenSpec.upto sourceStepsSpec)) sourceStepsUptoCard

/-- THE SECOND FORM's CARD OF 'trefoillaw09.SourceRuns'. -/
def sourceRunsUptoCard : Claim7 := { stood := { row := sourceRunsUptoRow, standIns := [], harness := (true, "3ab9be834fa2b7d026ba399aa683e49be0919143fbbd24a24d6e9902cb90d35e"), looks := false }, kinds := [], alts := [], laidByText := true, laidKinds := [.data, .data], laidTests := true, laidLooks := .later }
def SourceRunsUptoCardSaid : Prop := Claim7.holds Tryd.pinned (.plain (OpenSpec.upto sourceRunsSpec)) sourceRunsUptoCard

/-- THE SECOND FORM's CARD OF 'trefoillaw09.SourceOrder'. -/
def sourceOrderUptoCard : Claim7 := { stood := { row := sourceOrderUptoRow, standIns := [], harness := (true, "3ab9be834fa2b7d026ba399aa683e49be0919143fbbd24a24d6e9902cb90d35e"), looks := false }, kinds := [], alts := [], laidByText := true, laidKinds := [.data, .data], laidTests := true, laidLooks := .later }
def SourceOrderUptoCardSaid : Prop := Claim7.holds Tryd.pinned (.plain (OpenSpec.upto sourceOrderSpec)) sourceOrderUptoCard

/-- THE SECOND FORM's CARD OF 'trefoillaw09.SourceBarrier'. -/
def sourceBarrierUptoCard : Claim7 := { stood := { row := sourceBarrierUptoRow, standIns := [], harness := (true, "3ab9be834fa2b7d026ba399aa683e49be0919143fbbd24a24d6e9902cb90d35e"), looks := false }, kinds := [], alts := [], laidByText := true, laidKinds := [.data, .data], laidTests := true, laidLooks := .later }
def SourceBarrierUptoCardSaid : Prop := Claim7.holds Tryd.pinned (.plain (OpenSpec.upto sourceBarrierSpec)) sourceBarrierUptoCard

/-- THE SECOND FORM's CARD OF 'trefoillaw09.SourceMay'. -/
def sourceMayUptoCard : Claim7 := { stood := { row := sourceMayUptoRow, standIns := [], harness := (true, "3ab9be834fa2b7d026ba399aa683e49be0919143fbbd24a24d6e9902cb90d35e"), looks := false }, kinds := [], alts := [], laidByText := true, laidKinds := [.data, .data], laidTests := true, laidLooks := .later }
def SourceMayUptoCardSaid : Prop := Claim7.holds Tryd.pinned (.plain (OpenSpec.upto sourceMaySpec)) sourceMayUptoCard

/-- THE SECOND FORM's CARD OF 'trefoillaw09.SourceLow'. -/
def sourceLowUptoCard : Claim7 := { stood := { row := sourceLowUptoRow, standIns := [], harness := (true, "3ab9be834fa2b7d026ba399aa683e49be0919143fbbd24a24d6e9902cb90d35e"), looks := false }, kinds := [], alts := [], laidByText := true, laidKinds := [.data, .data], laidTests := true, laidLooks := .later }
def SourceLowUptoCardSaid : Prop := Claim7.holds Tryd.pinned (.plain (OpenSpec.upto sourceLowSpec)) sourceLowUptoCard
end Rows
end Go.Proofs.YtnmbdjkbaihicaaDoor
