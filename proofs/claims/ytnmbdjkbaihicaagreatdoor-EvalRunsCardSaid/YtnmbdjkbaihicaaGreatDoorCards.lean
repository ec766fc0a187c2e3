/-
  DERIVED. GIVEN WITH THE SEED: THE CARDS: each row of YtnmbdjkbaihicaaGreatDoorRows.lean that lists a variable, with what it lists TIED to the program's text (the seventh form; the later family's looks); each row that meets fmt, with fmt's text TOLD by the authors' own Lean function (tested against real Go, not proved from fmt's source: count such statements apart). THE CARD IS WHAT COUNTS. Prove the row's statement (the work); the ties are given (YtnmbdjkbaihicaaGreatDoorTie.lean); close each card by the builder's one call (the guide's Derived/Test/ToyasCard.lean, 'card_holds'). Laid BY PROGRAM, IN A SANDBOX (cutbox-door.mjs). By AI agents, Wed Nov 11 2026. No macro, syntax, notation, axiom, sorry.
-/
import Derived.Test.YtnmbdjkbaihicaaGreatDoorRows
import GoSem.ClaimSeven
namespace Go.Proofs.YtnmbdjkbaihicaaGreatDoor
namespace Rows

/-- THE TIED CARD OF 'trefoillaw08.EvalSteps'. -/
def evalStepsCard : Claim7 := { stood := { row := evalStepsRow, standIns := [], harness := (true, "9d4c3a98efcc6f35452df6eff8f6fff9e7c70124e2ba0835c5e94d365ee12256"), looks := false }, kinds := [], alts := [], laidByText := true, laidKinds := [.data, .data], laidTests := true, laidLooks := .later }
def EvalStepsCardSaid : Prop := Claim7.holds Tryz.pinned (.plain (OpenSpec.ofChange evalStepsSpec)) evalStepsCard

/-- THE TIED CARD OF 'trefoillaw08.EvalRuns'. -/
def evalRunsCard : Claim7 := { stood := { row := evalRunsRow, standIns := [], harness := (true, "9d4c3a98efcc6f35452df6eff8f6fff9e7c70124e2ba0835c5e94d365ee12256"), looks := false }, kinds := [], alts := [], laidByText := true, laidKinds := [.data, .data], laidTests := true, laidLooks := .later }
def EvalRunsCardSaid : Prop := Claim7.holds Tryz.pinned (.plain (OpenSpec.ofChange evalRunsSpec)) evalRunsCard

/-- THE TIED CARD OF 'trefoillaw08.EvalReach'. -/
def evalReachCard : Claim7 := { stood := { row := evalReachRow, standIns := [], harness := (true, "9d4c3a98efcc6f35452df6eff8f6fff9e7c70124e2ba0835c5e94d365ee12256"), looks := false }, kinds := [], alts := [], laidByText := true, laidKinds := [.data, .data], laidTests := true, laidLooks := .later }
def EvalReachCardSaid : Prop := Claim7.holds Tryz.pinned (.plain (OpenSpec.ofChange evalReachSpec)) evalReachCard

/-- THE SECOND FORM's CARD OF 'trefoillaw08.EvalSteps'. -/
def evalStepsUptoCard : Claim7 := { stood := { row := evalStepsUptoRow, standIns := [], harness := (true, "9d4c3a98efcc6f35452df6eff8f6fff9e7c70124e2ba0835c5e94d365ee12256"), looks := false }, kinds := [], alts := [], laidByText := true, laidKinds := [.data, .data], laidTests := true, laidLooks := .later }
def EvalStepsUptoCardSaid : Prop := Claim7.holds Tryz.pinned (.plain (OpenSpec.upto evalStepsSpec)) evalStepsUptoCard

/-- THE SECOND FORM's CARD OF 'trefoillaw08.EvalRuns'. -/
def evalRunsUptoCard : Claim7 := { stood := { row := evalRunsUptoRow, standIns := [], harness := (true, "9d4c3a98efcc6f35452df6eff8f6fff9e7c70124e2ba0835c5e94d365ee12256"), looks := false }, kinds := [], alts := [], laidByText := true, laidKinds := [.data, .data], laidTests := true, laidLooks := .later }
def EvalRunsUptoCardSaid : Prop := Claim7.holds Tryz.pinned (.plain (OpenSpec.upto evalRunsSpec)) evalRunsUptoCard

/-- THE SECOND FORM's CARD OF 'trefoillaw08.EvalReach'. -/
def evalReachUptoCard : Claim7 := { stood := { row := evalReachUptoRow, standIns := [], harness := (true, "9d4c3a98efcc6f35452df6eff8f6fff9e7c70124e2ba0835c5e94d365ee12256"), looks := false }, kinds := [], alts := [], laidByText := true, laidKinds := [.data, .data], laidTests := true, laidLooks := .later }
def EvalReachUptoCardSaid : Prop := Claim7.holds Tryz.pinned (.plain (OpenSpec.upto evalReachSpec)) evalReachUptoCard
end Rows
end Go.Proofs.YtnmbdjkbaihicaaGreatDoor
