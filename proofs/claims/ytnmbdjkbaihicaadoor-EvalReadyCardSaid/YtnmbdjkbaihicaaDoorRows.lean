/-
  NARROWER THAN 'FOR EVERY INPUT', by the rows' own cells (each row's printed sentence says how): EvalOrder: laid · EvalReady: laid · EvalInputs: laid · SourceSteps: laid · SourceRuns: laid · SourceOrder: laid · SourceBarrier: laid · SourceMay: laid · SourceLow: laid.
  DERIVED. THE GIVEN ROWS OF THIS SEAT. 9 by the template 'for every input the law returns true; each argument reads behind the call as it read before'; 0 by the template 'total and deterministic' (their statements: YtnmbdjkbaihicaaDoorTotals.lean).
  GIVEN WITH THE SEED: the statements are not yours to turn. If you find one false, say at which input.
  Laid BY PROGRAM, IN A SANDBOX (cutbox-rows.mjs): the forced cells as the released guide's own fill.sh prints them over the translation 6aa529c8e0e36fe6… (all of the seat's roots in one cut). By AI agents, Wed Nov 11 2026. No macro, syntax, notation, axiom, sorry.
-/
import Derived.Test.YtnmbdjkbaihicaaDoorChecked
import GoSem.Claim
import GoSem.ClaimJoined
import GoSem.ClaimMapViews
import Derived.JoinedTies
import Derived.KernelRfl
namespace Go.Proofs.YtnmbdjkbaihicaaDoor
/- THE CELL 'sum', in the pinned program and in every row, IS THE sha256 OF THE DUMP (.gsa) THAT YtnmbdjkbaihicaaDoorProg.lean LOADS. Nothing in Lean hashes anything: it is a label: what it is worth is what the hold of that sum in a sandbox is worth. -/
noncomputable def Tryd.pinned : Pinned := { name := "ytnmbdjkbaihicaadoor", sum := "6aa529c8e0e36fe62ed55beaedbca6f78b680ce646f74ea34aebc18e0db7d387", checked := Tryd.checked }
namespace Rows
def none {H : Type} : Left H := { results := [], args := [] }

/- WHAT THE LISTED PACKAGE-LEVEL VARIABLES READ AS WHEN THE CALL BEGINS. Each datum BY PROGRAM (the guide's laid-datum.mjs) off the statement by which the dump's own 'gosem.cut.vars' lays the variable. In a bare row this is a premise. The card (YtnmbdjkbaihicaaDoorCards.lean) ties it to the program's text. -/
def laid_math_bits_deBruijn32tab {H : Type} : DataW H := .agg [.lit (.int .u8 0), .lit (.int .u8 1), .lit (.int .u8 28), .lit (.int .u8 2), .lit (.int .u8 29), .lit (.int .u8 14), .lit (.int .u8 24), .lit (.int .u8 3), .lit (.int .u8 30), .lit (.int .u8 22), .lit (.int .u8 20), .lit (.int .u8 15), .lit (.int .u8 25), .lit (.int .u8 17), .lit (.int .u8 4), .lit (.int .u8 8), .lit (.int .u8 31), .lit (.int .u8 27), .lit (.int .u8 13), .lit (.int .u8 23), .lit (.int .u8 21), .lit (.int .u8 19), .lit (.int .u8 16), .lit (.int .u8 7), .lit (.int .u8 26), .lit (.int .u8 12), .lit (.int .u8 18), .lit (.int .u8 6), .lit (.int .u8 11), .lit (.int .u8 5), .lit (.int .u8 10), .lit (.int .u8 9)]
def laid_math_bits_deBruijn64tab {H : Type} : DataW H := .agg [.lit (.int .u8 0), .lit (.int .u8 1), .lit (.int .u8 56), .lit (.int .u8 2), .lit (.int .u8 57), .lit (.int .u8 49), .lit (.int .u8 28), .lit (.int .u8 3), .lit (.int .u8 61), .lit (.int .u8 58), .lit (.int .u8 42), .lit (.int .u8 50), .lit (.int .u8 38), .lit (.int .u8 29), .lit (.int .u8 17), .lit (.int .u8 4), .lit (.int .u8 62), .lit (.int .u8 47), .lit (.int .u8 59), .lit (.int .u8 36), .lit (.int .u8 45), .lit (.int .u8 43), .lit (.int .u8 51), .lit (.int .u8 22), .lit (.int .u8 53), .lit (.int .u8 39), .lit (.int .u8 33), .lit (.int .u8 30), .lit (.int .u8 24), .lit (.int .u8 18), .lit (.int .u8 12), .lit (.int .u8 5), .lit (.int .u8 63), .lit (.int .u8 55), .lit (.int .u8 48), .lit (.int .u8 27), .lit (.int .u8 60), .lit (.int .u8 41), .lit (.int .u8 37), .lit (.int .u8 16), .lit (.int .u8 46), .lit (.int .u8 35), .lit (.int .u8 44), .lit (.int .u8 21), .lit (.int .u8 52), .lit (.int .u8 32), .lit (.int .u8 23), .lit (.int .u8 11), .lit (.int .u8 54), .lit (.int .u8 26), .lit (.int .u8 40), .lit (.int .u8 15), .lit (.int .u8 34), .lit (.int .u8 20), .lit (.int .u8 31), .lit (.int .u8 10), .lit (.int .u8 25), .lit (.int .u8 14), .lit (.int .u8 19), .lit (.int .u8 9), .lit (.int .u8 13), .lit (.int .u8 8), .lit (.int .u8 7), .lit (.int .u8 6)]

/-- 'trefoillaw08.EvalOrder': WHATEVER THE INPUT: true; the input reads as it did. -/
def evalOrderSpec : ChangeSpec := { name := "evalOrder", fn := fun _ => fun
  | [d1, d2, d3] => { results := [.lit (.bool true)], args := [d1, d2, d3] }
  | _ => none }
def evalOrderRow : OpenClaim := { program := "ytnmbdjkbaihicaadoor", sum := "6aa529c8e0e36fe62ed55beaedbca6f78b680ce646f74ea34aebc18e0db7d387", func := "trefoil/trefoillaw08.EvalOrder", spec := "evalOrder", unfollowed := true, recurses := true, named := ["math/bits.deBruijn32tab", "math/bits.deBruijn64tab"], plainKeys := false, apart := false, laid := [("math/bits.deBruijn32tab", laid_math_bits_deBruijn32tab), ("math/bits.deBruijn64tab", laid_math_bits_deBruijn64tab)] }
def EvalOrderSaid : Prop := evalOrderRow.holds Tryd.pinned (OpenSpec.ofChange evalOrderSpec)

/-- ITS FALSE NEIGHBOUR: 'it returns false'. Refute it at one input. -/
def evalOrderWrong : ChangeSpec := { name := "evalOrder", fn := fun _ => fun
  | [d1, d2, d3] => { results := [.lit (.bool false)], args := [d1, d2, d3] }
  | _ => none }
def EvalOrderWrongFalsely : Prop := evalOrderRow.holds Tryd.pinned (OpenSpec.ofChange evalOrderWrong)

/-- 'trefoillaw08.EvalReady': WHATEVER THE INPUT: true; the input reads as it did. -/
def evalReadySpec : ChangeSpec := { name := "evalReady", fn := fun _ => fun
  | [d1, d2, d3] => { results := [.lit (.bool true)], args := [d1, d2, d3] }
  | _ => none }
def evalReadyRow : OpenClaim := { program := "ytnmbdjkbaihicaadoor", sum := "6aa529c8e0e36fe62ed55beaedbca6f78b680ce646f74ea34aebc18e0db7d387", func := "trefoil/trefoillaw08.EvalReady", spec := "evalReady", unfollowed := true, recurses := true, named := ["math/bits.deBruijn32tab", "math/bits.deBruijn64tab"], plainKeys := false, apart := false, laid := [("math/bits.deBruijn32tab", laid_math_bits_deBruijn32tab), ("math/bits.deBruijn64tab", laid_math_bits_deBruijn64tab)] }
def EvalReadySaid : Prop := evalReadyRow.holds Tryd.pinned (OpenSpec.ofChange evalReadySpec)

/-- ITS FALSE NEIGHBOUR: 'it returns false'. Refute it at one input. -/
def evalReadyWrong : ChangeSpec := { name := "evalReady", fn := fun _ => fun
  | [d1, d2, d3] => { results := [.lit (.bool false)], args := [d1, d2, d3] }
  | _ => none }
def EvalReadyWrongFalsely : Prop := evalReadyRow.holds Tryd.pinned (OpenSpec.ofChange evalReadyWrong)

/-- 'trefoillaw08.EvalInputs': WHATEVER THE INPUT: true; the input reads as it did. -/
def evalInputsSpec : ChangeSpec := { name := "evalInputs", fn := fun _ => fun
  | [d1, d2, d3] => { results := [.lit (.bool true)], args := [d1, d2, d3] }
  | _ => none }
def evalInputsRow : OpenClaim := { program := "ytnmbdjkbaihicaadoor", sum := "6aa529c8e0e36fe62ed55beaedbca6f78b680ce646f74ea34aebc18e0db7d387", func := "trefoil/trefoillaw08.EvalInputs", spec := "evalInputs", unfollowed := true, recurses := true, named := ["math/bits.deBruijn32tab", "math/bits.deBruijn64tab"], plainKeys := false, apart := false, laid := [("math/bits.deBruijn32tab", laid_math_bits_deBruijn32tab), ("math/bits.deBruijn64tab", laid_math_bits_deBruijn64tab)] }
def EvalInputsSaid : Prop := evalInputsRow.holds Tryd.pinned (OpenSpec.ofChange evalInputsSpec)

/-- ITS FALSE NEIGHBOUR: 'it returns false'. Refute it at one input. -/
def evalInputsWrong : ChangeSpec := { name := "evalInputs", fn := fun _ => fun
  | [d1, d2, d3] => { results := [.lit (.bool false)], args := [d1, d2, d3] }
  | _ => none }
def EvalInputsWrongFalsely : Prop := evalInputsRow.holds Tryd.pinned (OpenSpec.ofChange evalInputsWrong)

/-- 'trefoillaw09.SourceSteps': WHATEVER THE INPUT: true; the input reads as it did. -/
def sourceStepsSpec : ChangeSpec := { name := "sourceSteps", fn := fun _ => fun
  | [d1, d2, d3, d4, d5] => { results := [.lit (.bool true)], args := [d1, d2, d3, d4, d5] }
  | _ => none }
def sourceStepsRow : OpenClaim := { program := "ytnmbdjkbaihicaadoor", sum := "6aa529c8e0e36fe62ed55beaedbca6f78b680ce646f74ea34aebc18e0db7d387", func := "trefoil/trefoillaw09.SourceSteps", spec := "sourceSteps", unfollowed := true, recurses := true, named := ["math/bits.deBruijn32tab", "math/bits.deBruijn64tab"], plainKeys := false, apart := false, laid := [("math/bits.deBruijn32tab", laid_math_bits_deBruijn32tab), ("math/bits.deBruijn64tab", laid_math_bits_deBruijn64tab)] }
def SourceStepsSaid : Prop := sourceStepsRow.holds Tryd.pinned (OpenSpec.ofChange sourceStepsSpec)

/-- ITS FALSE NEIGHBOUR: 'it returns false'. Refute it at one input. -/
def sourceStepsWrong : ChangeSpec := { name := "sourceSteps", fn := fun _ => fun
  | [d1, d2, d3, d4, d5] => { results := [.lit (.bool false)], args := [d1, d2, d3, d4, d5] }
  | _ => none }
def SourceStepsWrongFalsely : Prop := sourceStepsRow.holds Tryd.pinned (OpenSpec.ofChange sourceStepsWrong)

/-- 'trefoillaw09.SourceRuns': WHATEVER THE INPUT: true; the input reads as it did. -/
def sourceRunsSpec : ChangeSpec := { name := "sourceRuns", fn := fun _ => fun
  | [d1, d2] => { results := [.lit (.bool true)], args := [d1, d2] }
  | _ => none }
def sourceRunsRow : OpenClaim := { program := "ytnmbdjkbaihicaadoor", sum := "6aa529c8e0e36fe62ed55beaedbca6f78b680ce646f74ea34aebc18e0db7d387", func := "trefoil/trefoillaw09.SourceRuns", spec := "sourceRuns", unfollowed := true, recurses := true, named := ["math/bits.deBruijn32tab", "math/bits.deBruijn64tab"], plainKeys := false, apart := false, laid := [("math/bits.deBruijn32tab", laid_math_bits_deBruijn32tab), ("math/bits.deBruijn64tab", laid_math_bits_deBruijn64tab)] }
def SourceRunsSaid : Prop := sourceRunsRow.holds Tryd.pinned (OpenSpec.ofChange sourceRunsSpec)

/-- ITS FALSE NEIGHBOUR: 'it returns false'. Refute it at one input. -/
def sourceRunsWrong : ChangeSpec := { name := "sourceRuns", fn := fun _ => fun
  | [d1, d2] => { results := [.lit (.bool false)], args := [d1, d2] }
  | _ => none }
def SourceRunsWrongFalsely : Prop := sourceRunsRow.holds Tryd.pinned (OpenSpec.ofChange sourceRunsWrong)

/-- 'trefoillaw09.SourceOrder': WHATEVER THE INPUT: true; the input reads as it did. -/
def sourceOrderSpec : ChangeSpec := { name := "sourceOrder", fn := fun _ => fun
  | [d1, d2, d3] => { results := [.lit (.bool true)], args := [d1, d2, d3] }
  | _ => none }
def sourceOrderRow : OpenClaim := { program := "ytnmbdjkbaihicaadoor", sum := "6aa529c8e0e36fe62ed55beaedbca6f78b680ce646f74ea34aebc18e0db7d387", func := "trefoil/trefoillaw09.SourceOrder", spec := "sourceOrder", unfollowed := true, recurses := true, named := ["math/bits.deBruijn32tab", "math/bits.deBruijn64tab"], plainKeys := false, apart := false, laid := [("math/bits.deBruijn32tab", laid_math_bits_deBruijn32tab), ("math/bits.deBruijn64tab", laid_math_bits_deBruijn64tab)] }
def SourceOrderSaid : Prop := sourceOrderRow.holds Tryd.pinned (OpenSpec.ofChange sourceOrderSpec)

/-- ITS FALSE NEIGHBOUR: 'it returns false'. Refute it at one input. -/
def sourceOrderWrong : ChangeSpec := { name := "sourceOrder", fn := fun _ => fun
  | [d1, d2, d3] => { results := [.lit (.bool false)], args := [d1, d2, d3] }
  | _ => none }
def SourceOrderWrongFalsely : Prop := sourceOrderRow.holds Tryd.pinned (OpenSpec.ofChange sourceOrderWrong)

/-- 'trefoillaw09.SourceBarrier': WHATEVER THE INPUT: true; the input reads as it did. -/
def sourceBarrierSpec : ChangeSpec := { name := "sourceBarrier", fn := fun _ => fun
  | [d1, d2, d3, d4] => { results := [.lit (.bool true)], args := [d1, d2, d3, d4] }
  | _ => none }
def sourceBarrierRow : OpenClaim := { program := "ytnmbdjkbaihicaadoor", sum := "6aa529c8e0e36fe62ed55beaedbca6f78b680ce646f74ea34aebc18e0db7d387", func := "trefoil/trefoillaw09.SourceBarrier", spec := "sourceBarrier", unfollowed := true, recurses := true, named := ["math/bits.deBruijn32tab", "math/bits.deBruijn64tab"], plainKeys := false, apart := false, laid := [("math/bits.deBruijn32tab", laid_math_bits_deBruijn32tab), ("math/bits.deBruijn64tab", laid_math_bits_deBruijn64tab)] }
def SourceBarrierSaid : Prop := sourceBarrierRow.holds Tryd.pinned (OpenSpec.ofChange sourceBarrierSpec)

/-- ITS FALSE NEIGHBOUR: 'it returns false'. Refute it at one input. -/
def sourceBarrierWrong : ChangeSpec := { name := "sourceBarrier", fn := fun _ => fun
  | [d1, d2, d3, d4] => { results := [.lit (.bool false)], args := [d1, d2, d3, d4] }
  | _ => none }
def SourceBarrierWrongFalsely : Prop := sourceBarrierRow.holds Tryd.pinned (OpenSpec.ofChange sourceBarrierWrong)

/-- 'trefoillaw09.SourceMay': WHATEVER THE INPUT: true; the input reads as it did. -/
def sourceMaySpec : ChangeSpec := { name := "sourceMay", fn := fun _ => fun
  | [d1, d2, d3] => { results := [.lit (.bool true)], args := [d1, d2, d3] }
  | _ => none }
def sourceMayRow : OpenClaim := { program := "ytnmbdjkbaihicaadoor", sum := "6aa529c8e0e36fe62ed55beaedbca6f78b680ce646f74ea34aebc18e0db7d387", func := "trefoil/trefoillaw09.SourceMay", spec := "sourceMay", unfollowed := true, recurses := true, named := ["math/bits.deBruijn32tab", "math/bits.deBruijn64tab"], plainKeys := false, apart := false, laid := [("math/bits.deBruijn32tab", laid_math_bits_deBruijn32tab), ("math/bits.deBruijn64tab", laid_math_bits_deBruijn64tab)] }
def SourceMaySaid : Prop := sourceMayRow.holds Tryd.pinned (OpenSpec.ofChange sourceMaySpec)

/-- ITS FALSE NEIGHBOUR: 'it returns false'. Refute it at one input. -/
def sourceMayWrong : ChangeSpec := { name := "sourceMay", fn := fun _ => fun
  | [d1, d2, d3] => { results := [.lit (.bool false)], args := [d1, d2, d3] }
  | _ => none }
def SourceMayWrongFalsely : Prop := sourceMayRow.holds Tryd.pinned (OpenSpec.ofChange sourceMayWrong)

/-- 'trefoillaw09.SourceLow': WHATEVER THE INPUT: true; the input reads as it did. -/
def sourceLowSpec : ChangeSpec := { name := "sourceLow", fn := fun _ => fun
  | [d1, d2] => { results := [.lit (.bool true)], args := [d1, d2] }
  | _ => none }
def sourceLowRow : OpenClaim := { program := "ytnmbdjkbaihicaadoor", sum := "6aa529c8e0e36fe62ed55beaedbca6f78b680ce646f74ea34aebc18e0db7d387", func := "trefoil/trefoillaw09.SourceLow", spec := "sourceLow", unfollowed := true, recurses := true, named := ["math/bits.deBruijn32tab", "math/bits.deBruijn64tab"], plainKeys := false, apart := false, laid := [("math/bits.deBruijn32tab", laid_math_bits_deBruijn32tab), ("math/bits.deBruijn64tab", laid_math_bits_deBruijn64tab)] }
def SourceLowSaid : Prop := sourceLowRow.holds Tryd.pinned (OpenSpec.ofChange sourceLowSpec)

/-- ITS FALSE NEIGHBOUR: 'it returns false'. Refute it at one input. -/
def sourceLowWrong : ChangeSpec := { name := "sourceLow", fn := fun _ => fun
  | [d1, d2] => { results := [.lit (.bool false)], args := [d1, d2] }
  | _ => none }
def SourceLowWrongFalsely : Prop := sourceLowRow.holds Tryd.pinned (OpenSpec.ofChange sourceLowWrong)

/- THE SECOND FORM. 'bulk': how many values and letters a reading holds, each counted each time it is reached (what is shared counts as often as it is met; a slice's spare places count too). A statement '..UptoSaid' is the law's where the arguments, and the package variables that the reading takes, are together of bulk at most 1048576: NARROWER than '..Said'. Prove '..Said' where nothing that the law and all that it calls make is longer than what came in: it says more and counts as full. Else prove '..UptoSaid'. A law counts once. -/
mutual
def uptoBulk {H : Type} : DataW H → Nat
  | .lit (.string bytes) => bytes.length + 1
  | .lit _ => 1
  | .nil => 1
  | .ptr d => uptoBulk d + 1
  | .slice elems spare => uptoBulkAll elems + uptoBulkAll spare + 1
  | .agg parts => uptoBulkAll parts + 1
  | .iface _ d => uptoBulk d + 1
  | .map entries => uptoBulkEntries entries + 1
  | .held _ => 1
def uptoBulkAll {H : Type} : List (DataW H) → Nat
  | [] => 0
  | d :: r => uptoBulk d + uptoBulkAll r
def uptoBulkEntries {H : Type} : List (Lit × DataW H) → Nat
  | [] => 0
  | x :: r => uptoBulkEntry x + uptoBulkEntries r
def uptoBulkEntry {H : Type} : Lit × DataW H → Nat
  | (.string bytes, d) => bytes.length + uptoBulk d + 1
  | (_, d) => uptoBulk d + 1
 end
def uptoSmall : (H : Type) → List (DataW H) → Bool := fun _ ds => decide (uptoBulkAll ds ≤ 1048576)
def OpenSpec.upto (s : _root_.Go.ChangeSpec) : _root_.Go.OpenSpec := { _root_.Go.OpenSpec.ofChange s with cond := some uptoSmall }

/-- 'trefoillaw08.EvalOrder', WHERE WHAT IT READS IS OF BULK AT MOST 1048576: true; the input reads as it did. -/
def evalOrderUptoRow : OpenClaim := { program := "ytnmbdjkbaihicaadoor", sum := "6aa529c8e0e36fe62ed55beaedbca6f78b680ce646f74ea34aebc18e0db7d387", func := "trefoil/trefoillaw08.EvalOrder", spec := "evalOrder", unfollowed := true, recurses := true, named := ["math/bits.deBruijn32tab", "math/bits.deBruijn64tab"], plainKeys := false, apart := false, laid := [("math/bits.deBruijn32tab", laid_math_bits_deBruijn32tab), ("math/bits.deBruijn64tab", laid_math_bits_deBruijn64tab)], narrowed := true }
def EvalOrderUptoSaid : Prop := evalOrderUptoRow.holds Tryd.pinned (OpenSpec.upto evalOrderSpec)

/-- 'trefoillaw08.EvalReady', WHERE WHAT IT READS IS OF BULK AT MOST 1048576: true; the input reads as it did. -/
def evalReadyUptoRow : OpenClaim := { program := "ytnmbdjkbaihicaadoor", sum := "6aa529c8e0e36fe62ed55beaedbca6f78b680ce646f74ea34aebc18e0db7d387", func := "trefoil/trefoillaw08.EvalReady", spec := "evalReady", unfollowed := true, recurses := true, named := ["math/bits.deBruijn32tab", "math/bits.deBruijn64tab"], plainKeys := false, apart := false, laid := [("math/bits.deBruijn32tab", laid_math_bits_deBruijn32tab), ("math/bits.deBruijn64tab", laid_math_bits_deBruijn64tab)], narrowed := true }
def EvalReadyUptoSaid : Prop := evalReadyUptoRow.holds Tryd.pinned (OpenSpec.upto evalReadySpec)

/-- 'trefoillaw08.EvalInputs', WHERE WHAT IT READS IS OF BULK AT MOST 1048576: true; the input reads as it did. -/
def evalInputsUptoRow : OpenClaim := { program := "ytnmbdjkbaihicaadoor", sum := "6aa529c8e0e36fe62ed55beaedbca6f78b680ce646f74ea34aebc18e0db7d387", func := "trefoil/trefoillaw08.EvalInputs", spec := "evalInputs", unfollowed := true, recurses := true, named := ["math/bits.deBruijn32tab", "math/bits.deBruijn64tab"], plainKeys := false, apart := false, laid := [("math/bits.deBruijn32tab", laid_math_bits_deBruijn32tab), ("math/bits.deBruijn64tab", laid_math_bits_deBruijn64tab)], narrowed := true }
def EvalInputsUptoSaid : Prop := evalInputsUptoRow.holds Tryd.pinned (OpenSpec.upto evalInputsSpec)

/-- 'trefoillaw09.SourceSteps', WHERE WHAT IT READS IS OF BULK AT MOST 1048576: true; the input reads as it did. -/
def sourceStepsUptoRow : OpenClaim := { program := "ytnmbdjkbaihicaadoor", sum := "6aa529c8e0e36fe62ed55beaedbca6f78b680ce646f74ea34aebc18e0db7d387", func := "trefoil/trefoillaw09.SourceSteps", spec := "sourceSteps", unfollowed := true, recurses := true, named := ["math/bits.deBruijn32tab", "math/bits.deBruijn64tab"], plainKeys := false, apart := false, laid := [("math/bits.deBruijn32tab", laid_math_bits_deBruijn32tab), ("math/bits.deBruijn64tab", laid_math_bits_deBruijn64tab)], narrowed := true }
def SourceStepsUptoSaid : Prop := sourceStepsUptoRow.holds Tryd.pinned (OpenSpec.upto sourceStepsSpec)

/-- 'trefoillaw09.SourceRuns', WHERE WHAT IT READS IS OF BULK AT MOST 1048576: true; the input reads as it did. -/
def sourceRunsUptoRow : OpenClaim := { program := "ytnmbdjkbaihicaadoor", sum := "6aa529c8e0e36fe62ed55beaedbca6f78b680ce646f74ea34aebc18e0db7d387", func := "trefoil/trefoillaw09.SourceRuns", spec := "sourceRuns", unfollowed := true, recurses := true, named := ["math/bits.deBruijn32tab", "math/bits.deBruijn64tab"], plainKeys := false, apart := false, laid := [("math/bits.deBruijn32tab", laid_math_bits_deBruijn32tab), ("math/bits.deBruijn64tab", laid_math_bits_deBruijn64tab)], narrowed := true }
def SourceRunsUptoSaid : Prop := sourceRunsUptoRow.holds Tryd.pinned (OpenSpec.upto sourceRunsSpec)

/-- 'trefoillaw09.SourceOrder', WHERE WHAT IT READS IS OF BULK AT MOST 1048576: true; the input reads as it did. -/
def sourceOrderUptoRow : OpenClaim := { program := "ytnmbdjkbaihicaadoor", sum := "6aa529c8e0e36fe62ed55beaedbca6f78b680ce646f74ea34aebc18e0db7d387", func := "trefoil/trefoillaw09.SourceOrder", spec := "sourceOrder", unfollowed := true, recurses := true, named := ["math/bits.deBruijn32tab", "math/bits.deBruijn64tab"], plainKeys := false, apart := false, laid := [("math/bits.deBruijn32tab", laid_math_bits_deBruijn32tab), ("math/bits.deBruijn64tab", laid_math_bits_deBruijn64tab)], narrowed := true }
def SourceOrderUptoSaid : Prop := sourceOrderUptoRow.holds Tryd.pinned (OpenSpec.upto sourceOrderSpec)

/-- 'trefoillaw09.SourceBarrier', WHERE WHAT IT READS IS OF BULK AT MOST 1048576: true; the input reads as it did. -/
def sourceBarrierUptoRow : OpenClaim := { program := "ytnmbdjkbaihicaadoor", sum := "6aa529c8e0e36fe62ed55beaedbca6f78b680ce646f74ea34aebc18e0db7d387", func := "trefoil/trefoillaw09.SourceBarrier", spec := "sourceBarrier", unfollowed := true, recurses := true, named := ["math/bits.deBruijn32tab", "math/bits.deBruijn64tab"], plainKeys := false, apart := false, laid := [("math/bits.deBruijn32tab", laid_math_bits_deBruijn32tab), ("math/bits.deBruijn64tab", laid_math_bits_deBruijn64tab)], narrowed := true }
def SourceBarrierUptoSaid : Prop := sourceBarrierUptoRow.holds Tryd.pinned (OpenSpec.upto sourceBarrierSpec)

/-- 'trefoillaw09.SourceMay', WHERE WHAT IT READS IS OF BULK AT MOST 1048576: true; the input reads as it did. -/
def sourceMayUptoRow : OpenClaim := { program := "ytnmbdjkbaihicaadoor", sum := "6aa529c8e0e36fe62ed55beaedbca6f78b680ce646f74ea34aebc18e0db7d387", func := "trefoil/trefoillaw09.SourceMay", spec := "sourceMay", unfollowed := true, recurses := true, named := ["math/bits.deBruijn32tab", "math/bits.deBruijn64tab"], plainKeys := false, apart := false, laid := [("math/bits.deBruijn32tab", laid_math_bits_deBruijn32tab), ("math/bits.deBruijn64tab", laid_math_bits_deBruijn64tab)], narrowed := true }
def SourceMayUptoSaid : Prop := sourceMayUptoRow.holds Tryd.pinned (OpenSpec.upto sourceMaySpec)

/-- 'trefoillaw09.SourceLow', WHERE WHAT IT READS IS OF BULK AT MOST 1048576: true; the input reads as it did. -/
def sourceLowUptoRow : OpenClaim := { program := "ytnmbdjkbaihicaadoor", sum := "6aa529c8e0e36fe62ed55beaedbca6f78b680ce646f74ea34aebc18e0db7d387", func := "trefoil/trefoillaw09.SourceLow", spec := "sourceLow", unfollowed := true, recurses := true, named := ["math/bits.deBruijn32tab", "math/bits.deBruijn64tab"], plainKeys := false, apart := false, laid := [("math/bits.deBruijn32tab", laid_math_bits_deBruijn32tab), ("math/bits.deBruijn64tab", laid_math_bits_deBruijn64tab)], narrowed := true }
def SourceLowUptoSaid : Prop := sourceLowUptoRow.holds Tryd.pinned (OpenSpec.upto sourceLowSpec)

end Rows
end Go.Proofs.YtnmbdjkbaihicaaDoor
