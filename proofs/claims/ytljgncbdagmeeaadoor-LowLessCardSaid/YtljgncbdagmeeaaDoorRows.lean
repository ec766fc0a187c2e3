/-
  NARROWER THAN 'FOR EVERY INPUT', by the rows' own cells (each row's printed sentence says how): LowTells: laid · LowPlaces: laid · LowWork: laid · LowTouch: laid · LowBarrier: laid · LowRound: laid · LowLess: laid · ClassTells: laid · ClassLeast: laid · ClassMore: laid · EvalOps: laid.
  DERIVED. THE GIVEN ROWS OF THIS SEAT. 11 by the template 'for every input the law returns true; each argument reads behind the call as it read before'; 0 by the template 'total and deterministic' (their statements: YtljgncbdagmeeaaDoorTotals.lean).
  GIVEN WITH THE SEED: the statements are not yours to turn. If you find one false, say at which input.
  Laid BY PROGRAM, IN A SANDBOX (cutbox-rows.mjs): the forced cells as the released guide's own fill.sh prints them over the translation ff5ae6244ae7c088… (all of the seat's roots in one cut). By AI agents, Wed Nov 11 2026. No macro, syntax, notation, axiom, sorry.
-/
import Derived.Test.YtljgncbdagmeeaaDoorChecked
import GoSem.Claim
import GoSem.ClaimJoined
import GoSem.ClaimMapViews
import Derived.JoinedTies
import Derived.KernelRfl
namespace Go.Proofs.YtljgncbdagmeeaaDoor
/- THE CELL 'sum', in the pinned program and in every row, IS THE sha256 OF THE DUMP (.gsa) THAT YtljgncbdagmeeaaDoorProg.lean LOADS. Nothing in Lean hashes anything: it is a label: what it is worth is what the hold of that sum in a sandbox is worth. -/
noncomputable def Tryd.pinned : Pinned := { name := "ytljgncbdagmeeaadoor", sum := "ff5ae6244ae7c08886cb05be78e81177fd31ae77fa68ad2d0a940160a68a0cff", checked := Tryd.checked }
namespace Rows
def none {H : Type} : Left H := { results := [], args := [] }

/- WHAT THE LISTED PACKAGE-LEVEL VARIABLES READ AS WHEN THE CALL BEGINS. Each datum BY PROGRAM (the guide's laid-datum.mjs) off the statement by which the dump's own 'gosem.cut.vars' lays the variable. In a bare row this is a premise. The card (YtljgncbdagmeeaaDoorCards.lean) ties it to the program's text. -/
def laid_math_bits_deBruijn32tab {H : Type} : DataW H := .agg [.lit (.int .u8 0), .lit (.int .u8 1), .lit (.int .u8 28), .lit (.int .u8 2), .lit (.int .u8 29), .lit (.int .u8 14), .lit (.int .u8 24), .lit (.int .u8 3), .lit (.int .u8 30), .lit (.int .u8 22), .lit (.int .u8 20), .lit (.int .u8 15), .lit (.int .u8 25), .lit (.int .u8 17), .lit (.int .u8 4), .lit (.int .u8 8), .lit (.int .u8 31), .lit (.int .u8 27), .lit (.int .u8 13), .lit (.int .u8 23), .lit (.int .u8 21), .lit (.int .u8 19), .lit (.int .u8 16), .lit (.int .u8 7), .lit (.int .u8 26), .lit (.int .u8 12), .lit (.int .u8 18), .lit (.int .u8 6), .lit (.int .u8 11), .lit (.int .u8 5), .lit (.int .u8 10), .lit (.int .u8 9)]
def laid_math_bits_deBruijn64tab {H : Type} : DataW H := .agg [.lit (.int .u8 0), .lit (.int .u8 1), .lit (.int .u8 56), .lit (.int .u8 2), .lit (.int .u8 57), .lit (.int .u8 49), .lit (.int .u8 28), .lit (.int .u8 3), .lit (.int .u8 61), .lit (.int .u8 58), .lit (.int .u8 42), .lit (.int .u8 50), .lit (.int .u8 38), .lit (.int .u8 29), .lit (.int .u8 17), .lit (.int .u8 4), .lit (.int .u8 62), .lit (.int .u8 47), .lit (.int .u8 59), .lit (.int .u8 36), .lit (.int .u8 45), .lit (.int .u8 43), .lit (.int .u8 51), .lit (.int .u8 22), .lit (.int .u8 53), .lit (.int .u8 39), .lit (.int .u8 33), .lit (.int .u8 30), .lit (.int .u8 24), .lit (.int .u8 18), .lit (.int .u8 12), .lit (.int .u8 5), .lit (.int .u8 63), .lit (.int .u8 55), .lit (.int .u8 48), .lit (.int .u8 27), .lit (.int .u8 60), .lit (.int .u8 41), .lit (.int .u8 37), .lit (.int .u8 16), .lit (.int .u8 46), .lit (.int .u8 35), .lit (.int .u8 44), .lit (.int .u8 21), .lit (.int .u8 52), .lit (.int .u8 32), .lit (.int .u8 23), .lit (.int .u8 11), .lit (.int .u8 54), .lit (.int .u8 26), .lit (.int .u8 40), .lit (.int .u8 15), .lit (.int .u8 34), .lit (.int .u8 20), .lit (.int .u8 31), .lit (.int .u8 10), .lit (.int .u8 25), .lit (.int .u8 14), .lit (.int .u8 19), .lit (.int .u8 9), .lit (.int .u8 13), .lit (.int .u8 8), .lit (.int .u8 7), .lit (.int .u8 6)]

/-- 'trefoillaw07.LowTells': WHATEVER THE INPUT: true; the input reads as it did. -/
def lowTellsSpec : ChangeSpec := { name := "lowTells", fn := fun _ => fun
  | [d] => { results := [.lit (.bool true)], args := [d] }
  | _ => none }
def lowTellsRow : OpenClaim := { program := "ytljgncbdagmeeaadoor", sum := "ff5ae6244ae7c08886cb05be78e81177fd31ae77fa68ad2d0a940160a68a0cff", func := "trefoil/trefoillaw07.LowTells", spec := "lowTells", unfollowed := true, recurses := true, named := ["math/bits.deBruijn32tab", "math/bits.deBruijn64tab"], plainKeys := false, apart := false, laid := [("math/bits.deBruijn32tab", laid_math_bits_deBruijn32tab), ("math/bits.deBruijn64tab", laid_math_bits_deBruijn64tab)] }
def LowTellsSaid : Prop := lowTellsRow.holds Tryd.pinned (OpenSpec.ofChange lowTellsSpec)

/-- ITS FALSE NEIGHBOUR: 'it returns false'. Refute it at one input. -/
def lowTellsWrong : ChangeSpec := { name := "lowTells", fn := fun _ => fun
  | [d] => { results := [.lit (.bool false)], args := [d] }
  | _ => none }
def LowTellsWrongFalsely : Prop := lowTellsRow.holds Tryd.pinned (OpenSpec.ofChange lowTellsWrong)

/-- 'trefoillaw07.LowPlaces': WHATEVER THE INPUT: true; the input reads as it did. -/
def lowPlacesSpec : ChangeSpec := { name := "lowPlaces", fn := fun _ => fun
  | [d1, d2, d3, d4] => { results := [.lit (.bool true)], args := [d1, d2, d3, d4] }
  | _ => none }
def lowPlacesRow : OpenClaim := { program := "ytljgncbdagmeeaadoor", sum := "ff5ae6244ae7c08886cb05be78e81177fd31ae77fa68ad2d0a940160a68a0cff", func := "trefoil/trefoillaw07.LowPlaces", spec := "lowPlaces", unfollowed := true, recurses := true, named := ["math/bits.deBruijn32tab", "math/bits.deBruijn64tab"], plainKeys := false, apart := false, laid := [("math/bits.deBruijn32tab", laid_math_bits_deBruijn32tab), ("math/bits.deBruijn64tab", laid_math_bits_deBruijn64tab)] }
def LowPlacesSaid : Prop := lowPlacesRow.holds Tryd.pinned (OpenSpec.ofChange lowPlacesSpec)

/-- ITS FALSE NEIGHBOUR: 'it returns false'. Refute it at one input. -/
def lowPlacesWrong : ChangeSpec := { name := "lowPlaces", fn := fun _ => fun
  | [d1, d2, d3, d4] => { results := [.lit (.bool false)], args := [d1, d2, d3, d4] }
  | _ => none }
def LowPlacesWrongFalsely : Prop := lowPlacesRow.holds Tryd.pinned (OpenSpec.ofChange lowPlacesWrong)

/-- 'trefoillaw07.LowWork': WHATEVER THE INPUT: true; the input reads as it did. -/
def lowWorkSpec : ChangeSpec := { name := "lowWork", fn := fun _ => fun
  | [d] => { results := [.lit (.bool true)], args := [d] }
  | _ => none }
def lowWorkRow : OpenClaim := { program := "ytljgncbdagmeeaadoor", sum := "ff5ae6244ae7c08886cb05be78e81177fd31ae77fa68ad2d0a940160a68a0cff", func := "trefoil/trefoillaw07.LowWork", spec := "lowWork", unfollowed := true, recurses := true, named := ["math/bits.deBruijn32tab", "math/bits.deBruijn64tab"], plainKeys := false, apart := false, laid := [("math/bits.deBruijn32tab", laid_math_bits_deBruijn32tab), ("math/bits.deBruijn64tab", laid_math_bits_deBruijn64tab)] }
def LowWorkSaid : Prop := lowWorkRow.holds Tryd.pinned (OpenSpec.ofChange lowWorkSpec)

/-- ITS FALSE NEIGHBOUR: 'it returns false'. Refute it at one input. -/
def lowWorkWrong : ChangeSpec := { name := "lowWork", fn := fun _ => fun
  | [d] => { results := [.lit (.bool false)], args := [d] }
  | _ => none }
def LowWorkWrongFalsely : Prop := lowWorkRow.holds Tryd.pinned (OpenSpec.ofChange lowWorkWrong)

/-- 'trefoillaw07.LowTouch': WHATEVER THE INPUT: true; the input reads as it did. -/
def lowTouchSpec : ChangeSpec := { name := "lowTouch", fn := fun _ => fun
  | [d1, d2] => { results := [.lit (.bool true)], args := [d1, d2] }
  | _ => none }
def lowTouchRow : OpenClaim := { program := "ytljgncbdagmeeaadoor", sum := "ff5ae6244ae7c08886cb05be78e81177fd31ae77fa68ad2d0a940160a68a0cff", func := "trefoil/trefoillaw07.LowTouch", spec := "lowTouch", unfollowed := true, recurses := true, named := ["math/bits.deBruijn32tab", "math/bits.deBruijn64tab"], plainKeys := false, apart := false, laid := [("math/bits.deBruijn32tab", laid_math_bits_deBruijn32tab), ("math/bits.deBruijn64tab", laid_math_bits_deBruijn64tab)] }
def LowTouchSaid : Prop := lowTouchRow.holds Tryd.pinned (OpenSpec.ofChange lowTouchSpec)

/-- ITS FALSE NEIGHBOUR: 'it returns false'. Refute it at one input. -/
def lowTouchWrong : ChangeSpec := { name := "lowTouch", fn := fun _ => fun
  | [d1, d2] => { results := [.lit (.bool false)], args := [d1, d2] }
  | _ => none }
def LowTouchWrongFalsely : Prop := lowTouchRow.holds Tryd.pinned (OpenSpec.ofChange lowTouchWrong)

/-- 'trefoillaw07.LowBarrier': WHATEVER THE INPUT: true; the input reads as it did. -/
def lowBarrierSpec : ChangeSpec := { name := "lowBarrier", fn := fun _ => fun
  | [d] => { results := [.lit (.bool true)], args := [d] }
  | _ => none }
def lowBarrierRow : OpenClaim := { program := "ytljgncbdagmeeaadoor", sum := "ff5ae6244ae7c08886cb05be78e81177fd31ae77fa68ad2d0a940160a68a0cff", func := "trefoil/trefoillaw07.LowBarrier", spec := "lowBarrier", unfollowed := true, recurses := true, named := ["math/bits.deBruijn32tab", "math/bits.deBruijn64tab"], plainKeys := false, apart := false, laid := [("math/bits.deBruijn32tab", laid_math_bits_deBruijn32tab), ("math/bits.deBruijn64tab", laid_math_bits_deBruijn64tab)] }
def LowBarrierSaid : Prop := lowBarrierRow.holds Tryd.pinned (OpenSpec.ofChange lowBarrierSpec)

/-- ITS FALSE NEIGHBOUR: 'it returns false'. Refute it at one input. -/
def lowBarrierWrong : ChangeSpec := { name := "lowBarrier", fn := fun _ => fun
  | [d] => { results := [.lit (.bool false)], args := [d] }
  | _ => none }
def LowBarrierWrongFalsely : Prop := lowBarrierRow.holds Tryd.pinned (OpenSpec.ofChange lowBarrierWrong)

/-- 'trefoillaw07.LowRound': WHATEVER THE INPUT: true; the input reads as it did. -/
def lowRoundSpec : ChangeSpec := { name := "lowRound", fn := fun _ => fun
  | [d1, d2, d3] => { results := [.lit (.bool true)], args := [d1, d2, d3] }
  | _ => none }
def lowRoundRow : OpenClaim := { program := "ytljgncbdagmeeaadoor", sum := "ff5ae6244ae7c08886cb05be78e81177fd31ae77fa68ad2d0a940160a68a0cff", func := "trefoil/trefoillaw07.LowRound", spec := "lowRound", unfollowed := true, recurses := true, named := ["math/bits.deBruijn32tab", "math/bits.deBruijn64tab"], plainKeys := false, apart := false, laid := [("math/bits.deBruijn32tab", laid_math_bits_deBruijn32tab), ("math/bits.deBruijn64tab", laid_math_bits_deBruijn64tab)] }
def LowRoundSaid : Prop := lowRoundRow.holds Tryd.pinned (OpenSpec.ofChange lowRoundSpec)

/-- ITS FALSE NEIGHBOUR: 'it returns false'. Refute it at one input. -/
def lowRoundWrong : ChangeSpec := { name := "lowRound", fn := fun _ => fun
  | [d1, d2, d3] => { results := [.lit (.bool false)], args := [d1, d2, d3] }
  | _ => none }
def LowRoundWrongFalsely : Prop := lowRoundRow.holds Tryd.pinned (OpenSpec.ofChange lowRoundWrong)

/-- 'trefoillaw07.LowLess': WHATEVER THE INPUT: true; the input reads as it did. -/
def lowLessSpec : ChangeSpec := { name := "lowLess", fn := fun _ => fun
  | [d] => { results := [.lit (.bool true)], args := [d] }
  | _ => none }
def lowLessRow : OpenClaim := { program := "ytljgncbdagmeeaadoor", sum := "ff5ae6244ae7c08886cb05be78e81177fd31ae77fa68ad2d0a940160a68a0cff", func := "trefoil/trefoillaw07.LowLess", spec := "lowLess", unfollowed := true, recurses := true, named := ["math/bits.deBruijn32tab", "math/bits.deBruijn64tab"], plainKeys := false, apart := false, laid := [("math/bits.deBruijn32tab", laid_math_bits_deBruijn32tab), ("math/bits.deBruijn64tab", laid_math_bits_deBruijn64tab)] }
def LowLessSaid : Prop := lowLessRow.holds Tryd.pinned (OpenSpec.ofChange lowLessSpec)

/-- ITS FALSE NEIGHBOUR: 'it returns false'. Refute it at one input. -/
def lowLessWrong : ChangeSpec := { name := "lowLess", fn := fun _ => fun
  | [d] => { results := [.lit (.bool false)], args := [d] }
  | _ => none }
def LowLessWrongFalsely : Prop := lowLessRow.holds Tryd.pinned (OpenSpec.ofChange lowLessWrong)

/-- 'trefoillaw14.ClassTells': WHATEVER THE INPUT: true; the input reads as it did. -/
def classTellsSpec : ChangeSpec := { name := "classTells", fn := fun _ => fun
  | [d1, d2] => { results := [.lit (.bool true)], args := [d1, d2] }
  | _ => none }
def classTellsRow : OpenClaim := { program := "ytljgncbdagmeeaadoor", sum := "ff5ae6244ae7c08886cb05be78e81177fd31ae77fa68ad2d0a940160a68a0cff", func := "trefoil/trefoillaw14.ClassTells", spec := "classTells", unfollowed := true, recurses := true, named := ["math/bits.deBruijn32tab", "math/bits.deBruijn64tab"], plainKeys := false, apart := false, laid := [("math/bits.deBruijn32tab", laid_math_bits_deBruijn32tab), ("math/bits.deBruijn64tab", laid_math_bits_deBruijn64tab)] }
def ClassTellsSaid : Prop := classTellsRow.holds Tryd.pinned (OpenSpec.ofChange classTellsSpec)

/-- ITS FALSE NEIGHBOUR: 'it returns false'. Refute it at one input. -/
def classTellsWrong : ChangeSpec := { name := "classTells", fn := fun _ => fun
  | [d1, d2] => { results := [.lit (.bool false)], args := [d1, d2] }
  | _ => none }
def ClassTellsWrongFalsely : Prop := classTellsRow.holds Tryd.pinned (OpenSpec.ofChange classTellsWrong)

/-- 'trefoillaw14.ClassLeast': WHATEVER THE INPUT: true; the input reads as it did. -/
def classLeastSpec : ChangeSpec := { name := "classLeast", fn := fun _ => fun
  | [d] => { results := [.lit (.bool true)], args := [d] }
  | _ => none }
def classLeastRow : OpenClaim := { program := "ytljgncbdagmeeaadoor", sum := "ff5ae6244ae7c08886cb05be78e81177fd31ae77fa68ad2d0a940160a68a0cff", func := "trefoil/trefoillaw14.ClassLeast", spec := "classLeast", unfollowed := true, recurses := true, named := ["math/bits.deBruijn32tab", "math/bits.deBruijn64tab"], plainKeys := false, apart := false, laid := [("math/bits.deBruijn32tab", laid_math_bits_deBruijn32tab), ("math/bits.deBruijn64tab", laid_math_bits_deBruijn64tab)] }
def ClassLeastSaid : Prop := classLeastRow.holds Tryd.pinned (OpenSpec.ofChange classLeastSpec)

/-- ITS FALSE NEIGHBOUR: 'it returns false'. Refute it at one input. -/
def classLeastWrong : ChangeSpec := { name := "classLeast", fn := fun _ => fun
  | [d] => { results := [.lit (.bool false)], args := [d] }
  | _ => none }
def ClassLeastWrongFalsely : Prop := classLeastRow.holds Tryd.pinned (OpenSpec.ofChange classLeastWrong)

/-- 'trefoillaw14.ClassMore': WHATEVER THE INPUT: true; the input reads as it did. -/
def classMoreSpec : ChangeSpec := { name := "classMore", fn := fun _ => fun
  | [d] => { results := [.lit (.bool true)], args := [d] }
  | _ => none }
def classMoreRow : OpenClaim := { program := "ytljgncbdagmeeaadoor", sum := "ff5ae6244ae7c08886cb05be78e81177fd31ae77fa68ad2d0a940160a68a0cff", func := "trefoil/trefoillaw14.ClassMore", spec := "classMore", unfollowed := true, recurses := true, named := ["math/bits.deBruijn32tab", "math/bits.deBruijn64tab"], plainKeys := false, apart := false, laid := [("math/bits.deBruijn32tab", laid_math_bits_deBruijn32tab), ("math/bits.deBruijn64tab", laid_math_bits_deBruijn64tab)] }
def ClassMoreSaid : Prop := classMoreRow.holds Tryd.pinned (OpenSpec.ofChange classMoreSpec)

/-- ITS FALSE NEIGHBOUR: 'it returns false'. Refute it at one input. -/
def classMoreWrong : ChangeSpec := { name := "classMore", fn := fun _ => fun
  | [d] => { results := [.lit (.bool false)], args := [d] }
  | _ => none }
def ClassMoreWrongFalsely : Prop := classMoreRow.holds Tryd.pinned (OpenSpec.ofChange classMoreWrong)

/-- 'trefoillaw08.EvalOps': WHATEVER THE INPUT: true; the input reads as it did. -/
def evalOpsSpec : ChangeSpec := { name := "evalOps", fn := fun _ => fun
  | [d1, d2, d3] => { results := [.lit (.bool true)], args := [d1, d2, d3] }
  | _ => none }
def evalOpsRow : OpenClaim := { program := "ytljgncbdagmeeaadoor", sum := "ff5ae6244ae7c08886cb05be78e81177fd31ae77fa68ad2d0a940160a68a0cff", func := "trefoil/trefoillaw08.EvalOps", spec := "evalOps", unfollowed := true, recurses := true, named := ["math/bits.deBruijn32tab", "math/bits.deBruijn64tab"], plainKeys := false, apart := false, laid := [("math/bits.deBruijn32tab", laid_math_bits_deBruijn32tab), ("math/bits.deBruijn64tab", laid_math_bits_deBruijn64tab)] }
def EvalOpsSaid : Prop := evalOpsRow.holds Tryd.pinned (OpenSpec.ofChange evalOpsSpec)

/-- ITS FALSE NEIGHBOUR: 'it returns false'. Refute it at one input. -/
def evalOpsWrong : ChangeSpec := { name := "evalOps", fn := fun _ => fun
  | [d1, d2, d3] => { results := [.lit (.bool false)], args := [d1, d2, d3] }
  | _ => none }
def EvalOpsWrongFalsely : Prop := evalOpsRow.holds Tryd.pinned (OpenSpec.ofChange evalOpsWrong)

/- THE SECOND FORM. 'bulk': how many values and letters a reading holds, each counted each time it is reached (what is shared counts as often as it is met; a slice's spare places count too). A statement '..UptoSaid' is the law's where the arguments, and the package variables that the reading takes, are together of bulk at most 1048576: NARROWER than '..Said'. Prove '..Said' where nothing that the law and all that it calls make is longer than what came in: it says more and counts as full. Else prove '..UptoSaid'. A law counts once. -/
mutual
def uptoBulk {H : Type} : DataW H → Nat
  | .lit (.string bytes) => bytes.length + 1
  | .lit _ => 1
  | .nil => 1
  | .ptr d => uptoBulk d + 1
  | .slice elems spare => uptoBulkAll elems + uptoBulkAll spare + 1
  | .agg parts => uptoBulkAll parts + 1
  | .iface _ d => uptoBulk d + 1
  | .map entries => uptoBulkEntries entries + 1
  | .held _ => 1
def uptoBulkAll {H : Type} : List (DataW H) → Nat
  | [] => 0
  | d :: r => uptoBulk d + uptoBulkAll r
def uptoBulkEntries {H : Type} : List (Lit × DataW H) → Nat
  | [] => 0
  | x :: r => uptoBulkEntry x + uptoBulkEntries r
def uptoBulkEntry {H : Type} : Lit × DataW H → Nat
  | (.string bytes, d) => bytes.length + uptoBulk d + 1
  | (_, d) => uptoBulk d + 1
 end
def uptoSmall : (H : Type) → List (DataW H) → Bool := fun _ ds => decide (uptoBulkAll ds ≤ 1048576)
def OpenSpec.upto (s : _root_.Go.ChangeSpec) : _root_.Go.OpenSpec := { _root_.Go.OpenSpec.ofChange s with cond := some uptoSmall }

/-- 'trefoillaw07.LowTells', WHERE WHAT IT READS IS OF BULK AT MOST 1048576: true; the input reads as it did. -/
def lowTellsUptoRow : OpenClaim := { program := "ytljgncbdagmeeaadoor", sum := "ff5ae6244ae7c08886cb05be78e81177fd31ae77fa68ad2d0a940160a68a0cff", func := "trefoil/trefoillaw07.LowTells", spec := "lowTells", unfollowed := true, recurses := true, named := ["math/bits.deBruijn32tab", "math/bits.deBruijn64tab"], plainKeys := false, apart := false, laid := [("math/bits.deBruijn32tab", laid_math_bits_deBruijn32tab), ("math/bits.deBruijn64tab", laid_math_bits_deBruijn64tab)], narrowed := true }
def LowTellsUptoSaid : Prop := lowTellsUptoRow.holds Tryd.pinned (OpenSpec.upto lowTellsSpec)

/-- 'trefoillaw07.LowPlaces', WHERE WHAT IT READS IS OF BULK AT MOST 1048576: true; the input reads as it did. -/
def lowPlacesUptoRow : OpenClaim := { program := "ytljgncbdagmeeaadoor", sum := "ff5ae6244ae7c08886cb05be78e81177fd31ae77fa68ad2d0a940160a68a0cff", func := "trefoil/trefoillaw07.LowPlaces", spec := "lowPlaces", unfollowed := true, recurses := true, named := ["math/bits.deBruijn32tab", "math/bits.deBruijn64tab"], plainKeys := false, apart := false, laid := [("math/bits.deBruijn32tab", laid_math_bits_deBruijn32tab), ("math/bits.deBruijn64tab", laid_math_bits_deBruijn64tab)], narrowed := true }
def LowPlacesUptoSaid : Prop := lowPlacesUptoRow.holds Tryd.pinned (OpenSpec.upto lowPlacesSpec)

/-- 'trefoillaw07.LowWork', WHERE WHAT IT READS IS OF BULK AT MOST 1048576: true; the input reads as it did. -/
def lowWorkUptoRow : OpenClaim := { program := "ytljgncbdagmeeaadoor", sum := "ff5ae6244ae7c08886cb05be78e81177fd31ae77fa68ad2d0a940160a68a0cff", func := "trefoil/trefoillaw07.LowWork", spec := "lowWork", unfollowed := true, recurses := true, named := ["math/bits.deBruijn32tab", "math/bits.deBruijn64tab"], plainKeys := false, apart := false, laid := [("math/bits.deBruijn32tab", laid_math_bits_deBruijn32tab), ("math/bits.deBruijn64tab", laid_math_bits_deBruijn64tab)], narrowed := true }
def LowWorkUptoSaid : Prop := lowWorkUptoRow.holds Tryd.pinned (OpenSpec.upto lowWorkSpec)

/-- 'trefoillaw07.LowTouch', WHERE WHAT IT READS IS OF BULK AT MOST 1048576: true; the input reads as it did. -/
def lowTouchUptoRow : OpenClaim := { program := "ytljgncbdagmeeaadoor", sum := "ff5ae6244ae7c08886cb05be78e81177fd31ae77fa68ad2d0a940160a68a0cff", func := "trefoil/trefoillaw07.LowTouch", spec := "lowTouch", unfollowed := true, recurses := true, named := ["math/bits.deBruijn32tab", "math/bits.deBruijn64tab"], plainKeys := false, apart := false, laid := [("math/bits.deBruijn32tab", laid_math_bits_deBruijn32tab), ("math/bits.deBruijn64tab", laid_math_bits_deBruijn64tab)], narrowed := true }
def LowTouchUptoSaid : Prop := lowTouchUptoRow.holds Tryd.pinned (OpenSpec.upto lowTouchSpec)

/-- 'trefoillaw07.LowBarrier', WHERE WHAT IT READS IS OF BULK AT MOST 1048576: true; the input reads as it did. -/
def lowBarrierUptoRow : OpenClaim := { program := "ytljgncbdagmeeaadoor", sum := "ff5ae6244ae7c08886cb05be78e81177fd31ae77fa68ad2d0a940160a68a0cff", func := "trefoil/trefoillaw07.LowBarrier", spec := "lowBarrier", unfollowed := true, recurses := true, named := ["math/bits.deBruijn32tab", "math/bits.deBruijn64tab"], plainKeys := false, apart := false, laid := [("math/bits.deBruijn32tab", laid_math_bits_deBruijn32tab), ("math/bits.deBruijn64tab", laid_math_bits_deBruijn64tab)], narrowed := true }
def LowBarrierUptoSaid : Prop := lowBarrierUptoRow.holds Tryd.pinned (OpenSpec.upto lowBarrierSpec)

/-- 'trefoillaw07.LowRound', WHERE WHAT IT READS IS OF BULK AT MOST 1048576: true; the input reads as it did. -/
def lowRoundUptoRow : OpenClaim := { program := "ytljgncbdagmeeaadoor", sum := "ff5ae6244ae7c08886cb05be78e81177fd31ae77fa68ad2d0a940160a68a0cff", func := "trefoil/trefoillaw07.LowRound", spec := "lowRound", unfollowed := true, recurses := true, named := ["math/bits.deBruijn32tab", "math/bits.deBruijn64tab"], plainKeys := false, apart := false, laid := [("math/bits.deBruijn32tab", laid_math_bits_deBruijn32tab), ("math/bits.deBruijn64tab", laid_math_bits_deBruijn64tab)], narrowed := true }
def LowRoundUptoSaid : Prop := lowRoundUptoRow.holds Tryd.pinned (OpenSpec.upto lowRoundSpec)

/-- 'trefoillaw07.LowLess', WHERE WHAT IT READS IS OF BULK AT MOST 1048576: true; the input reads as it did. -/
def lowLessUptoRow : OpenClaim := { program := "ytljgncbdagmeeaadoor", sum := "ff5ae6244ae7c08886cb05be78e81177fd31ae77fa68ad2d0a940160a68a0cff", func := "trefoil/trefoillaw07.LowLess", spec := "lowLess", unfollowed := true, recurses := true, named := ["math/bits.deBruijn32tab", "math/bits.deBruijn64tab"], plainKeys := false, apart := false, laid := [("math/bits.deBruijn32tab", laid_math_bits_deBruijn32tab), ("math/bits.deBruijn64tab", laid_math_bits_deBruijn64tab)], narrowed := true }
def LowLessUptoSaid : Prop := lowLessUptoRow.holds Tryd.pinned (OpenSpec.upto lowLessSpec)

/-- 'trefoillaw14.ClassTells', WHERE WHAT IT READS IS OF BULK AT MOST 1048576: true; the input reads as it did. -/
def classTellsUptoRow : OpenClaim := { program := "ytljgncbdagmeeaadoor", sum := "ff5ae6244ae7c08886cb05be78e81177fd31ae77fa68ad2d0a940160a68a0cff", func := "trefoil/trefoillaw14.ClassTells", spec := "classTells", unfollowed := true, recurses := true, named := ["math/bits.deBruijn32tab", "math/bits.deBruijn64tab"], plainKeys := false, apart := false, laid := [("math/bits.deBruijn32tab", laid_math_bits_deBruijn32tab), ("math/bits.deBruijn64tab", laid_math_bits_deBruijn64tab)], narrowed := true }
def ClassTellsUptoSaid : Prop := classTellsUptoRow.holds Tryd.pinned (OpenSpec.upto classTellsSpec)

/-- 'trefoillaw14.ClassLeast', WHERE WHAT IT READS IS OF BULK AT MOST 1048576: true; the input reads as it did. -/
def classLeastUptoRow : OpenClaim := { program := "ytljgncbdagmeeaadoor", sum := "ff5ae6244ae7c08886cb05be78e81177fd31ae77fa68ad2d0a940160a68a0cff", func := "trefoil/trefoillaw14.ClassLeast", spec := "classLeast", unfollowed := true, recurses := true, named := ["math/bits.deBruijn32tab", "math/bits.deBruijn64tab"], plainKeys := false, apart := false, laid := [("math/bits.deBruijn32tab", laid_math_bits_deBruijn32tab), ("math/bits.deBruijn64tab", laid_math_bits_deBruijn64tab)], narrowed := true }
def ClassLeastUptoSaid : Prop := classLeastUptoRow.holds Tryd.pinned (OpenSpec.upto classLeastSpec)

/-- 'trefoillaw14.ClassMore', WHERE WHAT IT READS IS OF BULK AT MOST 1048576: true; the input reads as it did. -/
def classMoreUptoRow : OpenClaim := { program := "ytljgncbdagmeeaadoor", sum := "ff5ae6244ae7c08886cb05be78e81177fd31ae77fa68ad2d0a940160a68a0cff", func := "trefoil/trefoillaw14.ClassMore", spec := "classMore", unfollowed := true, recurses := true, named := ["math/bits.deBruijn32tab", "math/bits.deBruijn64tab"], plainKeys := false, apart := false, laid := [("math/bits.deBruijn32tab", laid_math_bits_deBruijn32tab), ("math/bits.deBruijn64tab", laid_math_bits_deBruijn64tab)], narrowed := true }
def ClassMoreUptoSaid : Prop := classMoreUptoRow.holds Tryd.pinned (OpenSpec.upto classMoreSpec)

/-- 'trefoillaw08.EvalOps', WHERE WHAT IT READS IS OF BULK AT MOST 1048576: true; the input reads as it did. -/
def evalOpsUptoRow : OpenClaim := { program := "ytljgncbdagmeeaadoor", sum := "ff5ae6244ae7c08886cb05be78e81177fd31ae77fa68ad2d0a940160a68a0cff", func := "trefoil/trefoillaw08.EvalOps", spec := "evalOps", unfollowed := true, recurses := true, named := ["math/bits.deBruijn32tab", "math/bits.deBruijn64tab"], plainKeys := false, apart := false, laid := [("math/bits.deBruijn32tab", laid_math_bits_deBruijn32tab), ("math/bits.deBruijn64tab", laid_math_bits_deBruijn64tab)], narrowed := true }
def EvalOpsUptoSaid : Prop := evalOpsUptoRow.holds Tryd.pinned (OpenSpec.upto evalOpsSpec)

end Rows
end Go.Proofs.YtljgncbdagmeeaaDoor
