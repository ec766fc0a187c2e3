/-
  NARROWER THAN 'FOR EVERY INPUT', by the rows' own cells (each row's printed sentence says how): DescChecks: laid · DescFeeds: laid · DescGaps: laid · DescCounts: laid · DescLess: laid · DescSame: laid · PartRight: laid · PartEnough: laid · PartMore: laid · PartOrder: laid · PartFirst: laid · PartWider: laid.
  DERIVED. THE GIVEN ROWS OF THIS SEAT. 12 by the template 'for every input the law returns true; each argument reads behind the call as it read before'; 0 by the template 'total and deterministic' (their statements: YtakebhleglnpjaaDoorTotals.lean).
  GIVEN WITH THE SEED: the statements are not yours to turn. If you find one false, say at which input.
  Laid BY PROGRAM, IN A SANDBOX (cutbox-rows.mjs): the forced cells as the released guide's own fill.sh prints them over the translation a0a00617c26a8330… (all of the seat's roots in one cut). By AI agents, Wed Nov 11 2026. No macro, syntax, notation, axiom, sorry.
-/
import Derived.Test.YtakebhleglnpjaaDoorChecked
import GoSem.Claim
import GoSem.ClaimJoined
import GoSem.ClaimMapViews
import Derived.JoinedTies
import Derived.KernelRfl
namespace Go.Proofs.YtakebhleglnpjaaDoor
/- THE CELL 'sum', in the pinned program and in every row, IS THE sha256 OF THE DUMP (.gsa) THAT YtakebhleglnpjaaDoorProg.lean LOADS. Nothing in Lean hashes anything: it is a label: what it is worth is what the hold of that sum in a sandbox is worth. -/
noncomputable def Tryd.pinned : Pinned := { name := "ytakebhleglnpjaadoor", sum := "a0a00617c26a8330299fc32458fb295e7351b4dc89d7b2a88c7e2dbefc98ab10", checked := Tryd.checked }
namespace Rows
def none {H : Type} : Left H := { results := [], args := [] }

/- WHAT THE LISTED PACKAGE-LEVEL VARIABLES READ AS WHEN THE CALL BEGINS. Each datum BY PROGRAM (the guide's laid-datum.mjs) off the statement by which the dump's own 'gosem.cut.vars' lays the variable. In a bare row this is a premise. The card (YtakebhleglnpjaaDoorCards.lean) ties it to the program's text. -/
def laid_math_bits_deBruijn32tab {H : Type} : DataW H := .agg [.lit (.int .u8 0), .lit (.int .u8 1), .lit (.int .u8 28), .lit (.int .u8 2), .lit (.int .u8 29), .lit (.int .u8 14), .lit (.int .u8 24), .lit (.int .u8 3), .lit (.int .u8 30), .lit (.int .u8 22), .lit (.int .u8 20), .lit (.int .u8 15), .lit (.int .u8 25), .lit (.int .u8 17), .lit (.int .u8 4), .lit (.int .u8 8), .lit (.int .u8 31), .lit (.int .u8 27), .lit (.int .u8 13), .lit (.int .u8 23), .lit (.int .u8 21), .lit (.int .u8 19), .lit (.int .u8 16), .lit (.int .u8 7), .lit (.int .u8 26), .lit (.int .u8 12), .lit (.int .u8 18), .lit (.int .u8 6), .lit (.int .u8 11), .lit (.int .u8 5), .lit (.int .u8 10), .lit (.int .u8 9)]
def laid_math_bits_deBruijn64tab {H : Type} : DataW H := .agg [.lit (.int .u8 0), .lit (.int .u8 1), .lit (.int .u8 56), .lit (.int .u8 2), .lit (.int .u8 57), .lit (.int .u8 49), .lit (.int .u8 28), .lit (.int .u8 3), .lit (.int .u8 61), .lit (.int .u8 58), .lit (.int .u8 42), .lit (.int .u8 50), .lit (.int .u8 38), .lit (.int .u8 29), .lit (.int .u8 17), .lit (.int .u8 4), .lit (.int .u8 62), .lit (.int .u8 47), .lit (.int .u8 59), .lit (.int .u8 36), .lit (.int .u8 45), .lit (.int .u8 43), .lit (.int .u8 51), .lit (.int .u8 22), .lit (.int .u8 53), .lit (.int .u8 39), .lit (.int .u8 33), .lit (.int .u8 30), .lit (.int .u8 24), .lit (.int .u8 18), .lit (.int .u8 12), .lit (.int .u8 5), .lit (.int .u8 63), .lit (.int .u8 55), .lit (.int .u8 48), .lit (.int .u8 27), .lit (.int .u8 60), .lit (.int .u8 41), .lit (.int .u8 37), .lit (.int .u8 16), .lit (.int .u8 46), .lit (.int .u8 35), .lit (.int .u8 44), .lit (.int .u8 21), .lit (.int .u8 52), .lit (.int .u8 32), .lit (.int .u8 23), .lit (.int .u8 11), .lit (.int .u8 54), .lit (.int .u8 26), .lit (.int .u8 40), .lit (.int .u8 15), .lit (.int .u8 34), .lit (.int .u8 20), .lit (.int .u8 31), .lit (.int .u8 10), .lit (.int .u8 25), .lit (.int .u8 14), .lit (.int .u8 19), .lit (.int .u8 9), .lit (.int .u8 13), .lit (.int .u8 8), .lit (.int .u8 7), .lit (.int .u8 6)]

/-- 'trefoillaw05.DescChecks': WHATEVER THE INPUT: true; the input reads as it did. -/
def descChecksSpec : ChangeSpec := { name := "descChecks", fn := fun _ => fun
  | [d1, d2] => { results := [.lit (.bool true)], args := [d1, d2] }
  | _ => none }
def descChecksRow : OpenClaim := { program := "ytakebhleglnpjaadoor", sum := "a0a00617c26a8330299fc32458fb295e7351b4dc89d7b2a88c7e2dbefc98ab10", func := "trefoil/trefoillaw05.DescChecks", spec := "descChecks", unfollowed := true, recurses := true, named := ["math/bits.deBruijn32tab", "math/bits.deBruijn64tab"], apart := false, laid := [("math/bits.deBruijn32tab", laid_math_bits_deBruijn32tab), ("math/bits.deBruijn64tab", laid_math_bits_deBruijn64tab)] }
def DescChecksSaid : Prop := descChecksRow.holds Tryd.pinned (OpenSpec.ofChange descChecksSpec)

/-- ITS FALSE NEIGHBOUR: 'it returns false'. Refute it at one input. -/
def descChecksWrong : ChangeSpec := { name := "descChecks", fn := fun _ => fun
  | [d1, d2] => { results := [.lit (.bool false)], args := [d1, d2] }
  | _ => none }
def DescChecksWrongFalsely : Prop := descChecksRow.holds Tryd.pinned (OpenSpec.ofChange descChecksWrong)

/-- 'trefoillaw05.DescFeeds': WHATEVER THE INPUT: true; the input reads as it did. -/
def descFeedsSpec : ChangeSpec := { name := "descFeeds", fn := fun _ => fun
  | [d1, d2] => { results := [.lit (.bool true)], args := [d1, d2] }
  | _ => none }
def descFeedsRow : OpenClaim := { program := "ytakebhleglnpjaadoor", sum := "a0a00617c26a8330299fc32458fb295e7351b4dc89d7b2a88c7e2dbefc98ab10", func := "trefoil/trefoillaw05.DescFeeds", spec := "descFeeds", unfollowed := true, recurses := true, named := ["math/bits.deBruijn32tab", "math/bits.deBruijn64tab"], apart := false, laid := [("math/bits.deBruijn32tab", laid_math_bits_deBruijn32tab), ("math/bits.deBruijn64tab", laid_math_bits_deBruijn64tab)] }
def DescFeedsSaid : Prop := descFeedsRow.holds Tryd.pinned (OpenSpec.ofChange descFeedsSpec)

/-- ITS FALSE NEIGHBOUR: 'it returns false'. Refute it at one input. -/
def descFeedsWrong : ChangeSpec := { name := "descFeeds", fn := fun _ => fun
  | [d1, d2] => { results := [.lit (.bool false)], args := [d1, d2] }
  | _ => none }
def DescFeedsWrongFalsely : Prop := descFeedsRow.holds Tryd.pinned (OpenSpec.ofChange descFeedsWrong)

/-- 'trefoillaw05.DescGaps': WHATEVER THE INPUT: true; the input reads as it did. -/
def descGapsSpec : ChangeSpec := { name := "descGaps", fn := fun _ => fun
  | [d1, d2] => { results := [.lit (.bool true)], args := [d1, d2] }
  | _ => none }
def descGapsRow : OpenClaim := { program := "ytakebhleglnpjaadoor", sum := "a0a00617c26a8330299fc32458fb295e7351b4dc89d7b2a88c7e2dbefc98ab10", func := "trefoil/trefoillaw05.DescGaps", spec := "descGaps", unfollowed := true, recurses := true, named := ["math/bits.deBruijn32tab", "math/bits.deBruijn64tab"], apart := false, laid := [("math/bits.deBruijn32tab", laid_math_bits_deBruijn32tab), ("math/bits.deBruijn64tab", laid_math_bits_deBruijn64tab)] }
def DescGapsSaid : Prop := descGapsRow.holds Tryd.pinned (OpenSpec.ofChange descGapsSpec)

/-- ITS FALSE NEIGHBOUR: 'it returns false'. Refute it at one input. -/
def descGapsWrong : ChangeSpec := { name := "descGaps", fn := fun _ => fun
  | [d1, d2] => { results := [.lit (.bool false)], args := [d1, d2] }
  | _ => none }
def DescGapsWrongFalsely : Prop := descGapsRow.holds Tryd.pinned (OpenSpec.ofChange descGapsWrong)

/-- 'trefoillaw05.DescCounts': WHATEVER THE INPUT: true; the input reads as it did. -/
def descCountsSpec : ChangeSpec := { name := "descCounts", fn := fun _ => fun
  | [d] => { results := [.lit (.bool true)], args := [d] }
  | _ => none }
def descCountsRow : OpenClaim := { program := "ytakebhleglnpjaadoor", sum := "a0a00617c26a8330299fc32458fb295e7351b4dc89d7b2a88c7e2dbefc98ab10", func := "trefoil/trefoillaw05.DescCounts", spec := "descCounts", unfollowed := true, recurses := true, named := ["math/bits.deBruijn32tab", "math/bits.deBruijn64tab"], apart := false, laid := [("math/bits.deBruijn32tab", laid_math_bits_deBruijn32tab), ("math/bits.deBruijn64tab", laid_math_bits_deBruijn64tab)] }
def DescCountsSaid : Prop := descCountsRow.holds Tryd.pinned (OpenSpec.ofChange descCountsSpec)

/-- ITS FALSE NEIGHBOUR: 'it returns false'. Refute it at one input. -/
def descCountsWrong : ChangeSpec := { name := "descCounts", fn := fun _ => fun
  | [d] => { results := [.lit (.bool false)], args := [d] }
  | _ => none }
def DescCountsWrongFalsely : Prop := descCountsRow.holds Tryd.pinned (OpenSpec.ofChange descCountsWrong)

/-- 'trefoillaw05.DescLess': WHATEVER THE INPUT: true; the input reads as it did. -/
def descLessSpec : ChangeSpec := { name := "descLess", fn := fun _ => fun
  | [d1, d2] => { results := [.lit (.bool true)], args := [d1, d2] }
  | _ => none }
def descLessRow : OpenClaim := { program := "ytakebhleglnpjaadoor", sum := "a0a00617c26a8330299fc32458fb295e7351b4dc89d7b2a88c7e2dbefc98ab10", func := "trefoil/trefoillaw05.DescLess", spec := "descLess", unfollowed := true, recurses := true, named := ["math/bits.deBruijn32tab", "math/bits.deBruijn64tab"], apart := false, laid := [("math/bits.deBruijn32tab", laid_math_bits_deBruijn32tab), ("math/bits.deBruijn64tab", laid_math_bits_deBruijn64tab)] }
def DescLessSaid : Prop := descLessRow.holds Tryd.pinned (OpenSpec.ofChange descLessSpec)

/-- ITS FALSE NEIGHBOUR: 'it returns false'. Refute it at one input. -/
def descLessWrong : ChangeSpec := { name := "descLess", fn := fun _ => fun
  | [d1, d2] => { results := [.lit (.bool false)], args := [d1, d2] }
  | _ => none }
def DescLessWrongFalsely : Prop := descLessRow.holds Tryd.pinned (OpenSpec.ofChange descLessWrong)

/-- 'trefoillaw05.DescSame': WHATEVER THE INPUT: true; the input reads as it did. -/
def descSameSpec : ChangeSpec := { name := "descSame", fn := fun _ => fun
  | [d1, d2] => { results := [.lit (.bool true)], args := [d1, d2] }
  | _ => none }
def descSameRow : OpenClaim := { program := "ytakebhleglnpjaadoor", sum := "a0a00617c26a8330299fc32458fb295e7351b4dc89d7b2a88c7e2dbefc98ab10", func := "trefoil/trefoillaw05.DescSame", spec := "descSame", unfollowed := true, recurses := true, named := ["math/bits.deBruijn32tab", "math/bits.deBruijn64tab"], apart := false, laid := [("math/bits.deBruijn32tab", laid_math_bits_deBruijn32tab), ("math/bits.deBruijn64tab", laid_math_bits_deBruijn64tab)] }
def DescSameSaid : Prop := descSameRow.holds Tryd.pinned (OpenSpec.ofChange descSameSpec)

/-- ITS FALSE NEIGHBOUR: 'it returns false'. Refute it at one input. -/
def descSameWrong : ChangeSpec := { name := "descSame", fn := fun _ => fun
  | [d1, d2] => { results := [.lit (.bool false)], args := [d1, d2] }
  | _ => none }
def DescSameWrongFalsely : Prop := descSameRow.holds Tryd.pinned (OpenSpec.ofChange descSameWrong)

/-- 'trefoillaw16.PartRight': WHATEVER THE INPUT: true; the input reads as it did. -/
def partRightSpec : ChangeSpec := { name := "partRight", fn := fun _ => fun
  | [d1, d2] => { results := [.lit (.bool true)], args := [d1, d2] }
  | _ => none }
def partRightRow : OpenClaim := { program := "ytakebhleglnpjaadoor", sum := "a0a00617c26a8330299fc32458fb295e7351b4dc89d7b2a88c7e2dbefc98ab10", func := "trefoil/trefoillaw16.PartRight", spec := "partRight", unfollowed := true, recurses := true, named := ["math/bits.deBruijn32tab", "math/bits.deBruijn64tab"], apart := false, laid := [("math/bits.deBruijn32tab", laid_math_bits_deBruijn32tab), ("math/bits.deBruijn64tab", laid_math_bits_deBruijn64tab)] }
def PartRightSaid : Prop := partRightRow.holds Tryd.pinned (OpenSpec.ofChange partRightSpec)

/-- ITS FALSE NEIGHBOUR: 'it returns false'. Refute it at one input. -/
def partRightWrong : ChangeSpec := { name := "partRight", fn := fun _ => fun
  | [d1, d2] => { results := [.lit (.bool false)], args := [d1, d2] }
  | _ => none }
def PartRightWrongFalsely : Prop := partRightRow.holds Tryd.pinned (OpenSpec.ofChange partRightWrong)

/-- 'trefoillaw16.PartEnough': WHATEVER THE INPUT: true; the input reads as it did. -/
def partEnoughSpec : ChangeSpec := { name := "partEnough", fn := fun _ => fun
  | [d1, d2] => { results := [.lit (.bool true)], args := [d1, d2] }
  | _ => none }
def partEnoughRow : OpenClaim := { program := "ytakebhleglnpjaadoor", sum := "a0a00617c26a8330299fc32458fb295e7351b4dc89d7b2a88c7e2dbefc98ab10", func := "trefoil/trefoillaw16.PartEnough", spec := "partEnough", unfollowed := true, recurses := true, named := ["math/bits.deBruijn32tab", "math/bits.deBruijn64tab"], apart := false, laid := [("math/bits.deBruijn32tab", laid_math_bits_deBruijn32tab), ("math/bits.deBruijn64tab", laid_math_bits_deBruijn64tab)] }
def PartEnoughSaid : Prop := partEnoughRow.holds Tryd.pinned (OpenSpec.ofChange partEnoughSpec)

/-- ITS FALSE NEIGHBOUR: 'it returns false'. Refute it at one input. -/
def partEnoughWrong : ChangeSpec := { name := "partEnough", fn := fun _ => fun
  | [d1, d2] => { results := [.lit (.bool false)], args := [d1, d2] }
  | _ => none }
def PartEnoughWrongFalsely : Prop := partEnoughRow.holds Tryd.pinned (OpenSpec.ofChange partEnoughWrong)

/-- 'trefoillaw16.PartMore': WHATEVER THE INPUT: true; the input reads as it did. -/
def partMoreSpec : ChangeSpec := { name := "partMore", fn := fun _ => fun
  | [d1, d2] => { results := [.lit (.bool true)], args := [d1, d2] }
  | _ => none }
def partMoreRow : OpenClaim := { program := "ytakebhleglnpjaadoor", sum := "a0a00617c26a8330299fc32458fb295e7351b4dc89d7b2a88c7e2dbefc98ab10", func := "trefoil/trefoillaw16.PartMore", spec := "partMore", unfollowed := true, recurses := true, named := ["math/bits.deBruijn32tab", "math/bits.deBruijn64tab"], apart := false, laid := [("math/bits.deBruijn32tab", laid_math_bits_deBruijn32tab), ("math/bits.deBruijn64tab", laid_math_bits_deBruijn64tab)] }
def PartMoreSaid : Prop := partMoreRow.holds Tryd.pinned (OpenSpec.ofChange partMoreSpec)

/-- ITS FALSE NEIGHBOUR: 'it returns false'. Refute it at one input. -/
def partMoreWrong : ChangeSpec := { name := "partMore", fn := fun _ => fun
  | [d1, d2] => { results := [.lit (.bool false)], args := [d1, d2] }
  | _ => none }
def PartMoreWrongFalsely : Prop := partMoreRow.holds Tryd.pinned (OpenSpec.ofChange partMoreWrong)

/-- 'trefoillaw16.PartOrder': WHATEVER THE INPUT: true; the input reads as it did. -/
def partOrderSpec : ChangeSpec := { name := "partOrder", fn := fun _ => fun
  | [d] => { results := [.lit (.bool true)], args := [d] }
  | _ => none }
def partOrderRow : OpenClaim := { program := "ytakebhleglnpjaadoor", sum := "a0a00617c26a8330299fc32458fb295e7351b4dc89d7b2a88c7e2dbefc98ab10", func := "trefoil/trefoillaw16.PartOrder", spec := "partOrder", unfollowed := true, recurses := true, named := ["math/bits.deBruijn32tab", "math/bits.deBruijn64tab"], apart := false, laid := [("math/bits.deBruijn32tab", laid_math_bits_deBruijn32tab), ("math/bits.deBruijn64tab", laid_math_bits_deBruijn64tab)] }
def PartOrderSaid : Prop := partOrderRow.holds Tryd.pinned (OpenSpec.ofChange partOrderSpec)

/-- ITS FALSE NEIGHBOUR: 'it returns false'. Refute it at one input. -/
def partOrderWrong : ChangeSpec := { name := "partOrder", fn := fun _ => fun
  | [d] => { results := [.lit (.bool false)], args := [d] }
  | _ => none }
def PartOrderWrongFalsely : Prop := partOrderRow.holds Tryd.pinned (OpenSpec.ofChange partOrderWrong)

/-- 'trefoillaw16.PartFirst': WHATEVER THE INPUT: true; the input reads as it did. -/
def partFirstSpec : ChangeSpec := { name := "partFirst", fn := fun _ => fun
  | [d1, d2] => { results := [.lit (.bool true)], args := [d1, d2] }
  | _ => none }
def partFirstRow : OpenClaim := { program := "ytakebhleglnpjaadoor", sum := "a0a00617c26a8330299fc32458fb295e7351b4dc89d7b2a88c7e2dbefc98ab10", func := "trefoil/trefoillaw16.PartFirst", spec := "partFirst", unfollowed := true, recurses := true, named := ["math/bits.deBruijn32tab", "math/bits.deBruijn64tab"], apart := false, laid := [("math/bits.deBruijn32tab", laid_math_bits_deBruijn32tab), ("math/bits.deBruijn64tab", laid_math_bits_deBruijn64tab)] }
def PartFirstSaid : Prop := partFirstRow.holds Tryd.pinned (OpenSpec.ofChange partFirstSpec)

/-- ITS FALSE NEIGHBOUR: 'it returns false'. Refute it at one input. -/
def partFirstWrong : ChangeSpec := { name := "partFirst", fn := fun _ => fun
  | [d1, d2] => { results := [.lit (.bool false)], args := [d1, d2] }
  | _ => none }
def PartFirstWrongFalsely : Prop := partFirstRow.holds Tryd.pinned (OpenSpec.ofChange partFirstWrong)

/-- 'trefoillaw16.PartWider': WHATEVER THE INPUT: true; the input reads as it did. -/
def partWiderSpec : ChangeSpec := { name := "partWider", fn := fun _ => fun
  | [d1, d2, d3, d4] => { results := [.lit (.bool true)], args := [d1, d2, d3, d4] }
  | _ => none }
def partWiderRow : OpenClaim := { program := "ytakebhleglnpjaadoor", sum := "a0a00617c26a8330299fc32458fb295e7351b4dc89d7b2a88c7e2dbefc98ab10", func := "trefoil/trefoillaw16.PartWider", spec := "partWider", unfollowed := true, recurses := true, named := ["math/bits.deBruijn32tab", "math/bits.deBruijn64tab"], apart := false, laid := [("math/bits.deBruijn32tab", laid_math_bits_deBruijn32tab), ("math/bits.deBruijn64tab", laid_math_bits_deBruijn64tab)] }
def PartWiderSaid : Prop := partWiderRow.holds Tryd.pinned (OpenSpec.ofChange partWiderSpec)

/-- ITS FALSE NEIGHBOUR: 'it returns false'. Refute it at one input. -/
def partWiderWrong : ChangeSpec := { name := "partWider", fn := fun _ => fun
  | [d1, d2, d3, d4] => { results := [.lit (.bool false)], args := [d1, d2, d3, d4] }
  | _ => none }
def PartWiderWrongFalsely : Prop := partWiderRow.holds Tryd.pinned (OpenSpec.ofChange partWiderWrong)

/- THE SECOND FORM. 'bulk': how many values and letters a reading holds, each counted each time it is reached (what is shared counts as often as it is met; a slice's spare places count too). A statement '..UptoSaid' is the law's where the arguments, and the package variables that the reading takes, are together of bulk at most 1048576: NARROWER than '..Said'. Prove '..Said' where nothing that the law and all that it calls make is longer than what came in: it says more and counts as full. Else prove '..UptoSaid'. A law counts once. -/
mutual
def uptoBulk {H : Type} : DataW H → Nat
  | .lit (.string bytes) => bytes.length + 1
  | .lit _ => 1
  | .nil => 1
  | .ptr d => uptoBulk d + 1
  | .slice elems spare => uptoBulkAll elems + uptoBulkAll spare + 1
  | .agg parts => uptoBulkAll parts + 1
  | .iface _ d => uptoBulk d + 1
  | .map entries => uptoBulkEntries entries + 1
  | .held _ => 1
def uptoBulkAll {H : Type} : List (DataW H) → Nat
  | [] => 0
  | d :: r => uptoBulk d + uptoBulkAll r
def uptoBulkEntries {H : Type} : List (Lit × DataW H) → Nat
  | [] => 0
  | x :: r => uptoBulkEntry x + uptoBulkEntries r
def uptoBulkEntry {H : Type} : Lit × DataW H → Nat
  | (.string bytes, d) => bytes.length + uptoBulk d + 1
  | (_, d) => uptoBulk d + 1
 end
def uptoSmall : (H : Type) → List (DataW H) → Bool := fun _ ds => decide (uptoBulkAll ds ≤ 1048576)
def OpenSpec.upto (s : _root_.Go.ChangeSpec) : _root_.Go.OpenSpec := { _root_.Go.OpenSpec.ofChange s with cond := some uptoSmall }

/-- 'trefoillaw05.DescChecks', WHERE WHAT IT READS IS OF BULK AT MOST 1048576: true; the input reads as it did. -/
def descChecksUptoRow : OpenClaim := { program := "ytakebhleglnpjaadoor", sum := "a0a00617c26a8330299fc32458fb295e7351b4dc89d7b2a88c7e2dbefc98ab10", func := "trefoil/trefoillaw05.DescChecks", spec := "descChecks", unfollowed := true, recurses := true, named := ["math/bits.deBruijn32tab", "math/bits.deBruijn64tab"], apart := false, laid := [("math/bits.deBruijn32tab", laid_math_bits_deBruijn32tab), ("math/bits.deBruijn64tab", laid_math_bits_deBruijn64tab)], narrowed := true }
def DescChecksUptoSaid : Prop := descChecksUptoRow.holds Tryd.pinned (OpenSpec.upto descChecksSpec)

/-- 'trefoillaw05.DescFeeds', WHERE WHAT IT READS IS OF BULK AT MOST 1048576: true; the input reads as it did. -/
def descFeedsUptoRow : OpenClaim := { program := "ytakebhleglnpjaadoor", sum := "a0a00617c26a8330299fc32458fb295e7351b4dc89d7b2a88c7e2dbefc98ab10", func := "trefoil/trefoillaw05.DescFeeds", spec := "descFeeds", unfollowed := true, recurses := true, named := ["math/bits.deBruijn32tab", "math/bits.deBruijn64tab"], apart := false, laid := [("math/bits.deBruijn32tab", laid_math_bits_deBruijn32tab), ("math/bits.deBruijn64tab", laid_math_bits_deBruijn64tab)], narrowed := true }
def DescFeedsUptoSaid : Prop := descFeedsUptoRow.holds Tryd.pinned (OpenSpec.upto descFeedsSpec)

/-- 'trefoillaw05.DescGaps', WHERE WHAT IT READS IS OF BULK AT MOST 1048576: true; the input reads as it did. -/
def descGapsUptoRow : OpenClaim := { program := "ytakebhleglnpjaadoor", sum := "a0a00617c26a8330299fc32458fb295e7351b4dc89d7b2a88c7e2dbefc98ab10", func := "trefoil/trefoillaw05.DescGaps", spec := "descGaps", unfollowed := true, recurses := true, named := ["math/bits.deBruijn32tab", "math/bits.deBruijn64tab"], apart := false, laid := [("math/bits.deBruijn32tab", laid_math_bits_deBruijn32tab), ("math/bits.deBruijn64tab", laid_math_bits_deBruijn64tab)], narrowed := true }
def DescGapsUptoSaid : Prop := descGapsUptoRow.holds Tryd.pinned (OpenSpec.upto descGapsSpec)

/-- 'trefoillaw05.DescCounts', WHERE WHAT IT READS IS OF BULK AT MOST 1048576: true; the input reads as it did. -/
def descCountsUptoRow : OpenClaim := { program := "ytakebhleglnpjaadoor", sum := "a0a00617c26a8330299fc32458fb295e7351b4dc89d7b2a88c7e2dbefc98ab10", func := "trefoil/trefoillaw05.DescCounts", spec := "descCounts", unfollowed := true, recurses := true, named := ["math/bits.deBruijn32tab", "math/bits.deBruijn64tab"], apart := false, laid := [("math/bits.deBruijn32tab", laid_math_bits_deBruijn32tab), ("math/bits.deBruijn64tab", laid_math_bits_deBruijn64tab)], narrowed := true }
def DescCountsUptoSaid : Prop := descCountsUptoRow.holds Tryd.pinned (OpenSpec.upto descCountsSpec)

/-- 'trefoillaw05.DescLess', WHERE WHAT IT READS IS OF BULK AT MOST 1048576: true; the input reads as it did. -/
def descLessUptoRow : OpenClaim := { program := "ytakebhleglnpjaadoor", sum := "a0a00617c26a8330299fc32458fb295e7351b4dc89d7b2a88c7e2dbefc98ab10", func := "trefoil/trefoillaw05.DescLess", spec := "descLess", unfollowed := true, recurses := true, named := ["math/bits.deBruijn32tab", "math/bits.deBruijn64tab"], apart := false, laid := [("math/bits.deBruijn32tab", laid_math_bits_deBruijn32tab), ("math/bits.deBruijn64tab", laid_math_bits_deBruijn64tab)], narrowed := true }
def DescLessUptoSaid : Prop := descLessUptoRow.holds Tryd.pinned (OpenSpec.upto descLessSpec)

/-- 'trefoillaw05.DescSame', WHERE WHAT IT READS IS OF BULK AT MOST 1048576: true; the input reads as it did. -/
def descSameUptoRow : OpenClaim := { program := "ytakebhleglnpjaadoor", sum := "a0a00617c26a8330299fc32458fb295e7351b4dc89d7b2a88c7e2dbefc98ab10", func := "trefoil/trefoillaw05.DescSame", spec := "descSame", unfollowed := true, recurses := true, named := ["math/bits.deBruijn32tab", "math/bits.deBruijn64tab"], apart := false, laid := [("math/bits.deBruijn32tab", laid_math_bits_deBruijn32tab), ("math/bits.deBruijn64tab", laid_math_bits_deBruijn64tab)], narrowed := true }
def DescSameUptoSaid : Prop := descSameUptoRow.holds Tryd.pinned (OpenSpec.upto descSameSpec)

/-- 'trefoillaw16.PartRight', WHERE WHAT IT READS IS OF BULK AT MOST 1048576: true; the input reads as it did. -/
def partRightUptoRow : OpenClaim := { program := "ytakebhleglnpjaadoor", sum := "a0a00617c26a8330299fc32458fb295e7351b4dc89d7b2a88c7e2dbefc98ab10", func := "trefoil/trefoillaw16.PartRight", spec := "partRight", unfollowed := true, recurses := true, named := ["math/bits.deBruijn32tab", "math/bits.deBruijn64tab"], apart := false, laid := [("math/bits.deBruijn32tab", laid_math_bits_deBruijn32tab), ("math/bits.deBruijn64tab", laid_math_bits_deBruijn64tab)], narrowed := true }
def PartRightUptoSaid : Prop := partRightUptoRow.holds Tryd.pinned (OpenSpec.upto partRightSpec)

/-- 'trefoillaw16.PartEnough', WHERE WHAT IT READS IS OF BULK AT MOST 1048576: true; the input reads as it did. -/
def partEnoughUptoRow : OpenClaim := { program := "ytakebhleglnpjaadoor", sum := "a0a00617c26a8330299fc32458fb295e7351b4dc89d7b2a88c7e2dbefc98ab10", func := "trefoil/trefoillaw16.PartEnough", spec := "partEnough", unfollowed := true, recurses := true, named := ["math/bits.deBruijn32tab", "math/bits.deBruijn64tab"], apart := false, laid := [("math/bits.deBruijn32tab", laid_math_bits_deBruijn32tab), ("math/bits.deBruijn64tab", laid_math_bits_deBruijn64tab)], narrowed := true }
def PartEnoughUptoSaid : Prop := partEnoughUptoRow.holds Tryd.pinned (OpenSpec.upto partEnoughSpec)

/-- 'trefoillaw16.PartMore', WHERE WHAT IT READS IS OF BULK AT MOST 1048576: true; the input reads as it did. -/
def partMoreUptoRow : OpenClaim := { program := "ytakebhleglnpjaadoor", sum := "a0a00617c26a8330299fc32458fb295e7351b4dc89d7b2a88c7e2dbefc98ab10", func := "trefoil/trefoillaw16.PartMore", spec := "partMore", unfollowed := true, recurses := true, named := ["math/bits.deBruijn32tab", "math/bits.deBruijn64tab"], apart := false, laid := [("math/bits.deBruijn32tab", laid_math_bits_deBruijn32tab), ("math/bits.deBruijn64tab", laid_math_bits_deBruijn64tab)], narrowed := true }
def PartMoreUptoSaid : Prop := partMoreUptoRow.holds Tryd.pinned (OpenSpec.upto partMoreSpec)

/-- 'trefoillaw16.PartOrder', WHERE WHAT IT READS IS OF BULK AT MOST 1048576: true; the input reads as it did. -/
def partOrderUptoRow : OpenClaim := { program := "ytakebhleglnpjaadoor", sum := "a0a00617c26a8330299fc32458fb295e7351b4dc89d7b2a88c7e2dbefc98ab10", func := "trefoil/trefoillaw16.PartOrder", spec := "partOrder", unfollowed := true, recurses := true, named := ["math/bits.deBruijn32tab", "math/bits.deBruijn64tab"], apart := false, laid := [("math/bits.deBruijn32tab", laid_math_bits_deBruijn32tab), ("math/bits.deBruijn64tab", laid_math_bits_deBruijn64tab)], narrowed := true }
def PartOrderUptoSaid : Prop := partOrderUptoRow.holds Tryd.pinned (OpenSpec.upto partOrderSpec)

/-- 'trefoillaw16.PartFirst', WHERE WHAT IT READS IS OF BULK AT MOST 1048576: true; the input reads as it did. -/
def partFirstUptoRow : OpenClaim := { program := "ytakebhleglnpjaadoor", sum := "a0a00617c26a8330299fc32458fb295e7351b4dc89d7b2a88c7e2dbefc98ab10", func := "trefoil/trefoillaw16.PartFirst", spec := "partFirst", unfollowed := true, recurses := true, named := ["math/bits.deBruijn32tab", "math/bits.deBruijn64tab"], apart := false, laid := [("math/bits.deBruijn32tab", laid_math_bits_deBruijn32tab), ("math/bits.deBruijn64tab", laid_math_bits_deBruijn64tab)], narrowed := true }
def PartFirstUptoSaid : Prop := partFirstUptoRow.holds Tryd.pinned (OpenSpec.upto partFirstSpec)

/-- 'trefoillaw16.PartWider', WHERE WHAT IT READS IS OF BULK AT MOST 1048576: true; the input reads as it did. -/
def partWiderUptoRow : OpenClaim := { program := "ytakebhleglnpjaadoor", sum := "a0a00617c26a8330299fc32458fb295e7351b4dc89d7b2a88c7e2dbefc98ab10", func := "trefoil/trefoillaw16.PartWider", spec := "partWider", unfollowed := true, recurses := true, named := ["math/bits.deBruijn32tab", "math/bits.deBruijn64tab"], apart := false, laid := [("math/bits.deBruijn32tab", laid_math_bits_deBruijn32tab), ("math/bits.deBruijn64tab", laid_math_bits_deBruijn64tab)], narrowed := true }
def PartWiderUptoSaid : Prop := partWiderUptoRow.holds Tryd.pinned (OpenSpec.upto partWiderSpec)

end Rows
end Go.Proofs.YtakebhleglnpjaaDoor
