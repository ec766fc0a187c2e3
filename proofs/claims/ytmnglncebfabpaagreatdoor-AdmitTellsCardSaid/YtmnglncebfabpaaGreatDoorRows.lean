/-
  NARROWER THAN 'FOR EVERY INPUT', by the rows' own cells (each row's printed sentence says how): AdmitTells: laid · AdmitPlans: laid · AdmitEnough: laid · AdmitMore: laid · AdmitLess: laid · AdmitSound: laid.
  DERIVED. THE GIVEN ROWS OF THIS SEAT. 6 by the template 'for every input the law returns true; each argument reads behind the call as it read before'; 0 by the template 'total and deterministic' (their statements: YtmnglncebfabpaaGreatDoorTotals.lean).
  GIVEN WITH THE SEED: the statements are not yours to turn. If you find one false, say at which input.
  Laid BY PROGRAM, IN A SANDBOX (cutbox-rows.mjs): the forced cells as the released guide's own fill.sh prints them over the translation d5317b15c768408b… (all of the seat's roots in one cut). By AI agents, Wed Nov 11 2026. No macro, syntax, notation, axiom, sorry.
-/
import Derived.Test.YtmnglncebfabpaaGreatDoorChecked
import GoSem.Claim
import GoSem.ClaimJoined
import GoSem.ClaimMapViews
import Derived.JoinedTies
import Derived.KernelRfl
namespace Go.Proofs.YtmnglncebfabpaaGreatDoor
/- THE CELL 'sum', in the pinned program and in every row, IS THE sha256 OF THE DUMP (.gsa) THAT YtmnglncebfabpaaGreatDoorProg.lean LOADS. Nothing in Lean hashes anything: it is a label: what it is worth is what the hold of that sum in a sandbox is worth. -/
noncomputable def Tryz.pinned : Pinned := { name := "ytmnglncebfabpaagreatdoor", sum := "d5317b15c768408bee1570dbd75720b98829828cf86989924a128927a6a44bde", checked := Tryz.checked }
namespace Rows
def none {H : Type} : Left H := { results := [], args := [] }

/- WHAT THE LISTED PACKAGE-LEVEL VARIABLES READ AS WHEN THE CALL BEGINS. Each datum BY PROGRAM (the guide's laid-datum.mjs) off the statement by which the dump's own 'gosem.cut.vars' lays the variable. In a bare row this is a premise. The card (YtmnglncebfabpaaGreatDoorCards.lean) ties it to the program's text. -/
def laid_math_bits_deBruijn32tab {H : Type} : DataW H := .agg [.lit (.int .u8 0), .lit (.int .u8 1), .lit (.int .u8 28), .lit (.int .u8 2), .lit (.int .u8 29), .lit (.int .u8 14), .lit (.int .u8 24), .lit (.int .u8 3), .lit (.int .u8 30), .lit (.int .u8 22), .lit (.int .u8 20), .lit (.int .u8 15), .lit (.int .u8 25), .lit (.int .u8 17), .lit (.int .u8 4), .lit (.int .u8 8), .lit (.int .u8 31), .lit (.int .u8 27), .lit (.int .u8 13), .lit (.int .u8 23), .lit (.int .u8 21), .lit (.int .u8 19), .lit (.int .u8 16), .lit (.int .u8 7), .lit (.int .u8 26), .lit (.int .u8 12), .lit (.int .u8 18), .lit (.int .u8 6), .lit (.int .u8 11), .lit (.int .u8 5), .lit (.int .u8 10), .lit (.int .u8 9)]
def laid_math_bits_deBruijn64tab {H : Type} : DataW H := .agg [.lit (.int .u8 0), .lit (.int .u8 1), .lit (.int .u8 56), .lit (.int .u8 2), .lit (.int .u8 57), .lit (.int .u8 49), .lit (.int .u8 28), .lit (.int .u8 3), .lit (.int .u8 61), .lit (.int .u8 58), .lit (.int .u8 42), .lit (.int .u8 50), .lit (.int .u8 38), .lit (.int .u8 29), .lit (.int .u8 17), .lit (.int .u8 4), .lit (.int .u8 62), .lit (.int .u8 47), .lit (.int .u8 59), .lit (.int .u8 36), .lit (.int .u8 45), .lit (.int .u8 43), .lit (.int .u8 51), .lit (.int .u8 22), .lit (.int .u8 53), .lit (.int .u8 39), .lit (.int .u8 33), .lit (.int .u8 30), .lit (.int .u8 24), .lit (.int .u8 18), .lit (.int .u8 12), .lit (.int .u8 5), .lit (.int .u8 63), .lit (.int .u8 55), .lit (.int .u8 48), .lit (.int .u8 27), .lit (.int .u8 60), .lit (.int .u8 41), .lit (.int .u8 37), .lit (.int .u8 16), .lit (.int .u8 46), .lit (.int .u8 35), .lit (.int .u8 44), .lit (.int .u8 21), .lit (.int .u8 52), .lit (.int .u8 32), .lit (.int .u8 23), .lit (.int .u8 11), .lit (.int .u8 54), .lit (.int .u8 26), .lit (.int .u8 40), .lit (.int .u8 15), .lit (.int .u8 34), .lit (.int .u8 20), .lit (.int .u8 31), .lit (.int .u8 10), .lit (.int .u8 25), .lit (.int .u8 14), .lit (.int .u8 19), .lit (.int .u8 9), .lit (.int .u8 13), .lit (.int .u8 8), .lit (.int .u8 7), .lit (.int .u8 6)]

/-- 'trefoillaw17.AdmitTells': WHATEVER THE INPUT: true; the input reads as it did. -/
def admitTellsSpec : ChangeSpec := { name := "admitTells", fn := fun _ => fun
  | [d1, d2] => { results := [.lit (.bool true)], args := [d1, d2] }
  | _ => none }
def admitTellsRow : OpenClaim := { program := "ytmnglncebfabpaagreatdoor", sum := "d5317b15c768408bee1570dbd75720b98829828cf86989924a128927a6a44bde", func := "trefoil/trefoillaw17.AdmitTells", spec := "admitTells", unfollowed := true, recurses := true, named := ["math/bits.deBruijn32tab", "math/bits.deBruijn64tab"], plainKeys := false, apart := false, laid := [("math/bits.deBruijn32tab", laid_math_bits_deBruijn32tab), ("math/bits.deBruijn64tab", laid_math_bits_deBruijn64tab)] }
def AdmitTellsSaid : Prop := admitTellsRow.holds Tryz.pinned (OpenSpec.ofChange admitTellsSpec)

/-- ITS FALSE NEIGHBOUR: 'it returns false'. Refute it at one input. -/
def admitTellsWrong : ChangeSpec := { name := "admitTells", fn := fun _ => fun
  | [d1, d2] => { results := [.lit (.bool false)], args := [d1, d2] }
  | _ => none }
def AdmitTellsWrongFalsely : Prop := admitTellsRow.holds Tryz.pinned (OpenSpec.ofChange admitTellsWrong)

/-- 'trefoillaw17.AdmitPlans': WHATEVER THE INPUT: true; the input reads as it did. -/
def admitPlansSpec : ChangeSpec := { name := "admitPlans", fn := fun _ => fun
  | [d1, d2, d3, d4] => { results := [.lit (.bool true)], args := [d1, d2, d3, d4] }
  | _ => none }
def admitPlansRow : OpenClaim := { program := "ytmnglncebfabpaagreatdoor", sum := "d5317b15c768408bee1570dbd75720b98829828cf86989924a128927a6a44bde", func := "trefoil/trefoillaw17.AdmitPlans", spec := "admitPlans", unfollowed := true, recurses := true, named := ["math/bits.deBruijn32tab", "math/bits.deBruijn64tab"], plainKeys := false, apart := false, laid := [("math/bits.deBruijn32tab", laid_math_bits_deBruijn32tab), ("math/bits.deBruijn64tab", laid_math_bits_deBruijn64tab)] }
def AdmitPlansSaid : Prop := admitPlansRow.holds Tryz.pinned (OpenSpec.ofChange admitPlansSpec)

/-- ITS FALSE NEIGHBOUR: 'it returns false'. Refute it at one input. -/
def admitPlansWrong : ChangeSpec := { name := "admitPlans", fn := fun _ => fun
  | [d1, d2, d3, d4] => { results := [.lit (.bool false)], args := [d1, d2, d3, d4] }
  | _ => none }
def AdmitPlansWrongFalsely : Prop := admitPlansRow.holds Tryz.pinned (OpenSpec.ofChange admitPlansWrong)

/-- 'trefoillaw17.AdmitEnough': WHATEVER THE INPUT: true; the input reads as it did. -/
def admitEnoughSpec : ChangeSpec := { name := "admitEnough", fn := fun _ => fun
  | [d1, d2] => { results := [.lit (.bool true)], args := [d1, d2] }
  | _ => none }
def admitEnoughRow : OpenClaim := { program := "ytmnglncebfabpaagreatdoor", sum := "d5317b15c768408bee1570dbd75720b98829828cf86989924a128927a6a44bde", func := "trefoil/trefoillaw17.AdmitEnough", spec := "admitEnough", unfollowed := true, recurses := true, named := ["math/bits.deBruijn32tab", "math/bits.deBruijn64tab"], plainKeys := false, apart := false, laid := [("math/bits.deBruijn32tab", laid_math_bits_deBruijn32tab), ("math/bits.deBruijn64tab", laid_math_bits_deBruijn64tab)] }
def AdmitEnoughSaid : Prop := admitEnoughRow.holds Tryz.pinned (OpenSpec.ofChange admitEnoughSpec)

/-- ITS FALSE NEIGHBOUR: 'it returns false'. Refute it at one input. -/
def admitEnoughWrong : ChangeSpec := { name := "admitEnough", fn := fun _ => fun
  | [d1, d2] => { results := [.lit (.bool false)], args := [d1, d2] }
  | _ => none }
def AdmitEnoughWrongFalsely : Prop := admitEnoughRow.holds Tryz.pinned (OpenSpec.ofChange admitEnoughWrong)

/-- 'trefoillaw17.AdmitMore': WHATEVER THE INPUT: true; the input reads as it did. -/
def admitMoreSpec : ChangeSpec := { name := "admitMore", fn := fun _ => fun
  | [d1, d2] => { results := [.lit (.bool true)], args := [d1, d2] }
  | _ => none }
def admitMoreRow : OpenClaim := { program := "ytmnglncebfabpaagreatdoor", sum := "d5317b15c768408bee1570dbd75720b98829828cf86989924a128927a6a44bde", func := "trefoil/trefoillaw17.AdmitMore", spec := "admitMore", unfollowed := true, recurses := true, named := ["math/bits.deBruijn32tab", "math/bits.deBruijn64tab"], plainKeys := false, apart := false, laid := [("math/bits.deBruijn32tab", laid_math_bits_deBruijn32tab), ("math/bits.deBruijn64tab", laid_math_bits_deBruijn64tab)] }
def AdmitMoreSaid : Prop := admitMoreRow.holds Tryz.pinned (OpenSpec.ofChange admitMoreSpec)

/-- ITS FALSE NEIGHBOUR: 'it returns false'. Refute it at one input. -/
def admitMoreWrong : ChangeSpec := { name := "admitMore", fn := fun _ => fun
  | [d1, d2] => { results := [.lit (.bool false)], args := [d1, d2] }
  | _ => none }
def AdmitMoreWrongFalsely : Prop := admitMoreRow.holds Tryz.pinned (OpenSpec.ofChange admitMoreWrong)

/-- 'trefoillaw17.AdmitLess': WHATEVER THE INPUT: true; the input reads as it did. -/
def admitLessSpec : ChangeSpec := { name := "admitLess", fn := fun _ => fun
  | [d1, d2] => { results := [.lit (.bool true)], args := [d1, d2] }
  | _ => none }
def admitLessRow : OpenClaim := { program := "ytmnglncebfabpaagreatdoor", sum := "d5317b15c768408bee1570dbd75720b98829828cf86989924a128927a6a44bde", func := "trefoil/trefoillaw17.AdmitLess", spec := "admitLess", unfollowed := true, recurses := true, named := ["math/bits.deBruijn32tab", "math/bits.deBruijn64tab"], plainKeys := false, apart := false, laid := [("math/bits.deBruijn32tab", laid_math_bits_deBruijn32tab), ("math/bits.deBruijn64tab", laid_math_bits_deBruijn64tab)] }
def AdmitLessSaid : Prop := admitLessRow.holds Tryz.pinned (OpenSpec.ofChange admitLessSpec)

/-- ITS FALSE NEIGHBOUR: 'it returns false'. Refute it at one input. -/
def admitLessWrong : ChangeSpec := { name := "admitLess", fn := fun _ => fun
  | [d1, d2] => { results := [.lit (.bool false)], args := [d1, d2] }
  | _ => none }
def AdmitLessWrongFalsely : Prop := admitLessRow.holds Tryz.pinned (OpenSpec.ofChange admitLessWrong)

/-- 'trefoillaw17.AdmitSound': WHATEVER THE INPUT: true; the input reads as it did. -/
def admitSoundSpec : ChangeSpec := { name := "admitSound", fn := fun _ => fun
  | [d1, d2, d3] => { results := [.lit (.bool true)], args := [d1, d2, d3] }
  | _ => none }
def admitSoundRow : OpenClaim := { program := "ytmnglncebfabpaagreatdoor", sum := "d5317b15c768408bee1570dbd75720b98829828cf86989924a128927a6a44bde", func := "trefoil/trefoillaw17.AdmitSound", spec := "admitSound", unfollowed := true, recurses := true, named := ["math/bits.deBruijn32tab", "math/bits.deBruijn64tab"], plainKeys := false, apart := false, laid := [("math/bits.deBruijn32tab", laid_math_bits_deBruijn32tab), ("math/bits.deBruijn64tab", laid_math_bits_deBruijn64tab)] }
def AdmitSoundSaid : Prop := admitSoundRow.holds Tryz.pinned (OpenSpec.ofChange admitSoundSpec)

/-- ITS FALSE NEIGHBOUR: 'it returns false'. Refute it at one input. -/
def admitSoundWrong : ChangeSpec := { name := "admitSound", fn := fun _ => fun
  | [d1, d2, d3] => { results := [.lit (.bool false)], args := [d1, d2, d3] }
  | _ => none }
def AdmitSoundWrongFalsely : Prop := admitSoundRow.holds Tryz.pinned (OpenSpec.ofChange admitSoundWrong)

/- THE SECOND FORM. 'bulk': how many values and letters a reading holds, each counted each time it is reached (what is shared counts as often as it is met; a slice's spare places count too). A statement '..UptoSaid' is the law's where the arguments, and the package variables that the reading takes, are together of bulk at most 1048576: NARROWER than '..Said'. Prove '..Said' where nothing that the law and all that it calls make is longer than what came in: it says more and counts as full. Else prove '..UptoSaid'. A law counts once. -/
mutual
def uptoBulk {H : Type} : DataW H → Nat
  | .lit (.string bytes) => bytes.length + 1
  | .lit _ => 1
  | .nil => 1
  | .ptr d => uptoBulk d + 1
  | .slice elems spare => uptoBulkAll elems + uptoBulkAll spare + 1
  | .agg parts => uptoBulkAll parts + 1
  | .iface _ d => uptoBulk d + 1
  | .map entries => uptoBulkEntries entries + 1
  | .held _ => 1
def uptoBulkAll {H : Type} : List (DataW H) → Nat
  | [] => 0
  | d :: r => uptoBulk d + uptoBulkAll r
def uptoBulkEntries {H : Type} : List (Lit × DataW H) → Nat
  | [] => 0
  | x :: r => uptoBulkEntry x + uptoBulkEntries r
def uptoBulkEntry {H : Type} : Lit × DataW H → Nat
  | (.string bytes, d) => bytes.length + uptoBulk d + 1
  | (_, d) => uptoBulk d + 1
 end
def uptoSmall : (H : Type) → List (DataW H) → Bool := fun _ ds => decide (uptoBulkAll ds ≤ 1048576)
def OpenSpec.upto (s : _root_.Go.ChangeSpec) : _root_.Go.OpenSpec := { _root_.Go.OpenSpec.ofChange s with cond := some uptoSmall }

/-- 'trefoillaw17.AdmitTells', WHERE WHAT IT READS IS OF BULK AT MOST 1048576: true; the input reads as it did. -/
def admitTellsUptoRow : OpenClaim := { program := "ytmnglncebfabpaagreatdoor", sum := "d5317b15c768408bee1570dbd75720b98829828cf86989924a128927a6a44bde", func := "trefoil/trefoillaw17.AdmitTells", spec := "admitTells", unfollowed := true, recurses := true, named := ["math/bits.deBruijn32tab", "math/bits.deBruijn64tab"], plainKeys := false, apart := false, laid := [("math/bits.deBruijn32tab", laid_math_bits_deBruijn32tab), ("math/bits.deBruijn64tab", laid_math_bits_deBruijn64tab)], narrowed := true }
def AdmitTellsUptoSaid : Prop := admitTellsUptoRow.holds Tryz.pinned (OpenSpec.upto admitTellsSpec)

/-- 'trefoillaw17.AdmitPlans', WHERE WHAT IT READS IS OF BULK AT MOST 1048576: true; the input reads as it did. -/
def admitPlansUptoRow : OpenClaim := { program := "ytmnglncebfabpaagreatdoor", sum := "d5317b15c768408bee1570dbd75720b98829828cf86989924a128927a6a44bde", func := "trefoil/trefoillaw17.AdmitPlans", spec := "admitPlans", unfollowed := true, recurses := true, named := ["math/bits.deBruijn32tab", "math/bits.deBruijn64tab"], plainKeys := false, apart := false, laid := [("math/bits.deBruijn32tab", laid_math_bits_deBruijn32tab), ("math/bits.deBruijn64tab", laid_math_bits_deBruijn64tab)], narrowed := true }
def AdmitPlansUptoSaid : Prop := admitPlansUptoRow.holds Tryz.pinned (OpenSpec.upto admitPlansSpec)

/-- 'trefoillaw17.AdmitEnough', WHERE WHAT IT READS IS OF BULK AT MOST 1048576: true; the input reads as it did. -/
def admitEnoughUptoRow : OpenClaim := { program := "ytmnglncebfabpaagreatdoor", sum := "d5317b15c768408bee1570dbd75720b98829828cf86989924a128927a6a44bde", func := "trefoil/trefoillaw17.AdmitEnough", spec := "admitEnough", unfollowed := true, recurses := true, named := ["math/bits.deBruijn32tab", "math/bits.deBruijn64tab"], plainKeys := false, apart := false, laid := [("math/bits.deBruijn32tab", laid_math_bits_deBruijn32tab), ("math/bits.deBruijn64tab", laid_math_bits_deBruijn64tab)], narrowed := true }
def AdmitEnoughUptoSaid : Prop := admitEnoughUptoRow.holds Tryz.pinned (OpenSpec.upto admitEnoughSpec)

/-- 'trefoillaw17.AdmitMore', WHERE WHAT IT READS IS OF BULK AT MOST 1048576: true; the input reads as it did. -/
def admitMoreUptoRow : OpenClaim := { program := "ytmnglncebfabpaagreatdoor", sum := "d5317b15c768408bee1570dbd75720b98829828cf86989924a128927a6a44bde", func := "trefoil/trefoillaw17.AdmitMore", spec := "admitMore", unfollowed := true, recurses := true, named := ["math/bits.deBruijn32tab", "math/bits.deBruijn64tab"], plainKeys := false, apart := false, laid := [("math/bits.deBruijn32tab", laid_math_bits_deBruijn32tab), ("math/bits.deBruijn64tab", laid_math_bits_deBruijn64tab)], narrowed := true }
def AdmitMoreUptoSaid : Prop := admitMoreUptoRow.holds Tryz.pinned (OpenSpec.upto admitMoreSpec)

/-- 'trefoillaw17.AdmitLess', WHERE WHAT IT READS IS OF BULK AT MOST 1048576: true; the input reads as it did. -/
def admitLessUptoRow : OpenClaim := { program := "ytmnglncebfabpaagreatdoor", sum := "d5317b15c768408bee1570dbd75720b98829828cf86989924a128927a6a44bde", func := "trefoil/trefoillaw17.AdmitLess", spec := "admitLess", unfollowed := true, recurses := true, named := ["math/bits.deBruijn32tab", "math/bits.deBruijn64tab"], plainKeys := false, apart := false, laid := [("math/bits.deBruijn32tab", laid_math_bits_deBruijn32tab), ("math/bits.deBruijn64tab", laid_math_bits_deBruijn64tab)], narrowed := true }
def AdmitLessUptoSaid : Prop := admitLessUptoRow.holds Tryz.pinned (OpenSpec.upto admitLessSpec)

/-- 'trefoillaw17.AdmitSound', WHERE WHAT IT READS IS OF BULK AT MOST 1048576: true; the input reads as it did. -/
def admitSoundUptoRow : OpenClaim := { program := "ytmnglncebfabpaagreatdoor", sum := "d5317b15c768408bee1570dbd75720b98829828cf86989924a128927a6a44bde", func := "trefoil/trefoillaw17.AdmitSound", spec := "admitSound", unfollowed := true, recurses := true, named := ["math/bits.deBruijn32tab", "math/bits.deBruijn64tab"], plainKeys := false, apart := false, laid := [("math/bits.deBruijn32tab", laid_math_bits_deBruijn32tab), ("math/bits.deBruijn64tab", laid_math_bits_deBruijn64tab)], narrowed := true }
def AdmitSoundUptoSaid : Prop := admitSoundUptoRow.holds Tryz.pinned (OpenSpec.upto admitSoundSpec)

end Rows
end Go.Proofs.YtmnglncebfabpaaGreatDoor
