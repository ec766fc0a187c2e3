/-
  No cell of these rows narrows 'for every input' (looked for: loops, veiled, ifaces, maps, wideKeys, modest, calm, conditions, laid).
  DERIVED. THE GIVEN ROWS OF THIS SEAT. 6 by the template 'for every input the law returns true; each argument reads behind the call as it read before'; 0 by the template 'total and deterministic' (their statements: YtgcfmiajkbbmeaaGreatTotals.lean).
  GIVEN WITH THE SEED: the statements are not yours to turn. If you find one false, say at which input.
  Laid BY PROGRAM, IN A SANDBOX (cutbox-rows.mjs): the forced cells as the released guide's own fill.sh prints them over the translation 660a07c56e3f159b… (all of the seat's roots in one cut). By AI agents, Wed Nov 11 2026. No macro, syntax, notation, axiom, sorry.
-/
import Derived.Test.YtgcfmiajkbbmeaaGreatChecked
import GoSem.Claim
import GoSem.ClaimJoined
import GoSem.ClaimMapViews
import Derived.JoinedTies
import Derived.KernelRfl
namespace Go.Proofs.YtgcfmiajkbbmeaaGreat
/- THE CELL 'sum', in the pinned program and in every row, IS THE sha256 OF THE DUMP (.gsa) THAT YtgcfmiajkbbmeaaGreatProg.lean LOADS. Nothing in Lean hashes anything: it is a label: what it is worth is what the hold of that sum in a sandbox is worth. -/
noncomputable def Tryz.pinned : Pinned := { name := "ytgcfmiajkbbmeaagreat", sum := "660a07c56e3f159b8761ca5a8703029b1fbe0f59ae5201da6d18cd840950ac1d", checked := Tryz.checked }
namespace Rows
def none {H : Type} : Left H := { results := [], args := [] }

/-- 'trefoillaw19.TeamStays': WHATEVER THE INPUT: true; the input reads as it did. -/
def teamStaysSpec : ChangeSpec := { name := "teamStays", fn := fun _ => fun
  | [d1, d2, d3] => { results := [.lit (.bool true)], args := [d1, d2, d3] }
  | _ => none }
def teamStaysRow : OpenClaim := { program := "ytgcfmiajkbbmeaagreat", sum := "660a07c56e3f159b8761ca5a8703029b1fbe0f59ae5201da6d18cd840950ac1d", func := "trefoil/trefoillaw19.TeamStays", spec := "teamStays", unfollowed := true, recurses := true, apart := false }
def TeamStaysSaid : Prop := teamStaysRow.holds Tryz.pinned (OpenSpec.ofChange teamStaysSpec)

/-- ITS FALSE NEIGHBOUR: 'it returns false'. Refute it at one input. -/
def teamStaysWrong : ChangeSpec := { name := "teamStays", fn := fun _ => fun
  | [d1, d2, d3] => { results := [.lit (.bool false)], args := [d1, d2, d3] }
  | _ => none }
def TeamStaysWrongFalsely : Prop := teamStaysRow.holds Tryz.pinned (OpenSpec.ofChange teamStaysWrong)

/-- 'trefoillaw19.TeamRuns': WHATEVER THE INPUT: true; the input reads as it did. -/
def teamRunsSpec : ChangeSpec := { name := "teamRuns", fn := fun _ => fun
  | [d1, d2, d3, d4, d5] => { results := [.lit (.bool true)], args := [d1, d2, d3, d4, d5] }
  | _ => none }
def teamRunsRow : OpenClaim := { program := "ytgcfmiajkbbmeaagreat", sum := "660a07c56e3f159b8761ca5a8703029b1fbe0f59ae5201da6d18cd840950ac1d", func := "trefoil/trefoillaw19.TeamRuns", spec := "teamRuns", unfollowed := true, recurses := true, apart := false }
def TeamRunsSaid : Prop := teamRunsRow.holds Tryz.pinned (OpenSpec.ofChange teamRunsSpec)

/-- ITS FALSE NEIGHBOUR: 'it returns false'. Refute it at one input. -/
def teamRunsWrong : ChangeSpec := { name := "teamRuns", fn := fun _ => fun
  | [d1, d2, d3, d4, d5] => { results := [.lit (.bool false)], args := [d1, d2, d3, d4, d5] }
  | _ => none }
def TeamRunsWrongFalsely : Prop := teamRunsRow.holds Tryz.pinned (OpenSpec.ofChange teamRunsWrong)

/-- 'trefoillaw19.TeamEnds': WHATEVER THE INPUT: true; the input reads as it did. -/
def teamEndsSpec : ChangeSpec := { name := "teamEnds", fn := fun _ => fun
  | [d1, d2, d3, d4] => { results := [.lit (.bool true)], args := [d1, d2, d3, d4] }
  | _ => none }
def teamEndsRow : OpenClaim := { program := "ytgcfmiajkbbmeaagreat", sum := "660a07c56e3f159b8761ca5a8703029b1fbe0f59ae5201da6d18cd840950ac1d", func := "trefoil/trefoillaw19.TeamEnds", spec := "teamEnds", unfollowed := true, recurses := true, apart := false }
def TeamEndsSaid : Prop := teamEndsRow.holds Tryz.pinned (OpenSpec.ofChange teamEndsSpec)

/-- ITS FALSE NEIGHBOUR: 'it returns false'. Refute it at one input. -/
def teamEndsWrong : ChangeSpec := { name := "teamEnds", fn := fun _ => fun
  | [d1, d2, d3, d4] => { results := [.lit (.bool false)], args := [d1, d2, d3, d4] }
  | _ => none }
def TeamEndsWrongFalsely : Prop := teamEndsRow.holds Tryz.pinned (OpenSpec.ofChange teamEndsWrong)

/-- 'trefoillaw19.TeamOne': WHATEVER THE INPUT: true; the input reads as it did. -/
def teamOneSpec : ChangeSpec := { name := "teamOne", fn := fun _ => fun
  | [d1, d2, d3, d4] => { results := [.lit (.bool true)], args := [d1, d2, d3, d4] }
  | _ => none }
def teamOneRow : OpenClaim := { program := "ytgcfmiajkbbmeaagreat", sum := "660a07c56e3f159b8761ca5a8703029b1fbe0f59ae5201da6d18cd840950ac1d", func := "trefoil/trefoillaw19.TeamOne", spec := "teamOne", unfollowed := true, recurses := true, apart := false }
def TeamOneSaid : Prop := teamOneRow.holds Tryz.pinned (OpenSpec.ofChange teamOneSpec)

/-- ITS FALSE NEIGHBOUR: 'it returns false'. Refute it at one input. -/
def teamOneWrong : ChangeSpec := { name := "teamOne", fn := fun _ => fun
  | [d1, d2, d3, d4] => { results := [.lit (.bool false)], args := [d1, d2, d3, d4] }
  | _ => none }
def TeamOneWrongFalsely : Prop := teamOneRow.holds Tryz.pinned (OpenSpec.ofChange teamOneWrong)

/-- 'trefoillaw19.TeamSched': WHATEVER THE INPUT: true; the input reads as it did. -/
def teamSchedSpec : ChangeSpec := { name := "teamSched", fn := fun _ => fun
  | [d1, d2, d3, d4, d5] => { results := [.lit (.bool true)], args := [d1, d2, d3, d4, d5] }
  | _ => none }
def teamSchedRow : OpenClaim := { program := "ytgcfmiajkbbmeaagreat", sum := "660a07c56e3f159b8761ca5a8703029b1fbe0f59ae5201da6d18cd840950ac1d", func := "trefoil/trefoillaw19.TeamSched", spec := "teamSched", unfollowed := true, recurses := true, apart := false }
def TeamSchedSaid : Prop := teamSchedRow.holds Tryz.pinned (OpenSpec.ofChange teamSchedSpec)

/-- ITS FALSE NEIGHBOUR: 'it returns false'. Refute it at one input. -/
def teamSchedWrong : ChangeSpec := { name := "teamSched", fn := fun _ => fun
  | [d1, d2, d3, d4, d5] => { results := [.lit (.bool false)], args := [d1, d2, d3, d4, d5] }
  | _ => none }
def TeamSchedWrongFalsely : Prop := teamSchedRow.holds Tryz.pinned (OpenSpec.ofChange teamSchedWrong)

/-- 'trefoillaw19.TeamBound': WHATEVER THE INPUT: true; the input reads as it did. -/
def teamBoundSpec : ChangeSpec := { name := "teamBound", fn := fun _ => fun
  | [d1, d2, d3, d4, d5] => { results := [.lit (.bool true)], args := [d1, d2, d3, d4, d5] }
  | _ => none }
def teamBoundRow : OpenClaim := { program := "ytgcfmiajkbbmeaagreat", sum := "660a07c56e3f159b8761ca5a8703029b1fbe0f59ae5201da6d18cd840950ac1d", func := "trefoil/trefoillaw19.TeamBound", spec := "teamBound", unfollowed := true, recurses := true, apart := false }
def TeamBoundSaid : Prop := teamBoundRow.holds Tryz.pinned (OpenSpec.ofChange teamBoundSpec)

/-- ITS FALSE NEIGHBOUR: 'it returns false'. Refute it at one input. -/
def teamBoundWrong : ChangeSpec := { name := "teamBound", fn := fun _ => fun
  | [d1, d2, d3, d4, d5] => { results := [.lit (.bool false)], args := [d1, d2, d3, d4, d5] }
  | _ => none }
def TeamBoundWrongFalsely : Prop := teamBoundRow.holds Tryz.pinned (OpenSpec.ofChange teamBoundWrong)

/- THE SECOND FORM. 'bulk': how many values and letters a reading holds, each counted each time it is reached (what is shared counts as often as it is met; a slice's spare places count too). A statement '..UptoSaid' is the law's where the arguments, and the package variables that the reading takes, are together of bulk at most 1048576: NARROWER than '..Said'. Prove '..Said' where nothing that the law and all that it calls make is longer than what came in: it says more and counts as full. Else prove '..UptoSaid'. A law counts once. -/
mutual
def uptoBulk {H : Type} : DataW H → Nat
  | .lit (.string bytes) => bytes.length + 1
  | .lit _ => 1
  | .nil => 1
  | .ptr d => uptoBulk d + 1
  | .slice elems spare => uptoBulkAll elems + uptoBulkAll spare + 1
  | .agg parts => uptoBulkAll parts + 1
  | .iface _ d => uptoBulk d + 1
  | .map entries => uptoBulkEntries entries + 1
  | .held _ => 1
def uptoBulkAll {H : Type} : List (DataW H) → Nat
  | [] => 0
  | d :: r => uptoBulk d + uptoBulkAll r
def uptoBulkEntries {H : Type} : List (Lit × DataW H) → Nat
  | [] => 0
  | x :: r => uptoBulkEntry x + uptoBulkEntries r
def uptoBulkEntry {H : Type} : Lit × DataW H → Nat
  | (.string bytes, d) => bytes.length + uptoBulk d + 1
  | (_, d) => uptoBulk d + 1
 end
def uptoSmall : (H : Type) → List (DataW H) → Bool := fun _ ds => decide (uptoBulkAll ds ≤ 1048576)
def OpenSpec.upto (s : _root_.Go.ChangeSpec) : _root_.Go.OpenSpec := { _root_.Go.OpenSpec.ofChange s with cond := some uptoSmall }

/-- 'trefoillaw19.TeamStays', WHERE WHAT IT READS IS OF BULK AT MOST 1048576: true; the input reads as it did. -/
def teamStaysUptoRow : OpenClaim := { program := "ytgcfmiajkbbmeaagreat", sum := "660a07c56e3f159b8761ca5a8703029b1fbe0f59ae5201da6d18cd840950ac1d", func := "trefoil/trefoillaw19.TeamStays", spec := "teamStays", unfollowed := true, recurses := true, apart := false, narrowed := true }
def TeamStaysUptoSaid : Prop := teamStaysUptoRow.holds Tryz.pinned (OpenSpec.upto teamStaysSpec)

/-- 'trefoillaw19.TeamRuns', WHERE WHAT IT READS IS OF BULK AT MOST 1048576: true; the input reads as it did. -/
def teamRunsUptoRow : OpenClaim := { program := "ytgcfmiajkbbmeaagreat", sum := "660a07c56e3f159b8761ca5a8703029b1fbe0f59ae5201da6d18cd840950ac1d", func := "trefoil/trefoillaw19.TeamRuns", spec := "teamRuns", unfollowed := true, recurses := true, apart := false, narrowed := true }
def TeamRunsUptoSaid : Prop := teamRunsUptoRow.holds Tryz.pinned (OpenSpec.upto teamRunsSpec)

/-- 'trefoillaw19.TeamEnds', WHERE WHAT IT READS IS OF BULK AT MOST 1048576: true; the input reads as it did. -/
def teamEndsUptoRow : OpenClaim := { program := "ytgcfmiajkbbmeaagreat", sum := "660a07c56e3f159b8761ca5a8703029b1fbe0f59ae5201da6d18cd840950ac1d", func := "trefoil/trefoillaw19.TeamEnds", spec := "teamEnds", unfollowed := true, recurses := true, apart := false, narrowed := true }
def TeamEndsUptoSaid : Prop := teamEndsUptoRow.holds Tryz.pinned (OpenSpec.upto teamEndsSpec)

/-- 'trefoillaw19.TeamOne', WHERE WHAT IT READS IS OF BULK AT MOST 1048576: true; the input reads as it did. -/
def teamOneUptoRow : OpenClaim := { program := "ytgcfmiajkbbmeaagreat", sum := "660a07c56e3f159b8761ca5a8703029b1fbe0f59ae5201da6d18cd840950ac1d", func := "trefoil/trefoillaw19.TeamOne", spec := "teamOne", unfollowed := true, recurses := true, apart := false, narrowed := true }
def TeamOneUptoSaid : Prop := teamOneUptoRow.holds Tryz.pinned (OpenSpec.upto teamOneSpec)

/-- 'trefoillaw19.TeamSched', WHERE WHAT IT READS IS OF BULK AT MOST 1048576: true; the input reads as it did. -/
def teamSchedUptoRow : OpenClaim := { program := "ytgcfmiajkbbmeaagreat", sum := "660a07c56e3f159b8761ca5a8703029b1fbe0f59ae5201da6d18cd840950ac1d", func := "trefoil/trefoillaw19.TeamSched", spec := "teamSched", unfollowed := true, recurses := true, apart := false, narrowed := true }
def TeamSchedUptoSaid : Prop := teamSchedUptoRow.holds Tryz.pinned (OpenSpec.upto teamSchedSpec)

/-- 'trefoillaw19.TeamBound', WHERE WHAT IT READS IS OF BULK AT MOST 1048576: true; the input reads as it did. -/
def teamBoundUptoRow : OpenClaim := { program := "ytgcfmiajkbbmeaagreat", sum := "660a07c56e3f159b8761ca5a8703029b1fbe0f59ae5201da6d18cd840950ac1d", func := "trefoil/trefoillaw19.TeamBound", spec := "teamBound", unfollowed := true, recurses := true, apart := false, narrowed := true }
def TeamBoundUptoSaid : Prop := teamBoundUptoRow.holds Tryz.pinned (OpenSpec.upto teamBoundSpec)

end Rows
end Go.Proofs.YtgcfmiajkbbmeaaGreat
