/- Sorting, plainly: the recursion. -/
import Derived.Test.YtakebhleglnpjaaDoorQSortD
namespace Go.Proofs.YtakebhleglnpjaaDoor
open Go Go.Proofs.YtakebhleglnpjaaDoorE Go.Sort
set_option linter.unusedVariables false
set_option linter.unusedSimpArgs false

abbrev PdqS := Int × Int × Int × Bool × Bool × List Int
noncomputable def partF (e : Int → Int → Option Int) (rc : Int → Int → Int → (Int → Int → Option Int) → List Int → Option (List Int)) (a b limit pivot : Int) (x5 : List Int) : Option (PdqS ⊕ List Int) :=
  (g_slices_partitionCmpFunc_int a b pivot e x5).bind fun x9 =>
  match x9 with
  | .inl x9 =>
    bif decide (w64 (x9.1 - a) < w64 (b - x9.1)) then
      bif decide (w64 (Int.tdiv (w64 (b - a)) 8) ≤ w64 (x9.1 - a)) then (rc a x9.1 limit e x9.2).bind fun x10 => some (.inl (w64 (x9.1 + 1), b, limit, true, true, x10))
      else (rc a x9.1 limit e x9.2).bind fun x10 => some (.inl (w64 (x9.1 + 1), b, limit, false, true, x10))
    else
      bif decide (w64 (Int.tdiv (w64 (b - a)) 8) ≤ w64 (b - x9.1)) then (rc (w64 (x9.1 + 1)) b limit e x9.2).bind fun x10 => some (.inl (a, x9.1, limit, true, true, x10))
      else (rc (w64 (x9.1 + 1)) b limit e x9.2).bind fun x10 => some (.inl (a, x9.1, limit, false, true, x10))
  | .inr x9 =>
    bif decide (w64 (x9.1 - a) < w64 (b - x9.1)) then
      bif decide (w64 (Int.tdiv (w64 (b - a)) 8) ≤ w64 (x9.1 - a)) then (rc a x9.1 limit e x9.2).bind fun x10 => some (.inl (w64 (x9.1 + 1), b, limit, true, false, x10))
      else (rc a x9.1 limit e x9.2).bind fun x10 => some (.inl (w64 (x9.1 + 1), b, limit, false, false, x10))
    else
      bif decide (w64 (Int.tdiv (w64 (b - a)) 8) ≤ w64 (b - x9.1)) then (rc (w64 (x9.1 + 1)) b limit e x9.2).bind fun x10 => some (.inl (a, x9.1, limit, true, false, x10))
      else (rc (w64 (x9.1 + 1)) b limit e x9.2).bind fun x10 => some (.inl (a, x9.1, limit, false, false, x10))
noncomputable def tailF (e : Int → Int → Option Int) (rc : Int → Int → Int → (Int → Int → Option Int) → List Int → Option (List Int)) (a b limit pivot : Int) (wb wp : Bool) (x5 : List Int) : Option (PdqS ⊕ List Int) :=
  bif decide (0 < a) then
    (getI x5 (w64 (a - 1))).bind fun x6 => (getI x5 pivot).bind fun x7 => (e x6 x7).bind fun x8 =>
    bif decide (x8 < 0) then partF e rc a b limit pivot x5
    else (g_slices_partitionEqualCmpFunc_int a b pivot e x5).bind fun x18 => some (.inl (x18.1, b, limit, wb, wp, x18.2))
  else partF e rc a b limit pivot x5
theorem pdq_L0_eq (e : Int → Int → Option Int) (rc : Int → Int → Int → (Int → Int → Option Int) → List Int → Option (List Int)) (a b limit : Int) (wb wp : Bool) (l : List Int) : g_slices_pdqsortCmpFunc_int_L0 e rc (a, b, limit, wb, wp, l) =
    (bif decide (w64 (b - a) ≤ 12) then (g_slices_insertionSortCmpFunc_int a b e l).bind fun x => some (.inr x)
    else bif limit == 0 then (g_slices_heapSortCmpFunc_int a b e l).bind fun x => some (.inr x)
    else (bif wb then bif wp then
        (g_slices_choosePivotCmpFunc_int a b e l).bind fun x3 =>
        bif x3.2 == 2 then (g_slices_reverseRangeCmpFunc_int a b e l).bind fun x4 => (g_slices_partialInsertionSortCmpFunc_int a b e x4).bind fun x5 => (match x5 with | .inl x5 => some (.inr x5) | .inr x5 => tailF e rc a b limit (w64 (w64 (b - 1) - w64 (x3.1 - a))) true true x5)
        else bif x3.2 == 1 then (g_slices_partialInsertionSortCmpFunc_int a b e l).bind fun x5 => (match x5 with | .inl x5 => some (.inr x5) | .inr x5 => tailF e rc a b limit x3.1 true true x5)
        else tailF e rc a b limit x3.1 true true l
      else
        (g_slices_choosePivotCmpFunc_int a b e l).bind fun x3 =>
        bif x3.2 == 2 then (g_slices_reverseRangeCmpFunc_int a b e l).bind fun x4 => tailF e rc a b limit (w64 (w64 (b - 1) - w64 (x3.1 - a))) true false x4
        else tailF e rc a b limit x3.1 true false l
    else
      (g_slices_breakPatternsCmpFunc_int a b e l).bind fun x0 => (g_slices_choosePivotCmpFunc_int a b e x0).bind fun x3 =>
        bif x3.2 == 2 then (g_slices_reverseRangeCmpFunc_int a b e x0).bind fun x4 => tailF e rc a b (w64 (limit - 1)) (w64 (w64 (b - 1) - w64 (x3.1 - a))) false wp x4
        else tailF e rc a b (w64 (limit - 1)) x3.1 false wp x0)) := by
  cases wb <;> cases wp <;> rfl
end Go.Proofs.YtakebhleglnpjaaDoor
