/- ClassTells: what the law comes to. -/
import Derived.Test.YtljgncbdagmeeaaDoorRClass
import Derived.Test.YtljgncbdagmeeaaDoorWClassTells
import Derived.Test.YtljgncbdagmeeaaDoorK3
namespace Go.Proofs.YtljgncbdagmeeaaDoor
open Go Go.Proofs.YtljgncbdagmeeaaDoorE
set_option linter.unusedVariables false
set_option linter.unusedSimpArgs false

theorem law_ClassTells (s : ShapeT) (c : Int) : g_law14_ClassTells s c = some true := by
  unfold g_law14_ClassTells
  simp only [g_law14_awake, Option.bind_some, cond_true, cores_p, ref14_cores_p, ref14_check_p, class_p, bound_p, ref14_bound_p, beq_self_eq_true]
  cases h : okShape s with
  | false =>
    have hh : g_class_Heavy s = some false := by unfold g_class_Heavy; rw [class_p, h]; rfl
    simp only [hh, Option.bind_some, cond_false]
    rfl
  | true =>
    simp only [heavy_p s h, Option.bind_some, cond_true, beq_self_eq_true]
    cases decide (s.deadline < s.total) <;> rfl

theorem ev_ClassTells (xs : List D) (h : okLfs par63.1 xs) (ys : List D) (k : okLfs par3.1 ys) : ∃ H', evW ctx 10 (mapd [parD par63.2 xs, parD par3.2 ys]) [] = some (.d (.bool true), H') := by
  obtain ⟨s, hs⟩ := shape_par h
  obtain ⟨n, hn, okn⟩ := int_of k
  show ∃ H', evW ctx 10 [.d (D.agg xs), .d (parD false ys)] [] = _
  rw [hs, hn]
  exact evD_true (g_law14_ClassTells_ok s n true (law_ClassTells s n))
end Go.Proofs.YtljgncbdagmeeaaDoor
