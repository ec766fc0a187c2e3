/- DescChecks: what the law comes to. -/
import Derived.Test.YtakebhleglnpjaaDoorP05d
import Derived.Test.YtakebhleglnpjaaDoorWDescChecks
import Derived.Test.YtakebhleglnpjaaDoorI3
namespace Go.Proofs.YtakebhleglnpjaaDoor
open Go Go.Proofs.YtakebhleglnpjaaDoorE
set_option linter.unusedVariables false
set_option linter.unusedSimpArgs false

theorem law_DescChecks (a b : DescT) : g_law05_DescChecks a b = some true := by
  unfold g_law05_DescChecks
  simp only [g_law05_awake, few_p, Option.bind_some, cond_true]
  cases ha : few a with
  | false => rfl
  | true =>
    cases hb : few b with
    | false => rfl
    | true =>
      have sa := few_sized ha
      have sb := few_sized hb
      simp only [own_p a sa, own_p b sb, Option.bind_some, check_p a sa.short, ref_check a sa.short, same_p a b sa.short, ref_same a b sa.short, beq_self_eq_true, cond_true]
      cases decide (a = b) <;> rfl

theorem ev_DescChecks (xs : List D) (h : okLfs par27.1 xs) (ys : List D) (k : okLfs par27.1 ys) : ∃ H', evW ctx 3 (mapd [parD par27.2 xs, parD par27.2 ys]) [] = some (.d (.bool true), H') := by
  obtain ⟨d, hd, okd⟩ := desc_of h
  obtain ⟨e, he, oke⟩ := desc_of k
  show ∃ H', evW ctx 3 [.d (D.agg xs), .d (D.agg ys)] [] = _
  rw [hd, he]
  exact evD_true (g_law05_DescChecks_ok true true true true true true true true d e true (law_DescChecks d e))
end Go.Proofs.YtakebhleglnpjaaDoor
