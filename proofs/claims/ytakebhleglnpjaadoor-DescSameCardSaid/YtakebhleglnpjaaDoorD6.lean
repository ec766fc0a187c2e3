/- DescSame: what the law comes to. -/
import Derived.Test.YtakebhleglnpjaaDoorD5
namespace Go.Proofs.YtakebhleglnpjaaDoor
open Go Go.Proofs.YtakebhleglnpjaaDoorE
set_option linter.unusedVariables false
set_option linter.unusedSimpArgs false

set_option maxRecDepth 100000 in
theorem law_DescSame (d : DescT) (n : Int) (hd : DescOK d) (hn : I64 n) : evW ctx 8 [.d (descD true d), .d (intD n)] [] = some (.d (.bool true), []) := by
  rw [evW_K ctx 8 fn8 _ _ rfl rfl]
  conv => lhs; whnf
  rw [awake05, bnd_s]
  conv => lhs; whnf
  rw [br_t]
  conv => lhs; whnf
  rw [few_ev true d hd.short, bnd_s]
  conv => lhs; whnf
  by_cases hf : few d = true
  case neg =>
    rw [show few d = false by simpa using hf, br_f]
    conv => lhs; whnf
    rw [awake05, bnd_s]
    conv => lhs; whnf
    rw [br_t]
    conv => lhs; whnf
  case pos =>
    have hs := few_sized hf
    rw [hf, br_t]
    conv => lhs; whnf
    rw [own_ev true d hs, bnd_s]
    conv => lhs; whnf
    rw [own_ev true d hs, bnd_s]
    conv => lhs; whnf
    rw [own_ev true d hs, bnd_s]
    conv => lhs; whnf
    rw [own_ev true d hs, bnd_s]
    conv => lhs; whnf
    rw [same_ev false false d d hs.short, bnd_s]
    conv => lhs; whnf
    rw [decide_eq_true rfl, br_t]
    conv => lhs; whnf
    have e1 : (d = { d with period := n }) ↔ (n = d.period) := ⟨fun h => (congrArg DescT.period h).symm, fun h => by rw [h]⟩
    have e2 : (d = { d with deadline := n }) ↔ (n = d.deadline) := ⟨fun h => (congrArg DescT.deadline h).symm, fun h => by rw [h]⟩
    rw [same_ev true false d { d with period := n } hs.short, bnd_s]
    conv => lhs; whnf
    by_cases h1 : n = d.period
    · rw [decide_eq_true (e1.2 h1), br_t]
      conv => lhs; whnf
      rw [show (n == d.period) = true by simpa using h1, br_t]
      conv => lhs; whnf
      refine (br_tt (by rfl)).trans ?_
      conv => lhs; whnf
      rw [same_ev true false d { d with deadline := n } hs.short, bnd_s]
      conv => lhs; whnf
      by_cases h2 : n = d.deadline
      · rw [decide_eq_true (e2.2 h2), br_t]
        conv => lhs; whnf
        rw [show (n == d.deadline) = true by simpa using h2, br_t]
        conv => lhs; whnf
        refine (br_tt (by rfl)).trans ?_
        conv => lhs; whnf
      · rw [decide_eq_false (fun h => h2 (e2.1 h)), br_f]
        conv => lhs; whnf
        rw [show (n == d.deadline) = false by simpa using h2, br_f]
        conv => lhs; whnf
        refine (br_tt (by rfl)).trans ?_
        conv => lhs; whnf
    · rw [decide_eq_false (fun h => h1 (e1.1 h)), br_f]
      conv => lhs; whnf
      rw [show (n == d.period) = false by simpa using h1, br_f]
      conv => lhs; whnf
      refine (br_tt (by rfl)).trans ?_
      conv => lhs; whnf
      rw [same_ev true false d { d with deadline := n } hs.short, bnd_s]
      conv => lhs; whnf
      by_cases h2 : n = d.deadline
      · rw [decide_eq_true (e2.2 h2), br_t]
        conv => lhs; whnf
        rw [show (n == d.deadline) = true by simpa using h2, br_t]
        conv => lhs; whnf
        refine (br_tt (by rfl)).trans ?_
        conv => lhs; whnf
      · rw [decide_eq_false (fun h => h2 (e2.1 h)), br_f]
        conv => lhs; whnf
        rw [show (n == d.deadline) = false by simpa using h2, br_f]
        conv => lhs; whnf
        refine (br_tt (by rfl)).trans ?_
        conv => lhs; whnf

theorem ev_DescSame (xs : List D) (h : okLfs par27.1 xs) (ys : List D) (k : okLfs par3.1 ys) : ∃ H', evW ctx 8 (mapd [parD par27.2 xs, parD par3.2 ys]) [] = some (.d (.bool true), H') := by
  obtain ⟨d, hd, okd⟩ := desc_of h
  obtain ⟨n, hn, okn⟩ := int_of k
  refine ⟨[], ?_⟩
  show evW ctx 8 [.d (D.agg xs), .d (parD false ys)] [] = _
  rw [hd, hn]
  exact law_DescSame d n okd okn
end Go.Proofs.YtakebhleglnpjaaDoor
