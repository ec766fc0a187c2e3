/- EvalOps: what the law comes to. -/
import Derived.Test.YtljgncbdagmeeaaDoorSOps
import Derived.Test.YtljgncbdagmeeaaDoorWEvalOps
import Derived.Test.YtljgncbdagmeeaaDoorL3
import Derived.Test.YtljgncbdagmeeaaDoorE33
namespace Go.Proofs.YtljgncbdagmeeaaDoor
open Go Go.Proofs.YtljgncbdagmeeaaDoorE
set_option linter.unusedVariables false
set_option linter.unusedSimpArgs false

theorem law_EvalOps (p : PartT) (input vals : List Int) (hp : PartOK p) (hi : Ints input) (hv : Ints vals) : g_law08_EvalOps p input vals = some true := by
  unfold g_law08_EvalOps
  simp only [g_law08_awake, Option.bind_some, cond_true]
  by_cases h1 : (60 : Int) < (input.length : Int)
  · rw [decide_eq_true h1]; rfl
  by_cases h2 : (60 : Int) < (vals.length : Int)
  · rw [decide_eq_false h1, decide_eq_true h2]; rfl
  have hb := opV_b p input vals
  rw [decide_eq_false h1, decide_eq_false h2, lim_t (by omega), lim_t (by omega), evalOp_p p input vals (by omega) (by omega), ref08Op_p p input vals (by omega) (by omega) hp.2.1 hi.2 hv.2]
  simp only [cond_false, cond_true, Option.bind_some, beq_self_eq_true, decide_eq_true hb.1, decide_eq_true (show opV p input vals ≤ 4294967295 by omega)]

theorem part_of {xs : List D} (h : okLfs [.int .i64, .int .i64, .int .i64] xs) : ∃ p, D.agg xs = partD p ∧ PartOK p := by
  obtain ⟨_, _, rfl, ⟨a, rfl, wa⟩, _, _, rfl, ⟨b, rfl, wb⟩, _, _, rfl, ⟨c, rfl, wc⟩, rfl⟩ := h
  exact ⟨⟨a, b, c⟩, rfl, i64_of wa, i64_of wb, i64_of wc⟩
theorem intl_of {xs : List D} (h : okLfs [.sl false [.int .i64]] xs) : ∃ l, parD false xs = intsD true l ∧ Ints l := by
  obtain ⟨_, _, rfl, h1, rfl⟩ := h
  obtain ⟨l, rfl, h2⟩ := ints_of h1
  exact ⟨l, rfl, h2⟩
theorem ev_EvalOps (xs : List D) (h : okLfs par50.1 xs) (ys : List D) (k : okLfs par30.1 ys) (zs : List D) (m : okLfs par30.1 zs) :
    ∃ H', evW ctx 13 (mapd [parD par50.2 xs, parD par30.2 ys, parD par30.2 zs]) [] = some (.d (.bool true), H') := by
  obtain ⟨p, hp, okp⟩ := part_of h
  obtain ⟨a, ha, oka⟩ := intl_of k
  obtain ⟨b, hb, okb⟩ := intl_of m
  show ∃ H', evW ctx 13 [.d (D.agg xs), .d (parD false ys), .d (parD false zs)] [] = _
  rw [hp, ha, hb]
  exact evD_true (g_law08_EvalOps_ok true true p a b true (law_EvalOps p a b okp oka okb))
end Go.Proofs.YtljgncbdagmeeaaDoor
