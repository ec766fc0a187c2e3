/- Graphs: how large, and whether two are the same, plainly. -/
import Derived.Test.YtljgncbdagmeeaaDoorS1
import Derived.Test.YtljgncbdagmeeaaDoorE36
import Derived.Test.YtljgncbdagmeeaaDoorE33
namespace Go.Proofs.YtljgncbdagmeeaaDoor
open Go Go.Proofs.YtljgncbdagmeeaaDoorE
set_option linter.unusedVariables false
set_option linter.unusedSimpArgs false

theorem neq_len {γ δ : Type} (a : List γ) (b : List δ) : (((a.length : Int)) != (b.length : Int)) = !decide (a.length = b.length) := by
  by_cases h : a.length = b.length
  · rw [decide_eq_true h, h]; simp
  · rw [decide_eq_false h]
    have : ((a.length : Int)) ≠ (b.length : Int) := by omega
    simp [bne_iff_ne.2 this]
theorem sameE_dec (x y : EdgeT) : ((x.src == y.src) && ((x.dst == y.dst) && true)) = decide (x = y) := by
  cases x; cases y
  simp [EdgeT.mk.injEq, Bool.beq_eq_decide_eq]
theorem neInt_dec (x y : Int) : (x != y) = !decide (x = y) := by
  by_cases h : x = y
  · subst h; simp
  · rw [decide_eq_false h]; simpa using h

/-- a comparison of two lists: the whole -/
theorem eqList_end {γ : Type} [DecidableEq γ] (a b : List γ) (L : Option (Unit ⊕ Unit)) (h : a.length = b.length → L = some (bif decide (a = b) then .inr () else .inl ())) :
    (bif ((a.length : Int) != (b.length : Int)) then some false else L.bind fun r => match r with | .inl _ => some false | .inr _ => some true) = some (decide (a = b)) := by
  rw [neq_len]
  by_cases hl : a.length = b.length
  · rw [decide_eq_true hl, h hl]
    cases decide (a = b) <;> rfl
  · rw [decide_eq_false hl, decide_eq_false (fun e => hl (by rw [e]))]
    rfl
theorem eqInts_p (a b : List Int) (ha : a.length < 9223372036854775808) : g_slices_Equal_l_int_int a b = some (decide (a = b)) := by
  unfold g_slices_Equal_l_int_int
  refine eqList_end a b _ fun hl => lp_same a b hl _ (fun i x y hi hx hy => ?_) ?_
  · simp only [g_slices_Equal_l_int_int_L0, lt_t hi, at_some hx, at_some hy, Option.bind_some, w64_succ hi ha, cond_true, neInt_dec]
    cases decide (x = y) <;> rfl
  · simp only [g_slices_Equal_l_int_int_L0, lt_f]; rfl
theorem eqEdges_p (a b : List EdgeT) (ha : a.length < 9223372036854775808) : g_slices_Equal_l_Edge_Edge a b = some (decide (a = b)) := by
  unfold g_slices_Equal_l_Edge_Edge
  refine eqList_end a b _ fun hl => lp_same a b hl _ (fun i x y hi hx hy => ?_) ?_
  · simp only [g_slices_Equal_l_Edge_Edge_L0, lt_t hi, at_some hx, at_some hy, Option.bind_some, w64_succ hi ha, cond_true, sameE_dec]
    cases decide (x = y) <;> rfl
  · simp only [g_slices_Equal_l_Edge_Edge_L0, lt_f]; rfl
theorem dagEq (a b : DagT) : (decide (a.work = b.work) && decide (a.edges = b.edges)) = decide (a = b) := by
  cases a; cases b
  simp [DagT.mk.injEq]
theorem dagSame_p (a b : DagT) (h1 : a.work.length < 9223372036854775808) (h2 : a.edges.length < 9223372036854775808) : g_dag_Same a b = some (decide (a = b)) := by
  unfold g_dag_Same
  simp only [eqInts_p _ _ h1, eqEdges_p _ _ h2, Option.bind_some, ← dagEq]
  cases decide (a.work = b.work) <;> cases decide (a.edges = b.edges) <;> rfl
theorem ref04Same_p (a b : DagT) (h1 : a.work.length < 9223372036854775808) (h2 : a.edges.length < 9223372036854775808) : g_ref04_Same a b = some (decide (a = b)) := by
  unfold g_ref04_Same
  rw [neq_len, neq_len, ← dagEq]
  by_cases l1 : a.work.length = b.work.length
  case neg => rw [decide_eq_false l1, decide_eq_false (show ¬ a.work = b.work from fun e => l1 (by rw [e]))]; rfl
  by_cases l2 : a.edges.length = b.edges.length
  case neg => rw [decide_eq_true l1, decide_eq_false l2, decide_eq_false (show ¬ a.edges = b.edges from fun e => l2 (by rw [e])), Bool.and_false]; rfl
  rw [decide_eq_true l1, decide_eq_true l2]
  simp only [Bool.not_true, cond_false]
  rw [lp_same a.work b.work l1 (g_ref04_Same_L0 a b) (fun i x y hi hx hy => by
    simp only [g_ref04_Same_L0, lt_t hi, at_some hx, at_some hy, Option.bind_some, w64_succ hi h1, cond_true, neInt_dec]
    cases decide (x = y) <;> rfl) (by simp only [g_ref04_Same_L0, lt_f]; rfl)]
  cases decide (a.work = b.work) with
  | false => rfl
  | true =>
    simp only [cond_true, Option.bind_some]
    rw [lp_same a.edges b.edges l2 (g_ref04_Same_L1 a b) (fun i x y hi hx hy => by
      simp only [g_ref04_Same_L1, lt_t hi, at_some hx, at_some hy, Option.bind_some, w64_succ hi h2, cond_true, sameE_dec]
      cases decide (x = y) <;> rfl) (by simp only [g_ref04_Same_L1, lt_f]; rfl)]
    cases decide (a.edges = b.edges) <;> rfl

def fewDag (a : DagT) : Bool := decide ((a.work.length : Int) ≤ 70) && decide ((a.edges.length : Int) ≤ 300)
theorem fewDag_p (a : DagT) : g_law04_Few a = some (fewDag a) := by
  unfold g_law04_Few fewDag
  cases decide ((a.work.length : Int) ≤ 70) <;> cases decide ((a.edges.length : Int) ≤ 300) <;> rfl
theorem fewDag_w {a : DagT} (h : fewDag a = true) : a.work.length ≤ 70 := by
  unfold fewDag at h; simp only [Bool.and_eq_true, decide_eq_true_eq] at h; omega
theorem fewDag_e {a : DagT} (h : fewDag a = true) : a.edges.length ≤ 300 := by
  unfold fewDag at h; simp only [Bool.and_eq_true, decide_eq_true_eq] at h; omega
theorem ownDag_p {a : DagT} (h1 : a.work.length ≤ 1000) (h2 : a.edges.length ≤ 1000) : g_law04_Own a = some () := by
  unfold g_law04_Own
  rw [lim_t (by omega), lim_t (by omega)]
  rfl
end Go.Proofs.YtljgncbdagmeeaaDoor
