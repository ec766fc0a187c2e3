/- EvalOps: the row, out of what the evaluator says of it. -/
import Derived.Test.YtljgncbdagmeeaaDoorRows
import Derived.Test.YtljgncbdagmeeaaDoorL2
import Derived.Test.YtljgncbdagmeeaaDoorE32
import Derived.Test.YtljgncbdagmeeaaDoorLEvalOps
import Derived.Test.YtljgncbdagmeeaaDoorCards
import Derived.Test.YtljgncbdagmeeaaDoorTie
import Derived.WalkKit
import Derived.ProofKit
import Derived.OpenShut
import Derived.ShutString
import Derived.ChangeOld
import Derived.Below
import Derived.SizedLaws
import Derived.Handed
import Derived.LaidMore
import Derived.Stop.Joined
import Derived.ChangeShapes
import Derived.Carry
import Derived.SevenTiedAt
namespace Go.Proofs.YtljgncbdagmeeaaDoor.LawEvalOps
open Go.ChangeShapes Go.WideShapes Go.ChangeAt Go.RowKit Go.Proofs.YtljgncbdagmeeaaDoorE
set_option linter.unusedVariables false
theorem own : ownKnob Tryd.prog.godebug = none := by kernel_rfl
theorem laidOut : laidOutB Tryd.prog = true := by kernel_rfl
def laidL : List (String × DataW Unit) := [("math/bits.deBruijn32tab", Rows.laid_math_bits_deBruijn32tab), ("math/bits.deBruijn64tab", Rows.laid_math_bits_deBruijn64tab)]
theorem door_met (os : Os) (args : Array Value) : laidMetH Tryd.prog laidL ((World.doorLaid Tryd.prog 19 os).forCall (fun _ _ => 0) ⟨#[], args, []⟩).memory :=
  laidMetH_of_parts3 (fuel := 8) (laidMet_of_run' 8 (by kernel_rfl) (by kernel_rfl)) (by kernel_rfl) (by kernel_rfl)
theorem globs_ok {W : World} (h : laidMetH Tryd.prog laidL W) : GOK globs R0 W := by
  intro g l hg
  unfold globs at hg
  split at hg
  · cases hg
    exact laid_table (t := 170) (N := 32) (e := 5) (k := .u8) h (by kernel_rfl) (n := "math/bits.deBruijn32tab") (by rw [show DataW.agg (litsOf gRow0) = Rows.laid_math_bits_deBruijn32tab by kernel_rfl]; simp [laidL]) (by kernel_rfl) (by kernel_rfl) (by kernel_rfl) (by kernel_rfl) (by kernel_rfl) (by kernel_rfl) (by decide)
  · cases hg
    exact laid_table (t := 171) (N := 64) (e := 5) (k := .u8) h (by kernel_rfl) (n := "math/bits.deBruijn64tab") (by rw [show DataW.agg (litsOf gRow1) = Rows.laid_math_bits_deBruijn64tab by kernel_rfl]; simp [laidL]) (by kernel_rfl) (by kernel_rfl) (by kernel_rfl) (by kernel_rfl) (by kernel_rfl) (by kernel_rfl) (by decide)
  · cases hg
set_option maxRecDepth 100000 in
theorem lifted (os : Os) (started : os.Started) (H : Type) (enc : TypeId × Value → H) :
    ReturnsInHanded {} Tryd.checked os 13 .any (fun w args => (Rows.evalOpsSpec.pre enc Tryd.prog Tryd.f13 [] false w args ∧ laidMetH Tryd.prog laidL w) ∧ sizedMet enc Tryd.prog Tryd.f13 (OpenSpec.ofChange Rows.evalOpsSpec) false w args) (Rows.evalOpsSpec.post enc Tryd.prog Tryd.f13 false true false false) := by
  refine returnsInHanded_of_change_and (C := Tryd.checked) (X := fun w _ => laidMetH Tryd.prog laidL w) (fun _ _ _ hh h => h.of_heap hh) own started (by kernel_rfl) Tryd.func13
    (ChangeSpec.witness_shaped (enc := enc) (C := Tryd.checked) (os := os) (X := fun w _ => laidMetH Tryd.prog laidL w) false (World.doorLaid Tryd.prog 19 os) #[.agg #[.int .i64 0, .int .i64 0, .int .i64 0], .slice none 0 0, .slice none 0 0] 8 rfl (World.shaped_of_RefB (by kernel_rfl) (by kernel_rfl)) (by kernel_rfl) (by kernel_rfl) (by kernel_rfl) (door_met os _)) ?_
  intro W base args ds gs before hval0 hW _ _ hL _
  have hval : ∀ (j : Nat) t v, Tryd.f13.params[j]? = some t → args[j]? = some v → Value.okWide Tryd.prog W .any base t v := hval0
  have hW' := hW
  obtain ⟨p, q, hA0, hV, rfl, hfz, hnd⟩ := hW
  have hA : DataW.TrodAll enc Tryd.prog W 0 (fun _ => true) true Tryd.f13.params.toList args.toList ds p := hA0
  rw [Tryd.params13] at hA hval
  obtain ⟨v0, vs0, d0, ds0, p0, q0, hargs, rfl, rfl, h0, r0⟩ := trodAll_cons hA
  obtain ⟨v1, vs1, d1, ds1, p1, q1, rfl, rfl, rfl, h1, r1⟩ := trodAll_cons r0
  obtain ⟨v2, vs2, d2, ds2, p2, q2, rfl, rfl, rfl, h2, r2⟩ := trodAll_cons r1
  obtain ⟨rfl, rfl, rfl⟩ := trodAll_nil r2
  obtain rfl : args = #[v0, v1, v2] := by cases args; simp_all
  obtain ⟨rfl, rfl⟩ := trodVars_none hV
  have lt0 : ∀ x ∈ p0, x.block < W.heap.size := by obtain ⟨m, hm⟩ := h0; exact DataW.trod_lt m _ _ _ hm
  obtain ⟨x0, ok0, den0⟩ := par_ok (P := Tryd.prog) (n := 8) (t := 50) (l := par50.1) (ag := par50.2) (by kernel_rfl) (hval 0 50 v0 rfl rfl) h0
  have lt1 : ∀ x ∈ p1, x.block < W.heap.size := by obtain ⟨m, hm⟩ := h1; exact DataW.trod_lt m _ _ _ hm
  obtain ⟨x1, ok1, den1⟩ := par_ok (P := Tryd.prog) (n := 8) (t := 30) (l := par30.1) (ag := par30.2) (by kernel_rfl) (hval 1 30 v1 rfl rfl) h1
  have lt2 : ∀ x ∈ p2, x.block < W.heap.size := by obtain ⟨m, hm⟩ := h2; exact DataW.trod_lt m _ _ _ hm
  obtain ⟨x2, ok2, den2⟩ := par_ok (P := Tryd.prog) (n := 8) (t := 30) (l := par30.1) (ag := par30.2) (by kernel_rfl) (hval 2 30 v2 rfl rfl) h2
  obtain ⟨H1, ev⟩ := ev_EvalOps x0 ok0 x1 ok1 x2 ok2
  have den : DenDs All All All W [parD par50.2 x0, parD par30.2 x1, parD par30.2 x2] [v0, v1, v2] := ⟨_, _, rfl, den0, ⟨_, _, rfl, den1, ⟨_, _, rfl, den2, rfl⟩⟩⟩
  refine (law_calls sound (globs_ok hL) den ev).mono fun e W' ⟨he, bel⟩ => ?_
  subst he
  exact ⟨_, rfl, _, _, _, [], _, [], hW', trodAll_mk1 (shut_bool Tryd.underlying4 _), (trodAll_cons_mk (Below.trod laidOut (by kernel_rfl) (of_decide_eq_true (by kernel_rfl)) h0 bel lt0) (trodAll_cons_mk (Below.trod laidOut (by kernel_rfl) (of_decide_eq_true (by kernel_rfl)) h1 bel lt1) (trodAll_cons_mk (Below.trod laidOut (by kernel_rfl) (of_decide_eq_true (by kernel_rfl)) h2 bel lt2) trodAll_mk0))), rfl, bel.frame _, fun h => by cases h⟩
theorem over : Rows.evalOpsRow.holds Tryd.pinned (OpenSpec.ofChange Rows.evalOpsSpec) :=
  OpenClaim.holds_of_wide 13 Tryd.f13 rfl rfl rfl rfl rfl rfl rfl ⟨rfl, rfl, rfl, rfl, rfl⟩ rfl rfl rfl rfl rfl (by kernel_rfl) Tryd.func13 (by kernel_rfl)
    (of_decide_eq_true (by kernel_rfl)) (by unfold Func.isWrapper; first | (rw [if_pos (by decide +kernel)]; kernel_rfl) | (rw [if_neg (by decide +kernel)]; exact ⟨rfl, rfl⟩))
    (fun os started H enc _ => lifted os started H enc)
theorem proved : Rows.EvalOpsSaid := over
theorem carded : Rows.EvalOpsCardSaid :=
  Claim7.holds_tied_plain_at .later [] [.data, .data] true (true, "d907b5d9381713682315e2e2b6cdc9b83e8277611de7aab9efce85a6aaa9d615") false
    proved (fun _ h => by cases h) (by kernel_rfl) (fun _ h => by cases h) evalOps_row_tie rfl ⟨rfl, rfl⟩ (by kernel_rfl) rfl
    (fun f fn hf hfn => by
      obtain rfl : f = 13 := Option.some.inj ((show Tryd.prog.funcNamed "trefoil/trefoillaw08.EvalOps" = some 13 by kernel_rfl).symm.trans hf) |>.symm
      obtain rfl : fn = Tryd.f13 := (Option.some.inj (Tryd.func13.symm.trans hfn)).symm
      exact ⟨by kernel_rfl, fun j t ht => by
        rw [Tryd.params13] at ht
        have hm : t ∈ [50, 30, 30] := by simpa using Array.mem_of_getElem? ht
        have hall : ([50, 30, 30].all fun u => !Tryd.prog.wantsStandIn u) = true := by kernel_rfl
        exact (show Tryd.prog.wantsStandIn t = false by simpa using List.all_eq_true.1 hall t hm)⟩)
    (by kernel_rfl)
end Go.Proofs.YtljgncbdagmeeaaDoor.LawEvalOps
namespace Go.Proofs.YtljgncbdagmeeaaDoor
/-- EvalOps: for every input. -/
theorem evalOps_holds : Rows.EvalOpsCardSaid := LawEvalOps.carded
#print axioms evalOps_holds
end Go.Proofs.YtljgncbdagmeeaaDoor
