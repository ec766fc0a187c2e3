/- DescCounts: part 7 of 7 of the proof: the row and the card of the law, out of what the evaluator says of it; without conditions. -/
import Derived.Test.YtakebhleglnpjaaDoorZDescCountsf
import Derived.KernelRfl
import Derived.Test.YtakebhleglnpjaaDoorRows
import Derived.Test.YtakebhleglnpjaaDoorCards
import Derived.Test.YtakebhleglnpjaaDoorTie
import Derived.WalkKit
import Derived.ProofKit
import Derived.OpenShut
import Derived.ShutString
import Derived.ChangeOld
import Derived.Below
import Derived.SizedLaws
import Derived.Handed
import Derived.LaidMore
import Derived.Stop.Joined
import Derived.ChangeShapes
import Derived.Carry
import Derived.SevenTiedAt
namespace Go.Proofs.YtakebhleglnpjaaDoor
open Go Go.Proofs.YtakebhleglnpjaaDoorE
set_option linter.unusedVariables false
set_option linter.unusedSimpArgs false
def g_slices_pdqsortCmpFunc_int__desc_Touches_1_e (t0 : Bool) (t1 : Bool) (t2 : Bool) (t3 : Bool) (b : Int) (c : Int) (d : Int) (m0_0 : (List Int)) (m1_0 : Int) (m1_1 : Int) (m1_2 : (List PartT)) (m1_3 : (List EdgeT)) (m1_4 : (List FutureT)) (m1_5 : (List BarrierT)) : (List Int) → V × Heap
  | r => ((.d (D.tup [])), [(.arr 1 (List.map intD r)), (.cells [(.d (intD m1_0)), (.d (intD m1_1)), (.d (D.list t0 (List.map partD m1_2))), (.d (D.list t1 (List.map edgeD m1_3))), (.d (D.list t2 (List.map futureD m1_4))), (.d (D.list t3 (List.map barrierD m1_5)))])])
def g_slices_pdqsortCmpFunc_int__desc_Touches_1_L0_x (t0 : Bool) (t1 : Bool) (t2 : Bool) (t3 : Bool) (d : Int) (m1_0 : Int) (m1_1 : Int) (m1_2 : (List PartT)) (m1_3 : (List EdgeT)) (m1_4 : (List FutureT)) (m1_5 : (List BarrierT)) (rc : Int → Int → Int → (Int → Int → Option Int) → (List Int) → Option (List Int)) : (List Int) → Ex × List V × Heap
  | r => (.ret, [], [(.arr 1 (List.map intD r)), (.cells [(.d (intD m1_0)), (.d (intD m1_1)), (.d (D.list t0 (List.map partD m1_2))), (.d (D.list t1 (List.map edgeD m1_3))), (.d (D.list t2 (List.map futureD m1_4))), (.d (D.list t3 (List.map barrierD m1_5)))])])
set_option maxRecDepth 100000 in
set_option maxHeartbeats 40000000 in
theorem g_slices_pdqsortCmpFunc_int__desc_Touches_1_L0_ok (t0 : Bool) (t1 : Bool) (t2 : Bool) (t3 : Bool) (d : Int) (m1_0 : Int) (m1_1 : Int) (m1_2 : (List PartT)) (m1_3 : (List EdgeT)) (m1_4 : (List FutureT)) (m1_5 : (List BarrierT)) (rc : Int → Int → Int → (Int → Int → Option Int) → (List Int) → Option (List Int)) (hrc : ∀ (t0 : Bool) (t1 : Bool) (t2 : Bool) (t3 : Bool) (b : Int) (c : Int) (d : Int) (m0_0 : (List Int)) (m1_0 : Int) (m1_1 : Int) (m1_2 : (List PartT)) (m1_3 : (List EdgeT)) (m1_4 : (List FutureT)) (m1_5 : (List BarrierT)) (r : (List Int)), rc b c d (fun z0 z1 => g_desc_Touches_1 z0 z1 m1_4) m0_0 = some r → evW ctx 84 [(.sl 0 1), (.d (intD b)), (.d (intD c)), (.d (intD d)), (.fn 62 [(.ptr 1 0)])] [(.arr 1 (List.map intD m0_0)), (.cells [(.d (intD m1_0)), (.d (intD m1_1)), (.d (D.list t0 (List.map partD m1_2))), (.d (D.list t1 (List.map edgeD m1_3))), (.d (D.list t2 (List.map futureD m1_4))), (.d (D.list t3 (List.map barrierD m1_5)))])] = some ((g_slices_pdqsortCmpFunc_int__desc_Touches_1_e t0 t1 t2 t3 b c d m0_0 m1_0 m1_1 m1_2 m1_3 m1_4 m1_5) r)) : ∀ (s0 : Int × Int × Int × Bool × Bool × (List Int)) (r : (List Int)), lp (g_slices_pdqsortCmpFunc_int_L0 (fun z0 z1 => g_desc_Touches_1 z0 z1 m1_4) rc) s0 = some r → lpW ctx 2 [0, 1, 2, 3, 4, 10, 11] [] ir84L0 [(.sl 0 1), (.d (intD s0.1)), (.d (intD s0.2.1)), (.d (intD s0.2.2.1)), (.fn 62 [(.ptr 1 0)]), (.d (D.bool s0.2.2.2.1)), (.d (D.bool s0.2.2.2.2.1))] [(.arr 1 (List.map intD s0.2.2.2.2.2)), (.cells [(.d (intD m1_0)), (.d (intD m1_1)), (.d (D.list t0 (List.map partD m1_2))), (.d (D.list t1 (List.map edgeD m1_3))), (.d (D.list t2 (List.map futureD m1_4))), (.d (D.list t3 (List.map barrierD m1_5)))])] = some ((g_slices_pdqsortCmpFunc_int__desc_Touches_1_L0_x t0 t1 t2 t3 d m1_0 m1_1 m1_2 m1_3 m1_4 m1_5 rc) r) := by
 refine lp_ok (g_slices_pdqsortCmpFunc_int__desc_Touches_1_L0_x t0 t1 t2 t3 d m1_0 m1_1 m1_2 m1_3 m1_4 m1_5 rc) ?_
 intro s0 rcl ih
 show Says _ _ (lpW _ _ _ _ _ _ _)
 unfold g_slices_pdqsortCmpFunc_int_L0
 rw [lpW_b]
 rcases hb : s0.2.2.2.1 with _ | _
 ·refine sim_cf ?_
  rcases hb : s0.2.2.2.2.1 with _ | _
  ·refine sim_cf ?_
   conv => arg 3; whnf
   refine sim_br rfl ?_ ?_
   ·conv => arg 3; whnf
    refine sim_bind (g_slices_insertionSortCmpFunc_int__desc_Touches_1_e t0 t1 t2 t3 s0.1 s0.2.1 s0.2.2.2.2.2 m1_0 m1_1 m1_2 m1_3 m1_4 m1_5) (g_slices_insertionSortCmpFunc_int__desc_Touches_1_ok t0 t1 t2 t3 s0.1 s0.2.1 s0.2.2.2.2.2 m1_0 m1_1 m1_2 m1_3 m1_4 m1_5) fun x170 hx170 => ?_
    conv => arg 3; whnf
    exact sim_ret rfl
   ·conv => arg 3; whnf
    refine sim_br rfl ?_ ?_
    ·conv => arg 3; whnf
     refine sim_bind (g_slices_heapSortCmpFunc_int__desc_Touches_1_e t0 t1 t2 t3 s0.1 s0.2.1 s0.2.2.2.2.2 m1_0 m1_1 m1_2 m1_3 m1_4 m1_5) (g_slices_heapSortCmpFunc_int__desc_Touches_1_ok t0 t1 t2 t3 s0.1 s0.2.1 s0.2.2.2.2.2 m1_0 m1_1 m1_2 m1_3 m1_4 m1_5) fun x171 hx171 => ?_
     conv => arg 3; whnf
     exact sim_ret rfl
    ·conv => arg 3; whnf
     refine sim_bind (g_slices_breakPatternsCmpFunc_int__desc_Touches_1_e t0 t1 t2 t3 s0.1 s0.2.1 s0.2.2.2.2.2 m1_0 m1_1 m1_2 m1_3 m1_4 m1_5) (g_slices_breakPatternsCmpFunc_int__desc_Touches_1_ok t0 t1 t2 t3 s0.1 s0.2.1 s0.2.2.2.2.2 m1_0 m1_1 m1_2 m1_3 m1_4 m1_5) fun x172 hx172 => ?_
     conv => arg 3; whnf
     refine sim_bind (g_slices_choosePivotCmpFunc_int__desc_Touches_1_e t0 t1 t2 t3 s0.1 s0.2.1 x172 m1_0 m1_1 m1_2 m1_3 m1_4 m1_5) (g_slices_choosePivotCmpFunc_int__desc_Touches_1_ok t0 t1 t2 t3 s0.1 s0.2.1 x172 m1_0 m1_1 m1_2 m1_3 m1_4 m1_5) fun x173 hx173 => ?_
     conv => arg 3; whnf
     refine sim_br rfl ?_ ?_
     ·conv => arg 3; whnf
      refine sim_bind (g_slices_reverseRangeCmpFunc_int__desc_Touches_1_e t0 t1 t2 t3 s0.1 s0.2.1 x172 m1_0 m1_1 m1_2 m1_3 m1_4 m1_5) (g_slices_reverseRangeCmpFunc_int__desc_Touches_1_ok t0 t1 t2 t3 s0.1 s0.2.1 x172 m1_0 m1_1 m1_2 m1_3 m1_4 m1_5) fun x174 hx174 => ?_
      conv => arg 3; whnf
      refine sim_br rfl ?_ ?_
      ·conv => arg 3; whnf
       refine sim_get (f := intD) rfl rfl fun x175 hx175 => ?_
       conv => arg 3; whnf
       refine sim_known (nth_of (f := intD) rfl hx175) ?_
       conv => arg 3; whnf
       refine sim_get (f := intD) rfl rfl fun x176 hx176 => ?_
       conv => arg 3; whnf
       refine sim_known (nth_of (f := intD) rfl hx176) ?_
       conv => arg 3; whnf
       refine sim_call g_desc_Touches_1_e (g_desc_Touches_1_ok t0 t1 t2 t3 x175 x176 m1_0 m1_1 m1_2 m1_3 m1_4 m1_5) rfl fun x177 hx177 => ?_
       conv => arg 3; whnf
       refine sim_br rfl ?_ ?_
       ·conv => arg 3; whnf
        refine sim_bind (g_slices_partitionCmpFunc_int__desc_Touches_1_e t0 t1 t2 t3 s0.1 s0.2.1 (w64 ((w64 (s0.2.1 - 1)) - (w64 (x173.1 - s0.1)))) x174 m1_0 m1_1 m1_2 m1_3 m1_4 m1_5) (g_slices_partitionCmpFunc_int__desc_Touches_1_ok t0 t1 t2 t3 s0.1 s0.2.1 (w64 ((w64 (s0.2.1 - 1)) - (w64 (x173.1 - s0.1)))) x174 m1_0 m1_1 m1_2 m1_3 m1_4 m1_5) fun x178 hx178 => ?_
        clear hx178
        rcases x178 with x178 | x178
        ·conv => arg 3; whnf
         refine sim_t rfl ?_
         conv => arg 3; whnf
         refine sim_f rfl ?_
         conv => arg 3; whnf
         refine sim_br rfl ?_ ?_
         ·conv => arg 3; whnf
          refine sim_br rfl ?_ ?_
          ·conv => arg 3; whnf
           refine sim_bind (g_slices_pdqsortCmpFunc_int__desc_Touches_1_e t0 t1 t2 t3 s0.1 x178.1 (w64 (s0.2.2.1 - 1)) x178.2 m1_0 m1_1 m1_2 m1_3 m1_4 m1_5) (hrc t0 t1 t2 t3 s0.1 x178.1 (w64 (s0.2.2.1 - 1)) x178.2 m1_0 m1_1 m1_2 m1_3 m1_4 m1_5) fun x179 hx179 => ?_
           conv => arg 3; whnf
           exact sim_again (ih ((w64 (x178.1 + 1)), s0.2.1, (w64 (s0.2.2.1 - 1)), true, true, x179))
          ·conv => arg 3; whnf
           refine sim_bind (g_slices_pdqsortCmpFunc_int__desc_Touches_1_e t0 t1 t2 t3 s0.1 x178.1 (w64 (s0.2.2.1 - 1)) x178.2 m1_0 m1_1 m1_2 m1_3 m1_4 m1_5) (hrc t0 t1 t2 t3 s0.1 x178.1 (w64 (s0.2.2.1 - 1)) x178.2 m1_0 m1_1 m1_2 m1_3 m1_4 m1_5) fun x180 hx180 => ?_
           conv => arg 3; whnf
           exact sim_again (ih ((w64 (x178.1 + 1)), s0.2.1, (w64 (s0.2.2.1 - 1)), false, true, x180))
         ·conv => arg 3; whnf
          refine sim_br rfl ?_ ?_
          ·conv => arg 3; whnf
           refine sim_bind (g_slices_pdqsortCmpFunc_int__desc_Touches_1_e t0 t1 t2 t3 (w64 (x178.1 + 1)) s0.2.1 (w64 (s0.2.2.1 - 1)) x178.2 m1_0 m1_1 m1_2 m1_3 m1_4 m1_5) (hrc t0 t1 t2 t3 (w64 (x178.1 + 1)) s0.2.1 (w64 (s0.2.2.1 - 1)) x178.2 m1_0 m1_1 m1_2 m1_3 m1_4 m1_5) fun x181 hx181 => ?_
           conv => arg 3; whnf
           exact sim_again (ih (s0.1, x178.1, (w64 (s0.2.2.1 - 1)), true, true, x181))
          ·conv => arg 3; whnf
           refine sim_bind (g_slices_pdqsortCmpFunc_int__desc_Touches_1_e t0 t1 t2 t3 (w64 (x178.1 + 1)) s0.2.1 (w64 (s0.2.2.1 - 1)) x178.2 m1_0 m1_1 m1_2 m1_3 m1_4 m1_5) (hrc t0 t1 t2 t3 (w64 (x178.1 + 1)) s0.2.1 (w64 (s0.2.2.1 - 1)) x178.2 m1_0 m1_1 m1_2 m1_3 m1_4 m1_5) fun x182 hx182 => ?_
           conv => arg 3; whnf
           exact sim_again (ih (s0.1, x178.1, (w64 (s0.2.2.1 - 1)), false, true, x182))
        ·conv => arg 3; whnf
         refine sim_f rfl ?_
         conv => arg 3; whnf
         refine sim_f rfl ?_
         conv => arg 3; whnf
         refine sim_br rfl ?_ ?_
         ·conv => arg 3; whnf
          refine sim_br rfl ?_ ?_
          ·conv => arg 3; whnf
           refine sim_bind (g_slices_pdqsortCmpFunc_int__desc_Touches_1_e t0 t1 t2 t3 s0.1 x178.1 (w64 (s0.2.2.1 - 1)) x178.2 m1_0 m1_1 m1_2 m1_3 m1_4 m1_5) (hrc t0 t1 t2 t3 s0.1 x178.1 (w64 (s0.2.2.1 - 1)) x178.2 m1_0 m1_1 m1_2 m1_3 m1_4 m1_5) fun x183 hx183 => ?_
           conv => arg 3; whnf
           exact sim_again (ih ((w64 (x178.1 + 1)), s0.2.1, (w64 (s0.2.2.1 - 1)), true, false, x183))
          ·conv => arg 3; whnf
           refine sim_bind (g_slices_pdqsortCmpFunc_int__desc_Touches_1_e t0 t1 t2 t3 s0.1 x178.1 (w64 (s0.2.2.1 - 1)) x178.2 m1_0 m1_1 m1_2 m1_3 m1_4 m1_5) (hrc t0 t1 t2 t3 s0.1 x178.1 (w64 (s0.2.2.1 - 1)) x178.2 m1_0 m1_1 m1_2 m1_3 m1_4 m1_5) fun x184 hx184 => ?_
           conv => arg 3; whnf
           exact sim_again (ih ((w64 (x178.1 + 1)), s0.2.1, (w64 (s0.2.2.1 - 1)), false, false, x184))
         ·conv => arg 3; whnf
          refine sim_br rfl ?_ ?_
          ·conv => arg 3; whnf
           refine sim_bind (g_slices_pdqsortCmpFunc_int__desc_Touches_1_e t0 t1 t2 t3 (w64 (x178.1 + 1)) s0.2.1 (w64 (s0.2.2.1 - 1)) x178.2 m1_0 m1_1 m1_2 m1_3 m1_4 m1_5) (hrc t0 t1 t2 t3 (w64 (x178.1 + 1)) s0.2.1 (w64 (s0.2.2.1 - 1)) x178.2 m1_0 m1_1 m1_2 m1_3 m1_4 m1_5) fun x185 hx185 => ?_
           conv => arg 3; whnf
           exact sim_again (ih (s0.1, x178.1, (w64 (s0.2.2.1 - 1)), true, false, x185))
          ·conv => arg 3; whnf
           refine sim_bind (g_slices_pdqsortCmpFunc_int__desc_Touches_1_e t0 t1 t2 t3 (w64 (x178.1 + 1)) s0.2.1 (w64 (s0.2.2.1 - 1)) x178.2 m1_0 m1_1 m1_2 m1_3 m1_4 m1_5) (hrc t0 t1 t2 t3 (w64 (x178.1 + 1)) s0.2.1 (w64 (s0.2.2.1 - 1)) x178.2 m1_0 m1_1 m1_2 m1_3 m1_4 m1_5) fun x186 hx186 => ?_
           conv => arg 3; whnf
           exact sim_again (ih (s0.1, x178.1, (w64 (s0.2.2.1 - 1)), false, false, x186))
       ·conv => arg 3; whnf
        refine sim_bind (g_slices_partitionEqualCmpFunc_int__desc_Touches_1_e t0 t1 t2 t3 s0.1 s0.2.1 (w64 ((w64 (s0.2.1 - 1)) - (w64 (x173.1 - s0.1)))) x174 m1_0 m1_1 m1_2 m1_3 m1_4 m1_5) (g_slices_partitionEqualCmpFunc_int__desc_Touches_1_ok t0 t1 t2 t3 s0.1 s0.2.1 (w64 ((w64 (s0.2.1 - 1)) - (w64 (x173.1 - s0.1)))) x174 m1_0 m1_1 m1_2 m1_3 m1_4 m1_5) fun x187 hx187 => ?_
        conv => arg 3; whnf
        exact sim_again (ih (x187.1, s0.2.1, (w64 (s0.2.2.1 - 1)), false, false, x187.2))
      ·conv => arg 3; whnf
       refine sim_bind (g_slices_partitionCmpFunc_int__desc_Touches_1_e t0 t1 t2 t3 s0.1 s0.2.1 (w64 ((w64 (s0.2.1 - 1)) - (w64 (x173.1 - s0.1)))) x174 m1_0 m1_1 m1_2 m1_3 m1_4 m1_5) (g_slices_partitionCmpFunc_int__desc_Touches_1_ok t0 t1 t2 t3 s0.1 s0.2.1 (w64 ((w64 (s0.2.1 - 1)) - (w64 (x173.1 - s0.1)))) x174 m1_0 m1_1 m1_2 m1_3 m1_4 m1_5) fun x188 hx188 => ?_
       clear hx188
       rcases x188 with x188 | x188
       ·conv => arg 3; whnf
        refine sim_t rfl ?_
        conv => arg 3; whnf
        refine sim_f rfl ?_
        conv => arg 3; whnf
        refine sim_br rfl ?_ ?_
        ·conv => arg 3; whnf
         refine sim_br rfl ?_ ?_
         ·conv => arg 3; whnf
          refine sim_bind (g_slices_pdqsortCmpFunc_int__desc_Touches_1_e t0 t1 t2 t3 s0.1 x188.1 (w64 (s0.2.2.1 - 1)) x188.2 m1_0 m1_1 m1_2 m1_3 m1_4 m1_5) (hrc t0 t1 t2 t3 s0.1 x188.1 (w64 (s0.2.2.1 - 1)) x188.2 m1_0 m1_1 m1_2 m1_3 m1_4 m1_5) fun x189 hx189 => ?_
          conv => arg 3; whnf
          exact sim_again (ih ((w64 (x188.1 + 1)), s0.2.1, (w64 (s0.2.2.1 - 1)), true, true, x189))
         ·conv => arg 3; whnf
          refine sim_bind (g_slices_pdqsortCmpFunc_int__desc_Touches_1_e t0 t1 t2 t3 s0.1 x188.1 (w64 (s0.2.2.1 - 1)) x188.2 m1_0 m1_1 m1_2 m1_3 m1_4 m1_5) (hrc t0 t1 t2 t3 s0.1 x188.1 (w64 (s0.2.2.1 - 1)) x188.2 m1_0 m1_1 m1_2 m1_3 m1_4 m1_5) fun x190 hx190 => ?_
          conv => arg 3; whnf
          exact sim_again (ih ((w64 (x188.1 + 1)), s0.2.1, (w64 (s0.2.2.1 - 1)), false, true, x190))
        ·conv => arg 3; whnf
         refine sim_br rfl ?_ ?_
         ·conv => arg 3; whnf
          refine sim_bind (g_slices_pdqsortCmpFunc_int__desc_Touches_1_e t0 t1 t2 t3 (w64 (x188.1 + 1)) s0.2.1 (w64 (s0.2.2.1 - 1)) x188.2 m1_0 m1_1 m1_2 m1_3 m1_4 m1_5) (hrc t0 t1 t2 t3 (w64 (x188.1 + 1)) s0.2.1 (w64 (s0.2.2.1 - 1)) x188.2 m1_0 m1_1 m1_2 m1_3 m1_4 m1_5) fun x191 hx191 => ?_
          conv => arg 3; whnf
          exact sim_again (ih (s0.1, x188.1, (w64 (s0.2.2.1 - 1)), true, true, x191))
         ·conv => arg 3; whnf
          refine sim_bind (g_slices_pdqsortCmpFunc_int__desc_Touches_1_e t0 t1 t2 t3 (w64 (x188.1 + 1)) s0.2.1 (w64 (s0.2.2.1 - 1)) x188.2 m1_0 m1_1 m1_2 m1_3 m1_4 m1_5) (hrc t0 t1 t2 t3 (w64 (x188.1 + 1)) s0.2.1 (w64 (s0.2.2.1 - 1)) x188.2 m1_0 m1_1 m1_2 m1_3 m1_4 m1_5) fun x192 hx192 => ?_
          conv => arg 3; whnf
          exact sim_again (ih (s0.1, x188.1, (w64 (s0.2.2.1 - 1)), false, true, x192))
       ·conv => arg 3; whnf
        refine sim_f rfl ?_
        conv => arg 3; whnf
        refine sim_f rfl ?_
        conv => arg 3; whnf
        refine sim_br rfl ?_ ?_
        ·conv => arg 3; whnf
         refine sim_br rfl ?_ ?_
         ·conv => arg 3; whnf
          refine sim_bind (g_slices_pdqsortCmpFunc_int__desc_Touches_1_e t0 t1 t2 t3 s0.1 x188.1 (w64 (s0.2.2.1 - 1)) x188.2 m1_0 m1_1 m1_2 m1_3 m1_4 m1_5) (hrc t0 t1 t2 t3 s0.1 x188.1 (w64 (s0.2.2.1 - 1)) x188.2 m1_0 m1_1 m1_2 m1_3 m1_4 m1_5) fun x193 hx193 => ?_
          conv => arg 3; whnf
          exact sim_again (ih ((w64 (x188.1 + 1)), s0.2.1, (w64 (s0.2.2.1 - 1)), true, false, x193))
         ·conv => arg 3; whnf
          refine sim_bind (g_slices_pdqsortCmpFunc_int__desc_Touches_1_e t0 t1 t2 t3 s0.1 x188.1 (w64 (s0.2.2.1 - 1)) x188.2 m1_0 m1_1 m1_2 m1_3 m1_4 m1_5) (hrc t0 t1 t2 t3 s0.1 x188.1 (w64 (s0.2.2.1 - 1)) x188.2 m1_0 m1_1 m1_2 m1_3 m1_4 m1_5) fun x194 hx194 => ?_
          conv => arg 3; whnf
          exact sim_again (ih ((w64 (x188.1 + 1)), s0.2.1, (w64 (s0.2.2.1 - 1)), false, false, x194))
        ·conv => arg 3; whnf
         refine sim_br rfl ?_ ?_
         ·conv => arg 3; whnf
          refine sim_bind (g_slices_pdqsortCmpFunc_int__desc_Touches_1_e t0 t1 t2 t3 (w64 (x188.1 + 1)) s0.2.1 (w64 (s0.2.2.1 - 1)) x188.2 m1_0 m1_1 m1_2 m1_3 m1_4 m1_5) (hrc t0 t1 t2 t3 (w64 (x188.1 + 1)) s0.2.1 (w64 (s0.2.2.1 - 1)) x188.2 m1_0 m1_1 m1_2 m1_3 m1_4 m1_5) fun x195 hx195 => ?_
          conv => arg 3; whnf
          exact sim_again (ih (s0.1, x188.1, (w64 (s0.2.2.1 - 1)), true, false, x195))
         ·conv => arg 3; whnf
          refine sim_bind (g_slices_pdqsortCmpFunc_int__desc_Touches_1_e t0 t1 t2 t3 (w64 (x188.1 + 1)) s0.2.1 (w64 (s0.2.2.1 - 1)) x188.2 m1_0 m1_1 m1_2 m1_3 m1_4 m1_5) (hrc t0 t1 t2 t3 (w64 (x188.1 + 1)) s0.2.1 (w64 (s0.2.2.1 - 1)) x188.2 m1_0 m1_1 m1_2 m1_3 m1_4 m1_5) fun x196 hx196 => ?_
          conv => arg 3; whnf
          exact sim_again (ih (s0.1, x188.1, (w64 (s0.2.2.1 - 1)), false, false, x196))
     ·conv => arg 3; whnf
      refine sim_br rfl ?_ ?_
      ·conv => arg 3; whnf
       refine sim_get (f := intD) rfl rfl fun x197 hx197 => ?_
       conv => arg 3; whnf
       refine sim_known (nth_of (f := intD) rfl hx197) ?_
       conv => arg 3; whnf
       refine sim_get (f := intD) rfl rfl fun x198 hx198 => ?_
       conv => arg 3; whnf
       refine sim_known (nth_of (f := intD) rfl hx198) ?_
       conv => arg 3; whnf
       refine sim_call g_desc_Touches_1_e (g_desc_Touches_1_ok t0 t1 t2 t3 x197 x198 m1_0 m1_1 m1_2 m1_3 m1_4 m1_5) rfl fun x199 hx199 => ?_
       conv => arg 3; whnf
       refine sim_br rfl ?_ ?_
       ·conv => arg 3; whnf
        refine sim_bind (g_slices_partitionCmpFunc_int__desc_Touches_1_e t0 t1 t2 t3 s0.1 s0.2.1 x173.1 x172 m1_0 m1_1 m1_2 m1_3 m1_4 m1_5) (g_slices_partitionCmpFunc_int__desc_Touches_1_ok t0 t1 t2 t3 s0.1 s0.2.1 x173.1 x172 m1_0 m1_1 m1_2 m1_3 m1_4 m1_5) fun x200 hx200 => ?_
        clear hx200
        rcases x200 with x200 | x200
        ·conv => arg 3; whnf
         refine sim_t rfl ?_
         conv => arg 3; whnf
         refine sim_f rfl ?_
         conv => arg 3; whnf
         refine sim_br rfl ?_ ?_
         ·conv => arg 3; whnf
          refine sim_br rfl ?_ ?_
          ·conv => arg 3; whnf
           refine sim_bind (g_slices_pdqsortCmpFunc_int__desc_Touches_1_e t0 t1 t2 t3 s0.1 x200.1 (w64 (s0.2.2.1 - 1)) x200.2 m1_0 m1_1 m1_2 m1_3 m1_4 m1_5) (hrc t0 t1 t2 t3 s0.1 x200.1 (w64 (s0.2.2.1 - 1)) x200.2 m1_0 m1_1 m1_2 m1_3 m1_4 m1_5) fun x201 hx201 => ?_
           conv => arg 3; whnf
           exact sim_again (ih ((w64 (x200.1 + 1)), s0.2.1, (w64 (s0.2.2.1 - 1)), true, true, x201))
          ·conv => arg 3; whnf
           refine sim_bind (g_slices_pdqsortCmpFunc_int__desc_Touches_1_e t0 t1 t2 t3 s0.1 x200.1 (w64 (s0.2.2.1 - 1)) x200.2 m1_0 m1_1 m1_2 m1_3 m1_4 m1_5) (hrc t0 t1 t2 t3 s0.1 x200.1 (w64 (s0.2.2.1 - 1)) x200.2 m1_0 m1_1 m1_2 m1_3 m1_4 m1_5) fun x202 hx202 => ?_
           conv => arg 3; whnf
           exact sim_again (ih ((w64 (x200.1 + 1)), s0.2.1, (w64 (s0.2.2.1 - 1)), false, true, x202))
         ·conv => arg 3; whnf
          refine sim_br rfl ?_ ?_
          ·conv => arg 3; whnf
           refine sim_bind (g_slices_pdqsortCmpFunc_int__desc_Touches_1_e t0 t1 t2 t3 (w64 (x200.1 + 1)) s0.2.1 (w64 (s0.2.2.1 - 1)) x200.2 m1_0 m1_1 m1_2 m1_3 m1_4 m1_5) (hrc t0 t1 t2 t3 (w64 (x200.1 + 1)) s0.2.1 (w64 (s0.2.2.1 - 1)) x200.2 m1_0 m1_1 m1_2 m1_3 m1_4 m1_5) fun x203 hx203 => ?_
           conv => arg 3; whnf
           exact sim_again (ih (s0.1, x200.1, (w64 (s0.2.2.1 - 1)), true, true, x203))
          ·conv => arg 3; whnf
           refine sim_bind (g_slices_pdqsortCmpFunc_int__desc_Touches_1_e t0 t1 t2 t3 (w64 (x200.1 + 1)) s0.2.1 (w64 (s0.2.2.1 - 1)) x200.2 m1_0 m1_1 m1_2 m1_3 m1_4 m1_5) (hrc t0 t1 t2 t3 (w64 (x200.1 + 1)) s0.2.1 (w64 (s0.2.2.1 - 1)) x200.2 m1_0 m1_1 m1_2 m1_3 m1_4 m1_5) fun x204 hx204 => ?_
           conv => arg 3; whnf
           exact sim_again (ih (s0.1, x200.1, (w64 (s0.2.2.1 - 1)), false, true, x204))
        ·conv => arg 3; whnf
         refine sim_f rfl ?_
         conv => arg 3; whnf
         refine sim_f rfl ?_
         conv => arg 3; whnf
         refine sim_br rfl ?_ ?_
         ·conv => arg 3; whnf
          refine sim_br rfl ?_ ?_
          ·conv => arg 3; whnf
           refine sim_bind (g_slices_pdqsortCmpFunc_int__desc_Touches_1_e t0 t1 t2 t3 s0.1 x200.1 (w64 (s0.2.2.1 - 1)) x200.2 m1_0 m1_1 m1_2 m1_3 m1_4 m1_5) (hrc t0 t1 t2 t3 s0.1 x200.1 (w64 (s0.2.2.1 - 1)) x200.2 m1_0 m1_1 m1_2 m1_3 m1_4 m1_5) fun x205 hx205 => ?_
           conv => arg 3; whnf
           exact sim_again (ih ((w64 (x200.1 + 1)), s0.2.1, (w64 (s0.2.2.1 - 1)), true, false, x205))
          ·conv => arg 3; whnf
           refine sim_bind (g_slices_pdqsortCmpFunc_int__desc_Touches_1_e t0 t1 t2 t3 s0.1 x200.1 (w64 (s0.2.2.1 - 1)) x200.2 m1_0 m1_1 m1_2 m1_3 m1_4 m1_5) (hrc t0 t1 t2 t3 s0.1 x200.1 (w64 (s0.2.2.1 - 1)) x200.2 m1_0 m1_1 m1_2 m1_3 m1_4 m1_5) fun x206 hx206 => ?_
           conv => arg 3; whnf
           exact sim_again (ih ((w64 (x200.1 + 1)), s0.2.1, (w64 (s0.2.2.1 - 1)), false, false, x206))
         ·conv => arg 3; whnf
          refine sim_br rfl ?_ ?_
          ·conv => arg 3; whnf
           refine sim_bind (g_slices_pdqsortCmpFunc_int__desc_Touches_1_e t0 t1 t2 t3 (w64 (x200.1 + 1)) s0.2.1 (w64 (s0.2.2.1 - 1)) x200.2 m1_0 m1_1 m1_2 m1_3 m1_4 m1_5) (hrc t0 t1 t2 t3 (w64 (x200.1 + 1)) s0.2.1 (w64 (s0.2.2.1 - 1)) x200.2 m1_0 m1_1 m1_2 m1_3 m1_4 m1_5) fun x207 hx207 => ?_
           conv => arg 3; whnf
           exact sim_again (ih (s0.1, x200.1, (w64 (s0.2.2.1 - 1)), true, false, x207))
          ·conv => arg 3; whnf
           refine sim_bind (g_slices_pdqsortCmpFunc_int__desc_Touches_1_e t0 t1 t2 t3 (w64 (x200.1 + 1)) s0.2.1 (w64 (s0.2.2.1 - 1)) x200.2 m1_0 m1_1 m1_2 m1_3 m1_4 m1_5) (hrc t0 t1 t2 t3 (w64 (x200.1 + 1)) s0.2.1 (w64 (s0.2.2.1 - 1)) x200.2 m1_0 m1_1 m1_2 m1_3 m1_4 m1_5) fun x208 hx208 => ?_
           conv => arg 3; whnf
           exact sim_again (ih (s0.1, x200.1, (w64 (s0.2.2.1 - 1)), false, false, x208))
       ·conv => arg 3; whnf
        refine sim_bind (g_slices_partitionEqualCmpFunc_int__desc_Touches_1_e t0 t1 t2 t3 s0.1 s0.2.1 x173.1 x172 m1_0 m1_1 m1_2 m1_3 m1_4 m1_5) (g_slices_partitionEqualCmpFunc_int__desc_Touches_1_ok t0 t1 t2 t3 s0.1 s0.2.1 x173.1 x172 m1_0 m1_1 m1_2 m1_3 m1_4 m1_5) fun x209 hx209 => ?_
        conv => arg 3; whnf
        exact sim_again (ih (x209.1, s0.2.1, (w64 (s0.2.2.1 - 1)), false, false, x209.2))
      ·conv => arg 3; whnf
       refine sim_bind (g_slices_partitionCmpFunc_int__desc_Touches_1_e t0 t1 t2 t3 s0.1 s0.2.1 x173.1 x172 m1_0 m1_1 m1_2 m1_3 m1_4 m1_5) (g_slices_partitionCmpFunc_int__desc_Touches_1_ok t0 t1 t2 t3 s0.1 s0.2.1 x173.1 x172 m1_0 m1_1 m1_2 m1_3 m1_4 m1_5) fun x210 hx210 => ?_
       clear hx210
       rcases x210 with x210 | x210
       ·conv => arg 3; whnf
        refine sim_t rfl ?_
        conv => arg 3; whnf
        refine sim_f rfl ?_
        conv => arg 3; whnf
        refine sim_br rfl ?_ ?_
        ·conv => arg 3; whnf
         refine sim_br rfl ?_ ?_
         ·conv => arg 3; whnf
          refine sim_bind (g_slices_pdqsortCmpFunc_int__desc_Touches_1_e t0 t1 t2 t3 s0.1 x210.1 (w64 (s0.2.2.1 - 1)) x210.2 m1_0 m1_1 m1_2 m1_3 m1_4 m1_5) (hrc t0 t1 t2 t3 s0.1 x210.1 (w64 (s0.2.2.1 - 1)) x210.2 m1_0 m1_1 m1_2 m1_3 m1_4 m1_5) fun x211 hx211 => ?_
          conv => arg 3; whnf
          exact sim_again (ih ((w64 (x210.1 + 1)), s0.2.1, (w64 (s0.2.2.1 - 1)), true, true, x211))
         ·conv => arg 3; whnf
          refine sim_bind (g_slices_pdqsortCmpFunc_int__desc_Touches_1_e t0 t1 t2 t3 s0.1 x210.1 (w64 (s0.2.2.1 - 1)) x210.2 m1_0 m1_1 m1_2 m1_3 m1_4 m1_5) (hrc t0 t1 t2 t3 s0.1 x210.1 (w64 (s0.2.2.1 - 1)) x210.2 m1_0 m1_1 m1_2 m1_3 m1_4 m1_5) fun x212 hx212 => ?_
          conv => arg 3; whnf
          exact sim_again (ih ((w64 (x210.1 + 1)), s0.2.1, (w64 (s0.2.2.1 - 1)), false, true, x212))
        ·conv => arg 3; whnf
         refine sim_br rfl ?_ ?_
         ·conv => arg 3; whnf
          refine sim_bind (g_slices_pdqsortCmpFunc_int__desc_Touches_1_e t0 t1 t2 t3 (w64 (x210.1 + 1)) s0.2.1 (w64 (s0.2.2.1 - 1)) x210.2 m1_0 m1_1 m1_2 m1_3 m1_4 m1_5) (hrc t0 t1 t2 t3 (w64 (x210.1 + 1)) s0.2.1 (w64 (s0.2.2.1 - 1)) x210.2 m1_0 m1_1 m1_2 m1_3 m1_4 m1_5) fun x213 hx213 => ?_
          conv => arg 3; whnf
          exact sim_again (ih (s0.1, x210.1, (w64 (s0.2.2.1 - 1)), true, true, x213))
         ·conv => arg 3; whnf
          refine sim_bind (g_slices_pdqsortCmpFunc_int__desc_Touches_1_e t0 t1 t2 t3 (w64 (x210.1 + 1)) s0.2.1 (w64 (s0.2.2.1 - 1)) x210.2 m1_0 m1_1 m1_2 m1_3 m1_4 m1_5) (hrc t0 t1 t2 t3 (w64 (x210.1 + 1)) s0.2.1 (w64 (s0.2.2.1 - 1)) x210.2 m1_0 m1_1 m1_2 m1_3 m1_4 m1_5) fun x214 hx214 => ?_
          conv => arg 3; whnf
          exact sim_again (ih (s0.1, x210.1, (w64 (s0.2.2.1 - 1)), false, true, x214))
       ·conv => arg 3; whnf
        refine sim_f rfl ?_
        conv => arg 3; whnf
        refine sim_f rfl ?_
        conv => arg 3; whnf
        refine sim_br rfl ?_ ?_
        ·conv => arg 3; whnf
         refine sim_br rfl ?_ ?_
         ·conv => arg 3; whnf
          refine sim_bind (g_slices_pdqsortCmpFunc_int__desc_Touches_1_e t0 t1 t2 t3 s0.1 x210.1 (w64 (s0.2.2.1 - 1)) x210.2 m1_0 m1_1 m1_2 m1_3 m1_4 m1_5) (hrc t0 t1 t2 t3 s0.1 x210.1 (w64 (s0.2.2.1 - 1)) x210.2 m1_0 m1_1 m1_2 m1_3 m1_4 m1_5) fun x215 hx215 => ?_
          conv => arg 3; whnf
          exact sim_again (ih ((w64 (x210.1 + 1)), s0.2.1, (w64 (s0.2.2.1 - 1)), true, false, x215))
         ·conv => arg 3; whnf
          refine sim_bind (g_slices_pdqsortCmpFunc_int__desc_Touches_1_e t0 t1 t2 t3 s0.1 x210.1 (w64 (s0.2.2.1 - 1)) x210.2 m1_0 m1_1 m1_2 m1_3 m1_4 m1_5) (hrc t0 t1 t2 t3 s0.1 x210.1 (w64 (s0.2.2.1 - 1)) x210.2 m1_0 m1_1 m1_2 m1_3 m1_4 m1_5) fun x216 hx216 => ?_
          conv => arg 3; whnf
          exact sim_again (ih ((w64 (x210.1 + 1)), s0.2.1, (w64 (s0.2.2.1 - 1)), false, false, x216))
        ·conv => arg 3; whnf
         refine sim_br rfl ?_ ?_
         ·conv => arg 3; whnf
          refine sim_bind (g_slices_pdqsortCmpFunc_int__desc_Touches_1_e t0 t1 t2 t3 (w64 (x210.1 + 1)) s0.2.1 (w64 (s0.2.2.1 - 1)) x210.2 m1_0 m1_1 m1_2 m1_3 m1_4 m1_5) (hrc t0 t1 t2 t3 (w64 (x210.1 + 1)) s0.2.1 (w64 (s0.2.2.1 - 1)) x210.2 m1_0 m1_1 m1_2 m1_3 m1_4 m1_5) fun x217 hx217 => ?_
          conv => arg 3; whnf
          exact sim_again (ih (s0.1, x210.1, (w64 (s0.2.2.1 - 1)), true, false, x217))
         ·conv => arg 3; whnf
          refine sim_bind (g_slices_pdqsortCmpFunc_int__desc_Touches_1_e t0 t1 t2 t3 (w64 (x210.1 + 1)) s0.2.1 (w64 (s0.2.2.1 - 1)) x210.2 m1_0 m1_1 m1_2 m1_3 m1_4 m1_5) (hrc t0 t1 t2 t3 (w64 (x210.1 + 1)) s0.2.1 (w64 (s0.2.2.1 - 1)) x210.2 m1_0 m1_1 m1_2 m1_3 m1_4 m1_5) fun x218 hx218 => ?_
          conv => arg 3; whnf
          exact sim_again (ih (s0.1, x210.1, (w64 (s0.2.2.1 - 1)), false, false, x218))
  ·refine sim_ct ?_
   conv => arg 3; whnf
   refine sim_br rfl ?_ ?_
   ·conv => arg 3; whnf
    refine sim_bind (g_slices_insertionSortCmpFunc_int__desc_Touches_1_e t0 t1 t2 t3 s0.1 s0.2.1 s0.2.2.2.2.2 m1_0 m1_1 m1_2 m1_3 m1_4 m1_5) (g_slices_insertionSortCmpFunc_int__desc_Touches_1_ok t0 t1 t2 t3 s0.1 s0.2.1 s0.2.2.2.2.2 m1_0 m1_1 m1_2 m1_3 m1_4 m1_5) fun x121 hx121 => ?_
    conv => arg 3; whnf
    exact sim_ret rfl
   ·conv => arg 3; whnf
    refine sim_br rfl ?_ ?_
    ·conv => arg 3; whnf
     refine sim_bind (g_slices_heapSortCmpFunc_int__desc_Touches_1_e t0 t1 t2 t3 s0.1 s0.2.1 s0.2.2.2.2.2 m1_0 m1_1 m1_2 m1_3 m1_4 m1_5) (g_slices_heapSortCmpFunc_int__desc_Touches_1_ok t0 t1 t2 t3 s0.1 s0.2.1 s0.2.2.2.2.2 m1_0 m1_1 m1_2 m1_3 m1_4 m1_5) fun x122 hx122 => ?_
     conv => arg 3; whnf
     exact sim_ret rfl
    ·conv => arg 3; whnf
     refine sim_bind (g_slices_breakPatternsCmpFunc_int__desc_Touches_1_e t0 t1 t2 t3 s0.1 s0.2.1 s0.2.2.2.2.2 m1_0 m1_1 m1_2 m1_3 m1_4 m1_5) (g_slices_breakPatternsCmpFunc_int__desc_Touches_1_ok t0 t1 t2 t3 s0.1 s0.2.1 s0.2.2.2.2.2 m1_0 m1_1 m1_2 m1_3 m1_4 m1_5) fun x123 hx123 => ?_
     conv => arg 3; whnf
     refine sim_bind (g_slices_choosePivotCmpFunc_int__desc_Touches_1_e t0 t1 t2 t3 s0.1 s0.2.1 x123 m1_0 m1_1 m1_2 m1_3 m1_4 m1_5) (g_slices_choosePivotCmpFunc_int__desc_Touches_1_ok t0 t1 t2 t3 s0.1 s0.2.1 x123 m1_0 m1_1 m1_2 m1_3 m1_4 m1_5) fun x124 hx124 => ?_
     conv => arg 3; whnf
     refine sim_br rfl ?_ ?_
     ·conv => arg 3; whnf
      refine sim_bind (g_slices_reverseRangeCmpFunc_int__desc_Touches_1_e t0 t1 t2 t3 s0.1 s0.2.1 x123 m1_0 m1_1 m1_2 m1_3 m1_4 m1_5) (g_slices_reverseRangeCmpFunc_int__desc_Touches_1_ok t0 t1 t2 t3 s0.1 s0.2.1 x123 m1_0 m1_1 m1_2 m1_3 m1_4 m1_5) fun x125 hx125 => ?_
      conv => arg 3; whnf
      refine sim_br rfl ?_ ?_
      ·conv => arg 3; whnf
       refine sim_get (f := intD) rfl rfl fun x126 hx126 => ?_
       conv => arg 3; whnf
       refine sim_known (nth_of (f := intD) rfl hx126) ?_
       conv => arg 3; whnf
       refine sim_get (f := intD) rfl rfl fun x127 hx127 => ?_
       conv => arg 3; whnf
       refine sim_known (nth_of (f := intD) rfl hx127) ?_
       conv => arg 3; whnf
       refine sim_call g_desc_Touches_1_e (g_desc_Touches_1_ok t0 t1 t2 t3 x126 x127 m1_0 m1_1 m1_2 m1_3 m1_4 m1_5) rfl fun x128 hx128 => ?_
       conv => arg 3; whnf
       refine sim_br rfl ?_ ?_
       ·conv => arg 3; whnf
        refine sim_bind (g_slices_partitionCmpFunc_int__desc_Touches_1_e t0 t1 t2 t3 s0.1 s0.2.1 (w64 ((w64 (s0.2.1 - 1)) - (w64 (x124.1 - s0.1)))) x125 m1_0 m1_1 m1_2 m1_3 m1_4 m1_5) (g_slices_partitionCmpFunc_int__desc_Touches_1_ok t0 t1 t2 t3 s0.1 s0.2.1 (w64 ((w64 (s0.2.1 - 1)) - (w64 (x124.1 - s0.1)))) x125 m1_0 m1_1 m1_2 m1_3 m1_4 m1_5) fun x129 hx129 => ?_
        clear hx129
        rcases x129 with x129 | x129
        ·conv => arg 3; whnf
         refine sim_t rfl ?_
         conv => arg 3; whnf
         refine sim_f rfl ?_
         conv => arg 3; whnf
         refine sim_br rfl ?_ ?_
         ·conv => arg 3; whnf
          refine sim_br rfl ?_ ?_
          ·conv => arg 3; whnf
           refine sim_bind (g_slices_pdqsortCmpFunc_int__desc_Touches_1_e t0 t1 t2 t3 s0.1 x129.1 (w64 (s0.2.2.1 - 1)) x129.2 m1_0 m1_1 m1_2 m1_3 m1_4 m1_5) (hrc t0 t1 t2 t3 s0.1 x129.1 (w64 (s0.2.2.1 - 1)) x129.2 m1_0 m1_1 m1_2 m1_3 m1_4 m1_5) fun x130 hx130 => ?_
           conv => arg 3; whnf
           exact sim_again (ih ((w64 (x129.1 + 1)), s0.2.1, (w64 (s0.2.2.1 - 1)), true, true, x130))
          ·conv => arg 3; whnf
           refine sim_bind (g_slices_pdqsortCmpFunc_int__desc_Touches_1_e t0 t1 t2 t3 s0.1 x129.1 (w64 (s0.2.2.1 - 1)) x129.2 m1_0 m1_1 m1_2 m1_3 m1_4 m1_5) (hrc t0 t1 t2 t3 s0.1 x129.1 (w64 (s0.2.2.1 - 1)) x129.2 m1_0 m1_1 m1_2 m1_3 m1_4 m1_5) fun x131 hx131 => ?_
           conv => arg 3; whnf
           exact sim_again (ih ((w64 (x129.1 + 1)), s0.2.1, (w64 (s0.2.2.1 - 1)), false, true, x131))
         ·conv => arg 3; whnf
          refine sim_br rfl ?_ ?_
          ·conv => arg 3; whnf
           refine sim_bind (g_slices_pdqsortCmpFunc_int__desc_Touches_1_e t0 t1 t2 t3 (w64 (x129.1 + 1)) s0.2.1 (w64 (s0.2.2.1 - 1)) x129.2 m1_0 m1_1 m1_2 m1_3 m1_4 m1_5) (hrc t0 t1 t2 t3 (w64 (x129.1 + 1)) s0.2.1 (w64 (s0.2.2.1 - 1)) x129.2 m1_0 m1_1 m1_2 m1_3 m1_4 m1_5) fun x132 hx132 => ?_
           conv => arg 3; whnf
           exact sim_again (ih (s0.1, x129.1, (w64 (s0.2.2.1 - 1)), true, true, x132))
          ·conv => arg 3; whnf
           refine sim_bind (g_slices_pdqsortCmpFunc_int__desc_Touches_1_e t0 t1 t2 t3 (w64 (x129.1 + 1)) s0.2.1 (w64 (s0.2.2.1 - 1)) x129.2 m1_0 m1_1 m1_2 m1_3 m1_4 m1_5) (hrc t0 t1 t2 t3 (w64 (x129.1 + 1)) s0.2.1 (w64 (s0.2.2.1 - 1)) x129.2 m1_0 m1_1 m1_2 m1_3 m1_4 m1_5) fun x133 hx133 => ?_
           conv => arg 3; whnf
           exact sim_again (ih (s0.1, x129.1, (w64 (s0.2.2.1 - 1)), false, true, x133))
        ·conv => arg 3; whnf
         refine sim_f rfl ?_
         conv => arg 3; whnf
         refine sim_f rfl ?_
         conv => arg 3; whnf
         refine sim_br rfl ?_ ?_
         ·conv => arg 3; whnf
          refine sim_br rfl ?_ ?_
          ·conv => arg 3; whnf
           refine sim_bind (g_slices_pdqsortCmpFunc_int__desc_Touches_1_e t0 t1 t2 t3 s0.1 x129.1 (w64 (s0.2.2.1 - 1)) x129.2 m1_0 m1_1 m1_2 m1_3 m1_4 m1_5) (hrc t0 t1 t2 t3 s0.1 x129.1 (w64 (s0.2.2.1 - 1)) x129.2 m1_0 m1_1 m1_2 m1_3 m1_4 m1_5) fun x134 hx134 => ?_
           conv => arg 3; whnf
           exact sim_again (ih ((w64 (x129.1 + 1)), s0.2.1, (w64 (s0.2.2.1 - 1)), true, false, x134))
          ·conv => arg 3; whnf
           refine sim_bind (g_slices_pdqsortCmpFunc_int__desc_Touches_1_e t0 t1 t2 t3 s0.1 x129.1 (w64 (s0.2.2.1 - 1)) x129.2 m1_0 m1_1 m1_2 m1_3 m1_4 m1_5) (hrc t0 t1 t2 t3 s0.1 x129.1 (w64 (s0.2.2.1 - 1)) x129.2 m1_0 m1_1 m1_2 m1_3 m1_4 m1_5) fun x135 hx135 => ?_
           conv => arg 3; whnf
           exact sim_again (ih ((w64 (x129.1 + 1)), s0.2.1, (w64 (s0.2.2.1 - 1)), false, false, x135))
         ·conv => arg 3; whnf
          refine sim_br rfl ?_ ?_
          ·conv => arg 3; whnf
           refine sim_bind (g_slices_pdqsortCmpFunc_int__desc_Touches_1_e t0 t1 t2 t3 (w64 (x129.1 + 1)) s0.2.1 (w64 (s0.2.2.1 - 1)) x129.2 m1_0 m1_1 m1_2 m1_3 m1_4 m1_5) (hrc t0 t1 t2 t3 (w64 (x129.1 + 1)) s0.2.1 (w64 (s0.2.2.1 - 1)) x129.2 m1_0 m1_1 m1_2 m1_3 m1_4 m1_5) fun x136 hx136 => ?_
           conv => arg 3; whnf
           exact sim_again (ih (s0.1, x129.1, (w64 (s0.2.2.1 - 1)), true, false, x136))
          ·conv => arg 3; whnf
           refine sim_bind (g_slices_pdqsortCmpFunc_int__desc_Touches_1_e t0 t1 t2 t3 (w64 (x129.1 + 1)) s0.2.1 (w64 (s0.2.2.1 - 1)) x129.2 m1_0 m1_1 m1_2 m1_3 m1_4 m1_5) (hrc t0 t1 t2 t3 (w64 (x129.1 + 1)) s0.2.1 (w64 (s0.2.2.1 - 1)) x129.2 m1_0 m1_1 m1_2 m1_3 m1_4 m1_5) fun x137 hx137 => ?_
           conv => arg 3; whnf
           exact sim_again (ih (s0.1, x129.1, (w64 (s0.2.2.1 - 1)), false, false, x137))
       ·conv => arg 3; whnf
        refine sim_bind (g_slices_partitionEqualCmpFunc_int__desc_Touches_1_e t0 t1 t2 t3 s0.1 s0.2.1 (w64 ((w64 (s0.2.1 - 1)) - (w64 (x124.1 - s0.1)))) x125 m1_0 m1_1 m1_2 m1_3 m1_4 m1_5) (g_slices_partitionEqualCmpFunc_int__desc_Touches_1_ok t0 t1 t2 t3 s0.1 s0.2.1 (w64 ((w64 (s0.2.1 - 1)) - (w64 (x124.1 - s0.1)))) x125 m1_0 m1_1 m1_2 m1_3 m1_4 m1_5) fun x138 hx138 => ?_
        conv => arg 3; whnf
        exact sim_again (ih (x138.1, s0.2.1, (w64 (s0.2.2.1 - 1)), false, true, x138.2))
      ·conv => arg 3; whnf
       refine sim_bind (g_slices_partitionCmpFunc_int__desc_Touches_1_e t0 t1 t2 t3 s0.1 s0.2.1 (w64 ((w64 (s0.2.1 - 1)) - (w64 (x124.1 - s0.1)))) x125 m1_0 m1_1 m1_2 m1_3 m1_4 m1_5) (g_slices_partitionCmpFunc_int__desc_Touches_1_ok t0 t1 t2 t3 s0.1 s0.2.1 (w64 ((w64 (s0.2.1 - 1)) - (w64 (x124.1 - s0.1)))) x125 m1_0 m1_1 m1_2 m1_3 m1_4 m1_5) fun x139 hx139 => ?_
       clear hx139
       rcases x139 with x139 | x139
       ·conv => arg 3; whnf
        refine sim_t rfl ?_
        conv => arg 3; whnf
        refine sim_f rfl ?_
        conv => arg 3; whnf
        refine sim_br rfl ?_ ?_
        ·conv => arg 3; whnf
         refine sim_br rfl ?_ ?_
         ·conv => arg 3; whnf
          refine sim_bind (g_slices_pdqsortCmpFunc_int__desc_Touches_1_e t0 t1 t2 t3 s0.1 x139.1 (w64 (s0.2.2.1 - 1)) x139.2 m1_0 m1_1 m1_2 m1_3 m1_4 m1_5) (hrc t0 t1 t2 t3 s0.1 x139.1 (w64 (s0.2.2.1 - 1)) x139.2 m1_0 m1_1 m1_2 m1_3 m1_4 m1_5) fun x140 hx140 => ?_
          conv => arg 3; whnf
          exact sim_again (ih ((w64 (x139.1 + 1)), s0.2.1, (w64 (s0.2.2.1 - 1)), true, true, x140))
         ·conv => arg 3; whnf
          refine sim_bind (g_slices_pdqsortCmpFunc_int__desc_Touches_1_e t0 t1 t2 t3 s0.1 x139.1 (w64 (s0.2.2.1 - 1)) x139.2 m1_0 m1_1 m1_2 m1_3 m1_4 m1_5) (hrc t0 t1 t2 t3 s0.1 x139.1 (w64 (s0.2.2.1 - 1)) x139.2 m1_0 m1_1 m1_2 m1_3 m1_4 m1_5) fun x141 hx141 => ?_
          conv => arg 3; whnf
          exact sim_again (ih ((w64 (x139.1 + 1)), s0.2.1, (w64 (s0.2.2.1 - 1)), false, true, x141))
        ·conv => arg 3; whnf
         refine sim_br rfl ?_ ?_
         ·conv => arg 3; whnf
          refine sim_bind (g_slices_pdqsortCmpFunc_int__desc_Touches_1_e t0 t1 t2 t3 (w64 (x139.1 + 1)) s0.2.1 (w64 (s0.2.2.1 - 1)) x139.2 m1_0 m1_1 m1_2 m1_3 m1_4 m1_5) (hrc t0 t1 t2 t3 (w64 (x139.1 + 1)) s0.2.1 (w64 (s0.2.2.1 - 1)) x139.2 m1_0 m1_1 m1_2 m1_3 m1_4 m1_5) fun x142 hx142 => ?_
          conv => arg 3; whnf
          exact sim_again (ih (s0.1, x139.1, (w64 (s0.2.2.1 - 1)), true, true, x142))
         ·conv => arg 3; whnf
          refine sim_bind (g_slices_pdqsortCmpFunc_int__desc_Touches_1_e t0 t1 t2 t3 (w64 (x139.1 + 1)) s0.2.1 (w64 (s0.2.2.1 - 1)) x139.2 m1_0 m1_1 m1_2 m1_3 m1_4 m1_5) (hrc t0 t1 t2 t3 (w64 (x139.1 + 1)) s0.2.1 (w64 (s0.2.2.1 - 1)) x139.2 m1_0 m1_1 m1_2 m1_3 m1_4 m1_5) fun x143 hx143 => ?_
          conv => arg 3; whnf
          exact sim_again (ih (s0.1, x139.1, (w64 (s0.2.2.1 - 1)), false, true, x143))
       ·conv => arg 3; whnf
        refine sim_f rfl ?_
        conv => arg 3; whnf
        refine sim_f rfl ?_
        conv => arg 3; whnf
        refine sim_br rfl ?_ ?_
        ·conv => arg 3; whnf
         refine sim_br rfl ?_ ?_
         ·conv => arg 3; whnf
          refine sim_bind (g_slices_pdqsortCmpFunc_int__desc_Touches_1_e t0 t1 t2 t3 s0.1 x139.1 (w64 (s0.2.2.1 - 1)) x139.2 m1_0 m1_1 m1_2 m1_3 m1_4 m1_5) (hrc t0 t1 t2 t3 s0.1 x139.1 (w64 (s0.2.2.1 - 1)) x139.2 m1_0 m1_1 m1_2 m1_3 m1_4 m1_5) fun x144 hx144 => ?_
          conv => arg 3; whnf
          exact sim_again (ih ((w64 (x139.1 + 1)), s0.2.1, (w64 (s0.2.2.1 - 1)), true, false, x144))
         ·conv => arg 3; whnf
          refine sim_bind (g_slices_pdqsortCmpFunc_int__desc_Touches_1_e t0 t1 t2 t3 s0.1 x139.1 (w64 (s0.2.2.1 - 1)) x139.2 m1_0 m1_1 m1_2 m1_3 m1_4 m1_5) (hrc t0 t1 t2 t3 s0.1 x139.1 (w64 (s0.2.2.1 - 1)) x139.2 m1_0 m1_1 m1_2 m1_3 m1_4 m1_5) fun x145 hx145 => ?_
          conv => arg 3; whnf
          exact sim_again (ih ((w64 (x139.1 + 1)), s0.2.1, (w64 (s0.2.2.1 - 1)), false, false, x145))
        ·conv => arg 3; whnf
         refine sim_br rfl ?_ ?_
         ·conv => arg 3; whnf
          refine sim_bind (g_slices_pdqsortCmpFunc_int__desc_Touches_1_e t0 t1 t2 t3 (w64 (x139.1 + 1)) s0.2.1 (w64 (s0.2.2.1 - 1)) x139.2 m1_0 m1_1 m1_2 m1_3 m1_4 m1_5) (hrc t0 t1 t2 t3 (w64 (x139.1 + 1)) s0.2.1 (w64 (s0.2.2.1 - 1)) x139.2 m1_0 m1_1 m1_2 m1_3 m1_4 m1_5) fun x146 hx146 => ?_
          conv => arg 3; whnf
          exact sim_again (ih (s0.1, x139.1, (w64 (s0.2.2.1 - 1)), true, false, x146))
         ·conv => arg 3; whnf
          refine sim_bind (g_slices_pdqsortCmpFunc_int__desc_Touches_1_e t0 t1 t2 t3 (w64 (x139.1 + 1)) s0.2.1 (w64 (s0.2.2.1 - 1)) x139.2 m1_0 m1_1 m1_2 m1_3 m1_4 m1_5) (hrc t0 t1 t2 t3 (w64 (x139.1 + 1)) s0.2.1 (w64 (s0.2.2.1 - 1)) x139.2 m1_0 m1_1 m1_2 m1_3 m1_4 m1_5) fun x147 hx147 => ?_
          conv => arg 3; whnf
          exact sim_again (ih (s0.1, x139.1, (w64 (s0.2.2.1 - 1)), false, false, x147))
     ·conv => arg 3; whnf
      refine sim_br rfl ?_ ?_
      ·conv => arg 3; whnf
       refine sim_get (f := intD) rfl rfl fun x148 hx148 => ?_
       conv => arg 3; whnf
       refine sim_known (nth_of (f := intD) rfl hx148) ?_
       conv => arg 3; whnf
       refine sim_get (f := intD) rfl rfl fun x149 hx149 => ?_
       conv => arg 3; whnf
       refine sim_known (nth_of (f := intD) rfl hx149) ?_
       conv => arg 3; whnf
       refine sim_call g_desc_Touches_1_e (g_desc_Touches_1_ok t0 t1 t2 t3 x148 x149 m1_0 m1_1 m1_2 m1_3 m1_4 m1_5) rfl fun x150 hx150 => ?_
       conv => arg 3; whnf
       refine sim_br rfl ?_ ?_
       ·conv => arg 3; whnf
        refine sim_bind (g_slices_partitionCmpFunc_int__desc_Touches_1_e t0 t1 t2 t3 s0.1 s0.2.1 x124.1 x123 m1_0 m1_1 m1_2 m1_3 m1_4 m1_5) (g_slices_partitionCmpFunc_int__desc_Touches_1_ok t0 t1 t2 t3 s0.1 s0.2.1 x124.1 x123 m1_0 m1_1 m1_2 m1_3 m1_4 m1_5) fun x151 hx151 => ?_
        clear hx151
        rcases x151 with x151 | x151
        ·conv => arg 3; whnf
         refine sim_t rfl ?_
         conv => arg 3; whnf
         refine sim_f rfl ?_
         conv => arg 3; whnf
         refine sim_br rfl ?_ ?_
         ·conv => arg 3; whnf
          refine sim_br rfl ?_ ?_
          ·conv => arg 3; whnf
           refine sim_bind (g_slices_pdqsortCmpFunc_int__desc_Touches_1_e t0 t1 t2 t3 s0.1 x151.1 (w64 (s0.2.2.1 - 1)) x151.2 m1_0 m1_1 m1_2 m1_3 m1_4 m1_5) (hrc t0 t1 t2 t3 s0.1 x151.1 (w64 (s0.2.2.1 - 1)) x151.2 m1_0 m1_1 m1_2 m1_3 m1_4 m1_5) fun x152 hx152 => ?_
           conv => arg 3; whnf
           exact sim_again (ih ((w64 (x151.1 + 1)), s0.2.1, (w64 (s0.2.2.1 - 1)), true, true, x152))
          ·conv => arg 3; whnf
           refine sim_bind (g_slices_pdqsortCmpFunc_int__desc_Touches_1_e t0 t1 t2 t3 s0.1 x151.1 (w64 (s0.2.2.1 - 1)) x151.2 m1_0 m1_1 m1_2 m1_3 m1_4 m1_5) (hrc t0 t1 t2 t3 s0.1 x151.1 (w64 (s0.2.2.1 - 1)) x151.2 m1_0 m1_1 m1_2 m1_3 m1_4 m1_5) fun x153 hx153 => ?_
           conv => arg 3; whnf
           exact sim_again (ih ((w64 (x151.1 + 1)), s0.2.1, (w64 (s0.2.2.1 - 1)), false, true, x153))
         ·conv => arg 3; whnf
          refine sim_br rfl ?_ ?_
          ·conv => arg 3; whnf
           refine sim_bind (g_slices_pdqsortCmpFunc_int__desc_Touches_1_e t0 t1 t2 t3 (w64 (x151.1 + 1)) s0.2.1 (w64 (s0.2.2.1 - 1)) x151.2 m1_0 m1_1 m1_2 m1_3 m1_4 m1_5) (hrc t0 t1 t2 t3 (w64 (x151.1 + 1)) s0.2.1 (w64 (s0.2.2.1 - 1)) x151.2 m1_0 m1_1 m1_2 m1_3 m1_4 m1_5) fun x154 hx154 => ?_
           conv => arg 3; whnf
           exact sim_again (ih (s0.1, x151.1, (w64 (s0.2.2.1 - 1)), true, true, x154))
          ·conv => arg 3; whnf
           refine sim_bind (g_slices_pdqsortCmpFunc_int__desc_Touches_1_e t0 t1 t2 t3 (w64 (x151.1 + 1)) s0.2.1 (w64 (s0.2.2.1 - 1)) x151.2 m1_0 m1_1 m1_2 m1_3 m1_4 m1_5) (hrc t0 t1 t2 t3 (w64 (x151.1 + 1)) s0.2.1 (w64 (s0.2.2.1 - 1)) x151.2 m1_0 m1_1 m1_2 m1_3 m1_4 m1_5) fun x155 hx155 => ?_
           conv => arg 3; whnf
           exact sim_again (ih (s0.1, x151.1, (w64 (s0.2.2.1 - 1)), false, true, x155))
        ·conv => arg 3; whnf
         refine sim_f rfl ?_
         conv => arg 3; whnf
         refine sim_f rfl ?_
         conv => arg 3; whnf
         refine sim_br rfl ?_ ?_
         ·conv => arg 3; whnf
          refine sim_br rfl ?_ ?_
          ·conv => arg 3; whnf
           refine sim_bind (g_slices_pdqsortCmpFunc_int__desc_Touches_1_e t0 t1 t2 t3 s0.1 x151.1 (w64 (s0.2.2.1 - 1)) x151.2 m1_0 m1_1 m1_2 m1_3 m1_4 m1_5) (hrc t0 t1 t2 t3 s0.1 x151.1 (w64 (s0.2.2.1 - 1)) x151.2 m1_0 m1_1 m1_2 m1_3 m1_4 m1_5) fun x156 hx156 => ?_
           conv => arg 3; whnf
           exact sim_again (ih ((w64 (x151.1 + 1)), s0.2.1, (w64 (s0.2.2.1 - 1)), true, false, x156))
          ·conv => arg 3; whnf
           refine sim_bind (g_slices_pdqsortCmpFunc_int__desc_Touches_1_e t0 t1 t2 t3 s0.1 x151.1 (w64 (s0.2.2.1 - 1)) x151.2 m1_0 m1_1 m1_2 m1_3 m1_4 m1_5) (hrc t0 t1 t2 t3 s0.1 x151.1 (w64 (s0.2.2.1 - 1)) x151.2 m1_0 m1_1 m1_2 m1_3 m1_4 m1_5) fun x157 hx157 => ?_
           conv => arg 3; whnf
           exact sim_again (ih ((w64 (x151.1 + 1)), s0.2.1, (w64 (s0.2.2.1 - 1)), false, false, x157))
         ·conv => arg 3; whnf
          refine sim_br rfl ?_ ?_
          ·conv => arg 3; whnf
           refine sim_bind (g_slices_pdqsortCmpFunc_int__desc_Touches_1_e t0 t1 t2 t3 (w64 (x151.1 + 1)) s0.2.1 (w64 (s0.2.2.1 - 1)) x151.2 m1_0 m1_1 m1_2 m1_3 m1_4 m1_5) (hrc t0 t1 t2 t3 (w64 (x151.1 + 1)) s0.2.1 (w64 (s0.2.2.1 - 1)) x151.2 m1_0 m1_1 m1_2 m1_3 m1_4 m1_5) fun x158 hx158 => ?_
           conv => arg 3; whnf
           exact sim_again (ih (s0.1, x151.1, (w64 (s0.2.2.1 - 1)), true, false, x158))
          ·conv => arg 3; whnf
           refine sim_bind (g_slices_pdqsortCmpFunc_int__desc_Touches_1_e t0 t1 t2 t3 (w64 (x151.1 + 1)) s0.2.1 (w64 (s0.2.2.1 - 1)) x151.2 m1_0 m1_1 m1_2 m1_3 m1_4 m1_5) (hrc t0 t1 t2 t3 (w64 (x151.1 + 1)) s0.2.1 (w64 (s0.2.2.1 - 1)) x151.2 m1_0 m1_1 m1_2 m1_3 m1_4 m1_5) fun x159 hx159 => ?_
           conv => arg 3; whnf
           exact sim_again (ih (s0.1, x151.1, (w64 (s0.2.2.1 - 1)), false, false, x159))
       ·conv => arg 3; whnf
        refine sim_bind (g_slices_partitionEqualCmpFunc_int__desc_Touches_1_e t0 t1 t2 t3 s0.1 s0.2.1 x124.1 x123 m1_0 m1_1 m1_2 m1_3 m1_4 m1_5) (g_slices_partitionEqualCmpFunc_int__desc_Touches_1_ok t0 t1 t2 t3 s0.1 s0.2.1 x124.1 x123 m1_0 m1_1 m1_2 m1_3 m1_4 m1_5) fun x160 hx160 => ?_
        conv => arg 3; whnf
        exact sim_again (ih (x160.1, s0.2.1, (w64 (s0.2.2.1 - 1)), false, true, x160.2))
      ·conv => arg 3; whnf
       refine sim_bind (g_slices_partitionCmpFunc_int__desc_Touches_1_e t0 t1 t2 t3 s0.1 s0.2.1 x124.1 x123 m1_0 m1_1 m1_2 m1_3 m1_4 m1_5) (g_slices_partitionCmpFunc_int__desc_Touches_1_ok t0 t1 t2 t3 s0.1 s0.2.1 x124.1 x123 m1_0 m1_1 m1_2 m1_3 m1_4 m1_5) fun x161 hx161 => ?_
       clear hx161
       rcases x161 with x161 | x161
       ·conv => arg 3; whnf
        refine sim_t rfl ?_
        conv => arg 3; whnf
        refine sim_f rfl ?_
        conv => arg 3; whnf
        refine sim_br rfl ?_ ?_
        ·conv => arg 3; whnf
         refine sim_br rfl ?_ ?_
         ·conv => arg 3; whnf
          refine sim_bind (g_slices_pdqsortCmpFunc_int__desc_Touches_1_e t0 t1 t2 t3 s0.1 x161.1 (w64 (s0.2.2.1 - 1)) x161.2 m1_0 m1_1 m1_2 m1_3 m1_4 m1_5) (hrc t0 t1 t2 t3 s0.1 x161.1 (w64 (s0.2.2.1 - 1)) x161.2 m1_0 m1_1 m1_2 m1_3 m1_4 m1_5) fun x162 hx162 => ?_
          conv => arg 3; whnf
          exact sim_again (ih ((w64 (x161.1 + 1)), s0.2.1, (w64 (s0.2.2.1 - 1)), true, true, x162))
         ·conv => arg 3; whnf
          refine sim_bind (g_slices_pdqsortCmpFunc_int__desc_Touches_1_e t0 t1 t2 t3 s0.1 x161.1 (w64 (s0.2.2.1 - 1)) x161.2 m1_0 m1_1 m1_2 m1_3 m1_4 m1_5) (hrc t0 t1 t2 t3 s0.1 x161.1 (w64 (s0.2.2.1 - 1)) x161.2 m1_0 m1_1 m1_2 m1_3 m1_4 m1_5) fun x163 hx163 => ?_
          conv => arg 3; whnf
          exact sim_again (ih ((w64 (x161.1 + 1)), s0.2.1, (w64 (s0.2.2.1 - 1)), false, true, x163))
        ·conv => arg 3; whnf
         refine sim_br rfl ?_ ?_
         ·conv => arg 3; whnf
          refine sim_bind (g_slices_pdqsortCmpFunc_int__desc_Touches_1_e t0 t1 t2 t3 (w64 (x161.1 + 1)) s0.2.1 (w64 (s0.2.2.1 - 1)) x161.2 m1_0 m1_1 m1_2 m1_3 m1_4 m1_5) (hrc t0 t1 t2 t3 (w64 (x161.1 + 1)) s0.2.1 (w64 (s0.2.2.1 - 1)) x161.2 m1_0 m1_1 m1_2 m1_3 m1_4 m1_5) fun x164 hx164 => ?_
          conv => arg 3; whnf
          exact sim_again (ih (s0.1, x161.1, (w64 (s0.2.2.1 - 1)), true, true, x164))
         ·conv => arg 3; whnf
          refine sim_bind (g_slices_pdqsortCmpFunc_int__desc_Touches_1_e t0 t1 t2 t3 (w64 (x161.1 + 1)) s0.2.1 (w64 (s0.2.2.1 - 1)) x161.2 m1_0 m1_1 m1_2 m1_3 m1_4 m1_5) (hrc t0 t1 t2 t3 (w64 (x161.1 + 1)) s0.2.1 (w64 (s0.2.2.1 - 1)) x161.2 m1_0 m1_1 m1_2 m1_3 m1_4 m1_5) fun x165 hx165 => ?_
          conv => arg 3; whnf
          exact sim_again (ih (s0.1, x161.1, (w64 (s0.2.2.1 - 1)), false, true, x165))
       ·conv => arg 3; whnf
        refine sim_f rfl ?_
        conv => arg 3; whnf
        refine sim_f rfl ?_
        conv => arg 3; whnf
        refine sim_br rfl ?_ ?_
        ·conv => arg 3; whnf
         refine sim_br rfl ?_ ?_
         ·conv => arg 3; whnf
          refine sim_bind (g_slices_pdqsortCmpFunc_int__desc_Touches_1_e t0 t1 t2 t3 s0.1 x161.1 (w64 (s0.2.2.1 - 1)) x161.2 m1_0 m1_1 m1_2 m1_3 m1_4 m1_5) (hrc t0 t1 t2 t3 s0.1 x161.1 (w64 (s0.2.2.1 - 1)) x161.2 m1_0 m1_1 m1_2 m1_3 m1_4 m1_5) fun x166 hx166 => ?_
          conv => arg 3; whnf
          exact sim_again (ih ((w64 (x161.1 + 1)), s0.2.1, (w64 (s0.2.2.1 - 1)), true, false, x166))
         ·conv => arg 3; whnf
          refine sim_bind (g_slices_pdqsortCmpFunc_int__desc_Touches_1_e t0 t1 t2 t3 s0.1 x161.1 (w64 (s0.2.2.1 - 1)) x161.2 m1_0 m1_1 m1_2 m1_3 m1_4 m1_5) (hrc t0 t1 t2 t3 s0.1 x161.1 (w64 (s0.2.2.1 - 1)) x161.2 m1_0 m1_1 m1_2 m1_3 m1_4 m1_5) fun x167 hx167 => ?_
          conv => arg 3; whnf
          exact sim_again (ih ((w64 (x161.1 + 1)), s0.2.1, (w64 (s0.2.2.1 - 1)), false, false, x167))
        ·conv => arg 3; whnf
         refine sim_br rfl ?_ ?_
         ·conv => arg 3; whnf
          refine sim_bind (g_slices_pdqsortCmpFunc_int__desc_Touches_1_e t0 t1 t2 t3 (w64 (x161.1 + 1)) s0.2.1 (w64 (s0.2.2.1 - 1)) x161.2 m1_0 m1_1 m1_2 m1_3 m1_4 m1_5) (hrc t0 t1 t2 t3 (w64 (x161.1 + 1)) s0.2.1 (w64 (s0.2.2.1 - 1)) x161.2 m1_0 m1_1 m1_2 m1_3 m1_4 m1_5) fun x168 hx168 => ?_
          conv => arg 3; whnf
          exact sim_again (ih (s0.1, x161.1, (w64 (s0.2.2.1 - 1)), true, false, x168))
         ·conv => arg 3; whnf
          refine sim_bind (g_slices_pdqsortCmpFunc_int__desc_Touches_1_e t0 t1 t2 t3 (w64 (x161.1 + 1)) s0.2.1 (w64 (s0.2.2.1 - 1)) x161.2 m1_0 m1_1 m1_2 m1_3 m1_4 m1_5) (hrc t0 t1 t2 t3 (w64 (x161.1 + 1)) s0.2.1 (w64 (s0.2.2.1 - 1)) x161.2 m1_0 m1_1 m1_2 m1_3 m1_4 m1_5) fun x169 hx169 => ?_
          conv => arg 3; whnf
          exact sim_again (ih (s0.1, x161.1, (w64 (s0.2.2.1 - 1)), false, false, x169))
 ·refine sim_ct ?_
  rcases hb : s0.2.2.2.2.1 with _ | _
  ·refine sim_cf ?_
   conv => arg 3; whnf
   refine sim_br rfl ?_ ?_
   ·conv => arg 3; whnf
    refine sim_bind (g_slices_insertionSortCmpFunc_int__desc_Touches_1_e t0 t1 t2 t3 s0.1 s0.2.1 s0.2.2.2.2.2 m1_0 m1_1 m1_2 m1_3 m1_4 m1_5) (g_slices_insertionSortCmpFunc_int__desc_Touches_1_ok t0 t1 t2 t3 s0.1 s0.2.1 s0.2.2.2.2.2 m1_0 m1_1 m1_2 m1_3 m1_4 m1_5) fun x73 hx73 => ?_
    conv => arg 3; whnf
    exact sim_ret rfl
   ·conv => arg 3; whnf
    refine sim_br rfl ?_ ?_
    ·conv => arg 3; whnf
     refine sim_bind (g_slices_heapSortCmpFunc_int__desc_Touches_1_e t0 t1 t2 t3 s0.1 s0.2.1 s0.2.2.2.2.2 m1_0 m1_1 m1_2 m1_3 m1_4 m1_5) (g_slices_heapSortCmpFunc_int__desc_Touches_1_ok t0 t1 t2 t3 s0.1 s0.2.1 s0.2.2.2.2.2 m1_0 m1_1 m1_2 m1_3 m1_4 m1_5) fun x74 hx74 => ?_
     conv => arg 3; whnf
     exact sim_ret rfl
    ·conv => arg 3; whnf
     refine sim_bind (g_slices_choosePivotCmpFunc_int__desc_Touches_1_e t0 t1 t2 t3 s0.1 s0.2.1 s0.2.2.2.2.2 m1_0 m1_1 m1_2 m1_3 m1_4 m1_5) (g_slices_choosePivotCmpFunc_int__desc_Touches_1_ok t0 t1 t2 t3 s0.1 s0.2.1 s0.2.2.2.2.2 m1_0 m1_1 m1_2 m1_3 m1_4 m1_5) fun x75 hx75 => ?_
     conv => arg 3; whnf
     refine sim_br rfl ?_ ?_
     ·conv => arg 3; whnf
      refine sim_bind (g_slices_reverseRangeCmpFunc_int__desc_Touches_1_e t0 t1 t2 t3 s0.1 s0.2.1 s0.2.2.2.2.2 m1_0 m1_1 m1_2 m1_3 m1_4 m1_5) (g_slices_reverseRangeCmpFunc_int__desc_Touches_1_ok t0 t1 t2 t3 s0.1 s0.2.1 s0.2.2.2.2.2 m1_0 m1_1 m1_2 m1_3 m1_4 m1_5) fun x76 hx76 => ?_
      conv => arg 3; whnf
      refine sim_br rfl ?_ ?_
      ·conv => arg 3; whnf
       refine sim_get (f := intD) rfl rfl fun x77 hx77 => ?_
       conv => arg 3; whnf
       refine sim_known (nth_of (f := intD) rfl hx77) ?_
       conv => arg 3; whnf
       refine sim_get (f := intD) rfl rfl fun x78 hx78 => ?_
       conv => arg 3; whnf
       refine sim_known (nth_of (f := intD) rfl hx78) ?_
       conv => arg 3; whnf
       refine sim_call g_desc_Touches_1_e (g_desc_Touches_1_ok t0 t1 t2 t3 x77 x78 m1_0 m1_1 m1_2 m1_3 m1_4 m1_5) rfl fun x79 hx79 => ?_
       conv => arg 3; whnf
       refine sim_br rfl ?_ ?_
       ·conv => arg 3; whnf
        refine sim_bind (g_slices_partitionCmpFunc_int__desc_Touches_1_e t0 t1 t2 t3 s0.1 s0.2.1 (w64 ((w64 (s0.2.1 - 1)) - (w64 (x75.1 - s0.1)))) x76 m1_0 m1_1 m1_2 m1_3 m1_4 m1_5) (g_slices_partitionCmpFunc_int__desc_Touches_1_ok t0 t1 t2 t3 s0.1 s0.2.1 (w64 ((w64 (s0.2.1 - 1)) - (w64 (x75.1 - s0.1)))) x76 m1_0 m1_1 m1_2 m1_3 m1_4 m1_5) fun x80 hx80 => ?_
        clear hx80
        rcases x80 with x80 | x80
        ·conv => arg 3; whnf
         refine sim_t rfl ?_
         conv => arg 3; whnf
         refine sim_f rfl ?_
         conv => arg 3; whnf
         refine sim_br rfl ?_ ?_
         ·conv => arg 3; whnf
          refine sim_br rfl ?_ ?_
          ·conv => arg 3; whnf
           refine sim_bind (g_slices_pdqsortCmpFunc_int__desc_Touches_1_e t0 t1 t2 t3 s0.1 x80.1 s0.2.2.1 x80.2 m1_0 m1_1 m1_2 m1_3 m1_4 m1_5) (hrc t0 t1 t2 t3 s0.1 x80.1 s0.2.2.1 x80.2 m1_0 m1_1 m1_2 m1_3 m1_4 m1_5) fun x81 hx81 => ?_
           conv => arg 3; whnf
           exact sim_again (ih ((w64 (x80.1 + 1)), s0.2.1, s0.2.2.1, true, true, x81))
          ·conv => arg 3; whnf
           refine sim_bind (g_slices_pdqsortCmpFunc_int__desc_Touches_1_e t0 t1 t2 t3 s0.1 x80.1 s0.2.2.1 x80.2 m1_0 m1_1 m1_2 m1_3 m1_4 m1_5) (hrc t0 t1 t2 t3 s0.1 x80.1 s0.2.2.1 x80.2 m1_0 m1_1 m1_2 m1_3 m1_4 m1_5) fun x82 hx82 => ?_
           conv => arg 3; whnf
           exact sim_again (ih ((w64 (x80.1 + 1)), s0.2.1, s0.2.2.1, false, true, x82))
         ·conv => arg 3; whnf
          refine sim_br rfl ?_ ?_
          ·conv => arg 3; whnf
           refine sim_bind (g_slices_pdqsortCmpFunc_int__desc_Touches_1_e t0 t1 t2 t3 (w64 (x80.1 + 1)) s0.2.1 s0.2.2.1 x80.2 m1_0 m1_1 m1_2 m1_3 m1_4 m1_5) (hrc t0 t1 t2 t3 (w64 (x80.1 + 1)) s0.2.1 s0.2.2.1 x80.2 m1_0 m1_1 m1_2 m1_3 m1_4 m1_5) fun x83 hx83 => ?_
           conv => arg 3; whnf
           exact sim_again (ih (s0.1, x80.1, s0.2.2.1, true, true, x83))
          ·conv => arg 3; whnf
           refine sim_bind (g_slices_pdqsortCmpFunc_int__desc_Touches_1_e t0 t1 t2 t3 (w64 (x80.1 + 1)) s0.2.1 s0.2.2.1 x80.2 m1_0 m1_1 m1_2 m1_3 m1_4 m1_5) (hrc t0 t1 t2 t3 (w64 (x80.1 + 1)) s0.2.1 s0.2.2.1 x80.2 m1_0 m1_1 m1_2 m1_3 m1_4 m1_5) fun x84 hx84 => ?_
           conv => arg 3; whnf
           exact sim_again (ih (s0.1, x80.1, s0.2.2.1, false, true, x84))
        ·conv => arg 3; whnf
         refine sim_f rfl ?_
         conv => arg 3; whnf
         refine sim_f rfl ?_
         conv => arg 3; whnf
         refine sim_br rfl ?_ ?_
         ·conv => arg 3; whnf
          refine sim_br rfl ?_ ?_
          ·conv => arg 3; whnf
           refine sim_bind (g_slices_pdqsortCmpFunc_int__desc_Touches_1_e t0 t1 t2 t3 s0.1 x80.1 s0.2.2.1 x80.2 m1_0 m1_1 m1_2 m1_3 m1_4 m1_5) (hrc t0 t1 t2 t3 s0.1 x80.1 s0.2.2.1 x80.2 m1_0 m1_1 m1_2 m1_3 m1_4 m1_5) fun x85 hx85 => ?_
           conv => arg 3; whnf
           exact sim_again (ih ((w64 (x80.1 + 1)), s0.2.1, s0.2.2.1, true, false, x85))
          ·conv => arg 3; whnf
           refine sim_bind (g_slices_pdqsortCmpFunc_int__desc_Touches_1_e t0 t1 t2 t3 s0.1 x80.1 s0.2.2.1 x80.2 m1_0 m1_1 m1_2 m1_3 m1_4 m1_5) (hrc t0 t1 t2 t3 s0.1 x80.1 s0.2.2.1 x80.2 m1_0 m1_1 m1_2 m1_3 m1_4 m1_5) fun x86 hx86 => ?_
           conv => arg 3; whnf
           exact sim_again (ih ((w64 (x80.1 + 1)), s0.2.1, s0.2.2.1, false, false, x86))
         ·conv => arg 3; whnf
          refine sim_br rfl ?_ ?_
          ·conv => arg 3; whnf
           refine sim_bind (g_slices_pdqsortCmpFunc_int__desc_Touches_1_e t0 t1 t2 t3 (w64 (x80.1 + 1)) s0.2.1 s0.2.2.1 x80.2 m1_0 m1_1 m1_2 m1_3 m1_4 m1_5) (hrc t0 t1 t2 t3 (w64 (x80.1 + 1)) s0.2.1 s0.2.2.1 x80.2 m1_0 m1_1 m1_2 m1_3 m1_4 m1_5) fun x87 hx87 => ?_
           conv => arg 3; whnf
           exact sim_again (ih (s0.1, x80.1, s0.2.2.1, true, false, x87))
          ·conv => arg 3; whnf
           refine sim_bind (g_slices_pdqsortCmpFunc_int__desc_Touches_1_e t0 t1 t2 t3 (w64 (x80.1 + 1)) s0.2.1 s0.2.2.1 x80.2 m1_0 m1_1 m1_2 m1_3 m1_4 m1_5) (hrc t0 t1 t2 t3 (w64 (x80.1 + 1)) s0.2.1 s0.2.2.1 x80.2 m1_0 m1_1 m1_2 m1_3 m1_4 m1_5) fun x88 hx88 => ?_
           conv => arg 3; whnf
           exact sim_again (ih (s0.1, x80.1, s0.2.2.1, false, false, x88))
       ·conv => arg 3; whnf
        refine sim_bind (g_slices_partitionEqualCmpFunc_int__desc_Touches_1_e t0 t1 t2 t3 s0.1 s0.2.1 (w64 ((w64 (s0.2.1 - 1)) - (w64 (x75.1 - s0.1)))) x76 m1_0 m1_1 m1_2 m1_3 m1_4 m1_5) (g_slices_partitionEqualCmpFunc_int__desc_Touches_1_ok t0 t1 t2 t3 s0.1 s0.2.1 (w64 ((w64 (s0.2.1 - 1)) - (w64 (x75.1 - s0.1)))) x76 m1_0 m1_1 m1_2 m1_3 m1_4 m1_5) fun x89 hx89 => ?_
        conv => arg 3; whnf
        exact sim_again (ih (x89.1, s0.2.1, s0.2.2.1, true, false, x89.2))
      ·conv => arg 3; whnf
       refine sim_bind (g_slices_partitionCmpFunc_int__desc_Touches_1_e t0 t1 t2 t3 s0.1 s0.2.1 (w64 ((w64 (s0.2.1 - 1)) - (w64 (x75.1 - s0.1)))) x76 m1_0 m1_1 m1_2 m1_3 m1_4 m1_5) (g_slices_partitionCmpFunc_int__desc_Touches_1_ok t0 t1 t2 t3 s0.1 s0.2.1 (w64 ((w64 (s0.2.1 - 1)) - (w64 (x75.1 - s0.1)))) x76 m1_0 m1_1 m1_2 m1_3 m1_4 m1_5) fun x90 hx90 => ?_
       clear hx90
       rcases x90 with x90 | x90
       ·conv => arg 3; whnf
        refine sim_t rfl ?_
        conv => arg 3; whnf
        refine sim_f rfl ?_
        conv => arg 3; whnf
        refine sim_br rfl ?_ ?_
        ·conv => arg 3; whnf
         refine sim_br rfl ?_ ?_
         ·conv => arg 3; whnf
          refine sim_bind (g_slices_pdqsortCmpFunc_int__desc_Touches_1_e t0 t1 t2 t3 s0.1 x90.1 s0.2.2.1 x90.2 m1_0 m1_1 m1_2 m1_3 m1_4 m1_5) (hrc t0 t1 t2 t3 s0.1 x90.1 s0.2.2.1 x90.2 m1_0 m1_1 m1_2 m1_3 m1_4 m1_5) fun x91 hx91 => ?_
          conv => arg 3; whnf
          exact sim_again (ih ((w64 (x90.1 + 1)), s0.2.1, s0.2.2.1, true, true, x91))
         ·conv => arg 3; whnf
          refine sim_bind (g_slices_pdqsortCmpFunc_int__desc_Touches_1_e t0 t1 t2 t3 s0.1 x90.1 s0.2.2.1 x90.2 m1_0 m1_1 m1_2 m1_3 m1_4 m1_5) (hrc t0 t1 t2 t3 s0.1 x90.1 s0.2.2.1 x90.2 m1_0 m1_1 m1_2 m1_3 m1_4 m1_5) fun x92 hx92 => ?_
          conv => arg 3; whnf
          exact sim_again (ih ((w64 (x90.1 + 1)), s0.2.1, s0.2.2.1, false, true, x92))
        ·conv => arg 3; whnf
         refine sim_br rfl ?_ ?_
         ·conv => arg 3; whnf
          refine sim_bind (g_slices_pdqsortCmpFunc_int__desc_Touches_1_e t0 t1 t2 t3 (w64 (x90.1 + 1)) s0.2.1 s0.2.2.1 x90.2 m1_0 m1_1 m1_2 m1_3 m1_4 m1_5) (hrc t0 t1 t2 t3 (w64 (x90.1 + 1)) s0.2.1 s0.2.2.1 x90.2 m1_0 m1_1 m1_2 m1_3 m1_4 m1_5) fun x93 hx93 => ?_
          conv => arg 3; whnf
          exact sim_again (ih (s0.1, x90.1, s0.2.2.1, true, true, x93))
         ·conv => arg 3; whnf
          refine sim_bind (g_slices_pdqsortCmpFunc_int__desc_Touches_1_e t0 t1 t2 t3 (w64 (x90.1 + 1)) s0.2.1 s0.2.2.1 x90.2 m1_0 m1_1 m1_2 m1_3 m1_4 m1_5) (hrc t0 t1 t2 t3 (w64 (x90.1 + 1)) s0.2.1 s0.2.2.1 x90.2 m1_0 m1_1 m1_2 m1_3 m1_4 m1_5) fun x94 hx94 => ?_
          conv => arg 3; whnf
          exact sim_again (ih (s0.1, x90.1, s0.2.2.1, false, true, x94))
       ·conv => arg 3; whnf
        refine sim_f rfl ?_
        conv => arg 3; whnf
        refine sim_f rfl ?_
        conv => arg 3; whnf
        refine sim_br rfl ?_ ?_
        ·conv => arg 3; whnf
         refine sim_br rfl ?_ ?_
         ·conv => arg 3; whnf
          refine sim_bind (g_slices_pdqsortCmpFunc_int__desc_Touches_1_e t0 t1 t2 t3 s0.1 x90.1 s0.2.2.1 x90.2 m1_0 m1_1 m1_2 m1_3 m1_4 m1_5) (hrc t0 t1 t2 t3 s0.1 x90.1 s0.2.2.1 x90.2 m1_0 m1_1 m1_2 m1_3 m1_4 m1_5) fun x95 hx95 => ?_
          conv => arg 3; whnf
          exact sim_again (ih ((w64 (x90.1 + 1)), s0.2.1, s0.2.2.1, true, false, x95))
         ·conv => arg 3; whnf
          refine sim_bind (g_slices_pdqsortCmpFunc_int__desc_Touches_1_e t0 t1 t2 t3 s0.1 x90.1 s0.2.2.1 x90.2 m1_0 m1_1 m1_2 m1_3 m1_4 m1_5) (hrc t0 t1 t2 t3 s0.1 x90.1 s0.2.2.1 x90.2 m1_0 m1_1 m1_2 m1_3 m1_4 m1_5) fun x96 hx96 => ?_
          conv => arg 3; whnf
          exact sim_again (ih ((w64 (x90.1 + 1)), s0.2.1, s0.2.2.1, false, false, x96))
        ·conv => arg 3; whnf
         refine sim_br rfl ?_ ?_
         ·conv => arg 3; whnf
          refine sim_bind (g_slices_pdqsortCmpFunc_int__desc_Touches_1_e t0 t1 t2 t3 (w64 (x90.1 + 1)) s0.2.1 s0.2.2.1 x90.2 m1_0 m1_1 m1_2 m1_3 m1_4 m1_5) (hrc t0 t1 t2 t3 (w64 (x90.1 + 1)) s0.2.1 s0.2.2.1 x90.2 m1_0 m1_1 m1_2 m1_3 m1_4 m1_5) fun x97 hx97 => ?_
          conv => arg 3; whnf
          exact sim_again (ih (s0.1, x90.1, s0.2.2.1, true, false, x97))
         ·conv => arg 3; whnf
          refine sim_bind (g_slices_pdqsortCmpFunc_int__desc_Touches_1_e t0 t1 t2 t3 (w64 (x90.1 + 1)) s0.2.1 s0.2.2.1 x90.2 m1_0 m1_1 m1_2 m1_3 m1_4 m1_5) (hrc t0 t1 t2 t3 (w64 (x90.1 + 1)) s0.2.1 s0.2.2.1 x90.2 m1_0 m1_1 m1_2 m1_3 m1_4 m1_5) fun x98 hx98 => ?_
          conv => arg 3; whnf
          exact sim_again (ih (s0.1, x90.1, s0.2.2.1, false, false, x98))
     ·conv => arg 3; whnf
      refine sim_br rfl ?_ ?_
      ·conv => arg 3; whnf
       refine sim_get (f := intD) rfl rfl fun x99 hx99 => ?_
       conv => arg 3; whnf
       refine sim_known (nth_of (f := intD) rfl hx99) ?_
       conv => arg 3; whnf
       refine sim_get (f := intD) rfl rfl fun x100 hx100 => ?_
       conv => arg 3; whnf
       refine sim_known (nth_of (f := intD) rfl hx100) ?_
       conv => arg 3; whnf
       refine sim_call g_desc_Touches_1_e (g_desc_Touches_1_ok t0 t1 t2 t3 x99 x100 m1_0 m1_1 m1_2 m1_3 m1_4 m1_5) rfl fun x101 hx101 => ?_
       conv => arg 3; whnf
       refine sim_br rfl ?_ ?_
       ·conv => arg 3; whnf
        refine sim_bind (g_slices_partitionCmpFunc_int__desc_Touches_1_e t0 t1 t2 t3 s0.1 s0.2.1 x75.1 s0.2.2.2.2.2 m1_0 m1_1 m1_2 m1_3 m1_4 m1_5) (g_slices_partitionCmpFunc_int__desc_Touches_1_ok t0 t1 t2 t3 s0.1 s0.2.1 x75.1 s0.2.2.2.2.2 m1_0 m1_1 m1_2 m1_3 m1_4 m1_5) fun x102 hx102 => ?_
        clear hx102
        rcases x102 with x102 | x102
        ·conv => arg 3; whnf
         refine sim_t rfl ?_
         conv => arg 3; whnf
         refine sim_f rfl ?_
         conv => arg 3; whnf
         refine sim_br rfl ?_ ?_
         ·conv => arg 3; whnf
          refine sim_br rfl ?_ ?_
          ·conv => arg 3; whnf
           refine sim_bind (g_slices_pdqsortCmpFunc_int__desc_Touches_1_e t0 t1 t2 t3 s0.1 x102.1 s0.2.2.1 x102.2 m1_0 m1_1 m1_2 m1_3 m1_4 m1_5) (hrc t0 t1 t2 t3 s0.1 x102.1 s0.2.2.1 x102.2 m1_0 m1_1 m1_2 m1_3 m1_4 m1_5) fun x103 hx103 => ?_
           conv => arg 3; whnf
           exact sim_again (ih ((w64 (x102.1 + 1)), s0.2.1, s0.2.2.1, true, true, x103))
          ·conv => arg 3; whnf
           refine sim_bind (g_slices_pdqsortCmpFunc_int__desc_Touches_1_e t0 t1 t2 t3 s0.1 x102.1 s0.2.2.1 x102.2 m1_0 m1_1 m1_2 m1_3 m1_4 m1_5) (hrc t0 t1 t2 t3 s0.1 x102.1 s0.2.2.1 x102.2 m1_0 m1_1 m1_2 m1_3 m1_4 m1_5) fun x104 hx104 => ?_
           conv => arg 3; whnf
           exact sim_again (ih ((w64 (x102.1 + 1)), s0.2.1, s0.2.2.1, false, true, x104))
         ·conv => arg 3; whnf
          refine sim_br rfl ?_ ?_
          ·conv => arg 3; whnf
           refine sim_bind (g_slices_pdqsortCmpFunc_int__desc_Touches_1_e t0 t1 t2 t3 (w64 (x102.1 + 1)) s0.2.1 s0.2.2.1 x102.2 m1_0 m1_1 m1_2 m1_3 m1_4 m1_5) (hrc t0 t1 t2 t3 (w64 (x102.1 + 1)) s0.2.1 s0.2.2.1 x102.2 m1_0 m1_1 m1_2 m1_3 m1_4 m1_5) fun x105 hx105 => ?_
           conv => arg 3; whnf
           exact sim_again (ih (s0.1, x102.1, s0.2.2.1, true, true, x105))
          ·conv => arg 3; whnf
           refine sim_bind (g_slices_pdqsortCmpFunc_int__desc_Touches_1_e t0 t1 t2 t3 (w64 (x102.1 + 1)) s0.2.1 s0.2.2.1 x102.2 m1_0 m1_1 m1_2 m1_3 m1_4 m1_5) (hrc t0 t1 t2 t3 (w64 (x102.1 + 1)) s0.2.1 s0.2.2.1 x102.2 m1_0 m1_1 m1_2 m1_3 m1_4 m1_5) fun x106 hx106 => ?_
           conv => arg 3; whnf
           exact sim_again (ih (s0.1, x102.1, s0.2.2.1, false, true, x106))
        ·conv => arg 3; whnf
         refine sim_f rfl ?_
         conv => arg 3; whnf
         refine sim_f rfl ?_
         conv => arg 3; whnf
         refine sim_br rfl ?_ ?_
         ·conv => arg 3; whnf
          refine sim_br rfl ?_ ?_
          ·conv => arg 3; whnf
           refine sim_bind (g_slices_pdqsortCmpFunc_int__desc_Touches_1_e t0 t1 t2 t3 s0.1 x102.1 s0.2.2.1 x102.2 m1_0 m1_1 m1_2 m1_3 m1_4 m1_5) (hrc t0 t1 t2 t3 s0.1 x102.1 s0.2.2.1 x102.2 m1_0 m1_1 m1_2 m1_3 m1_4 m1_5) fun x107 hx107 => ?_
           conv => arg 3; whnf
           exact sim_again (ih ((w64 (x102.1 + 1)), s0.2.1, s0.2.2.1, true, false, x107))
          ·conv => arg 3; whnf
           refine sim_bind (g_slices_pdqsortCmpFunc_int__desc_Touches_1_e t0 t1 t2 t3 s0.1 x102.1 s0.2.2.1 x102.2 m1_0 m1_1 m1_2 m1_3 m1_4 m1_5) (hrc t0 t1 t2 t3 s0.1 x102.1 s0.2.2.1 x102.2 m1_0 m1_1 m1_2 m1_3 m1_4 m1_5) fun x108 hx108 => ?_
           conv => arg 3; whnf
           exact sim_again (ih ((w64 (x102.1 + 1)), s0.2.1, s0.2.2.1, false, false, x108))
         ·conv => arg 3; whnf
          refine sim_br rfl ?_ ?_
          ·conv => arg 3; whnf
           refine sim_bind (g_slices_pdqsortCmpFunc_int__desc_Touches_1_e t0 t1 t2 t3 (w64 (x102.1 + 1)) s0.2.1 s0.2.2.1 x102.2 m1_0 m1_1 m1_2 m1_3 m1_4 m1_5) (hrc t0 t1 t2 t3 (w64 (x102.1 + 1)) s0.2.1 s0.2.2.1 x102.2 m1_0 m1_1 m1_2 m1_3 m1_4 m1_5) fun x109 hx109 => ?_
           conv => arg 3; whnf
           exact sim_again (ih (s0.1, x102.1, s0.2.2.1, true, false, x109))
          ·conv => arg 3; whnf
           refine sim_bind (g_slices_pdqsortCmpFunc_int__desc_Touches_1_e t0 t1 t2 t3 (w64 (x102.1 + 1)) s0.2.1 s0.2.2.1 x102.2 m1_0 m1_1 m1_2 m1_3 m1_4 m1_5) (hrc t0 t1 t2 t3 (w64 (x102.1 + 1)) s0.2.1 s0.2.2.1 x102.2 m1_0 m1_1 m1_2 m1_3 m1_4 m1_5) fun x110 hx110 => ?_
           conv => arg 3; whnf
           exact sim_again (ih (s0.1, x102.1, s0.2.2.1, false, false, x110))
       ·conv => arg 3; whnf
        refine sim_bind (g_slices_partitionEqualCmpFunc_int__desc_Touches_1_e t0 t1 t2 t3 s0.1 s0.2.1 x75.1 s0.2.2.2.2.2 m1_0 m1_1 m1_2 m1_3 m1_4 m1_5) (g_slices_partitionEqualCmpFunc_int__desc_Touches_1_ok t0 t1 t2 t3 s0.1 s0.2.1 x75.1 s0.2.2.2.2.2 m1_0 m1_1 m1_2 m1_3 m1_4 m1_5) fun x111 hx111 => ?_
        conv => arg 3; whnf
        exact sim_again (ih (x111.1, s0.2.1, s0.2.2.1, true, false, x111.2))
      ·conv => arg 3; whnf
       refine sim_bind (g_slices_partitionCmpFunc_int__desc_Touches_1_e t0 t1 t2 t3 s0.1 s0.2.1 x75.1 s0.2.2.2.2.2 m1_0 m1_1 m1_2 m1_3 m1_4 m1_5) (g_slices_partitionCmpFunc_int__desc_Touches_1_ok t0 t1 t2 t3 s0.1 s0.2.1 x75.1 s0.2.2.2.2.2 m1_0 m1_1 m1_2 m1_3 m1_4 m1_5) fun x112 hx112 => ?_
       clear hx112
       rcases x112 with x112 | x112
       ·conv => arg 3; whnf
        refine sim_t rfl ?_
        conv => arg 3; whnf
        refine sim_f rfl ?_
        conv => arg 3; whnf
        refine sim_br rfl ?_ ?_
        ·conv => arg 3; whnf
         refine sim_br rfl ?_ ?_
         ·conv => arg 3; whnf
          refine sim_bind (g_slices_pdqsortCmpFunc_int__desc_Touches_1_e t0 t1 t2 t3 s0.1 x112.1 s0.2.2.1 x112.2 m1_0 m1_1 m1_2 m1_3 m1_4 m1_5) (hrc t0 t1 t2 t3 s0.1 x112.1 s0.2.2.1 x112.2 m1_0 m1_1 m1_2 m1_3 m1_4 m1_5) fun x113 hx113 => ?_
          conv => arg 3; whnf
          exact sim_again (ih ((w64 (x112.1 + 1)), s0.2.1, s0.2.2.1, true, true, x113))
         ·conv => arg 3; whnf
          refine sim_bind (g_slices_pdqsortCmpFunc_int__desc_Touches_1_e t0 t1 t2 t3 s0.1 x112.1 s0.2.2.1 x112.2 m1_0 m1_1 m1_2 m1_3 m1_4 m1_5) (hrc t0 t1 t2 t3 s0.1 x112.1 s0.2.2.1 x112.2 m1_0 m1_1 m1_2 m1_3 m1_4 m1_5) fun x114 hx114 => ?_
          conv => arg 3; whnf
          exact sim_again (ih ((w64 (x112.1 + 1)), s0.2.1, s0.2.2.1, false, true, x114))
        ·conv => arg 3; whnf
         refine sim_br rfl ?_ ?_
         ·conv => arg 3; whnf
          refine sim_bind (g_slices_pdqsortCmpFunc_int__desc_Touches_1_e t0 t1 t2 t3 (w64 (x112.1 + 1)) s0.2.1 s0.2.2.1 x112.2 m1_0 m1_1 m1_2 m1_3 m1_4 m1_5) (hrc t0 t1 t2 t3 (w64 (x112.1 + 1)) s0.2.1 s0.2.2.1 x112.2 m1_0 m1_1 m1_2 m1_3 m1_4 m1_5) fun x115 hx115 => ?_
          conv => arg 3; whnf
          exact sim_again (ih (s0.1, x112.1, s0.2.2.1, true, true, x115))
         ·conv => arg 3; whnf
          refine sim_bind (g_slices_pdqsortCmpFunc_int__desc_Touches_1_e t0 t1 t2 t3 (w64 (x112.1 + 1)) s0.2.1 s0.2.2.1 x112.2 m1_0 m1_1 m1_2 m1_3 m1_4 m1_5) (hrc t0 t1 t2 t3 (w64 (x112.1 + 1)) s0.2.1 s0.2.2.1 x112.2 m1_0 m1_1 m1_2 m1_3 m1_4 m1_5) fun x116 hx116 => ?_
          conv => arg 3; whnf
          exact sim_again (ih (s0.1, x112.1, s0.2.2.1, false, true, x116))
       ·conv => arg 3; whnf
        refine sim_f rfl ?_
        conv => arg 3; whnf
        refine sim_f rfl ?_
        conv => arg 3; whnf
        refine sim_br rfl ?_ ?_
        ·conv => arg 3; whnf
         refine sim_br rfl ?_ ?_
         ·conv => arg 3; whnf
          refine sim_bind (g_slices_pdqsortCmpFunc_int__desc_Touches_1_e t0 t1 t2 t3 s0.1 x112.1 s0.2.2.1 x112.2 m1_0 m1_1 m1_2 m1_3 m1_4 m1_5) (hrc t0 t1 t2 t3 s0.1 x112.1 s0.2.2.1 x112.2 m1_0 m1_1 m1_2 m1_3 m1_4 m1_5) fun x117 hx117 => ?_
          conv => arg 3; whnf
          exact sim_again (ih ((w64 (x112.1 + 1)), s0.2.1, s0.2.2.1, true, false, x117))
         ·conv => arg 3; whnf
          refine sim_bind (g_slices_pdqsortCmpFunc_int__desc_Touches_1_e t0 t1 t2 t3 s0.1 x112.1 s0.2.2.1 x112.2 m1_0 m1_1 m1_2 m1_3 m1_4 m1_5) (hrc t0 t1 t2 t3 s0.1 x112.1 s0.2.2.1 x112.2 m1_0 m1_1 m1_2 m1_3 m1_4 m1_5) fun x118 hx118 => ?_
          conv => arg 3; whnf
          exact sim_again (ih ((w64 (x112.1 + 1)), s0.2.1, s0.2.2.1, false, false, x118))
        ·conv => arg 3; whnf
         refine sim_br rfl ?_ ?_
         ·conv => arg 3; whnf
          refine sim_bind (g_slices_pdqsortCmpFunc_int__desc_Touches_1_e t0 t1 t2 t3 (w64 (x112.1 + 1)) s0.2.1 s0.2.2.1 x112.2 m1_0 m1_1 m1_2 m1_3 m1_4 m1_5) (hrc t0 t1 t2 t3 (w64 (x112.1 + 1)) s0.2.1 s0.2.2.1 x112.2 m1_0 m1_1 m1_2 m1_3 m1_4 m1_5) fun x119 hx119 => ?_
          conv => arg 3; whnf
          exact sim_again (ih (s0.1, x112.1, s0.2.2.1, true, false, x119))
         ·conv => arg 3; whnf
          refine sim_bind (g_slices_pdqsortCmpFunc_int__desc_Touches_1_e t0 t1 t2 t3 (w64 (x112.1 + 1)) s0.2.1 s0.2.2.1 x112.2 m1_0 m1_1 m1_2 m1_3 m1_4 m1_5) (hrc t0 t1 t2 t3 (w64 (x112.1 + 1)) s0.2.1 s0.2.2.1 x112.2 m1_0 m1_1 m1_2 m1_3 m1_4 m1_5) fun x120 hx120 => ?_
          conv => arg 3; whnf
          exact sim_again (ih (s0.1, x112.1, s0.2.2.1, false, false, x120))
  ·refine sim_ct ?_
   conv => arg 3; whnf
   refine sim_br rfl ?_ ?_
   ·conv => arg 3; whnf
    refine sim_bind (g_slices_insertionSortCmpFunc_int__desc_Touches_1_e t0 t1 t2 t3 s0.1 s0.2.1 s0.2.2.2.2.2 m1_0 m1_1 m1_2 m1_3 m1_4 m1_5) (g_slices_insertionSortCmpFunc_int__desc_Touches_1_ok t0 t1 t2 t3 s0.1 s0.2.1 s0.2.2.2.2.2 m1_0 m1_1 m1_2 m1_3 m1_4 m1_5) fun x1 hx1 => ?_
    conv => arg 3; whnf
    exact sim_ret rfl
   ·conv => arg 3; whnf
    refine sim_br rfl ?_ ?_
    ·conv => arg 3; whnf
     refine sim_bind (g_slices_heapSortCmpFunc_int__desc_Touches_1_e t0 t1 t2 t3 s0.1 s0.2.1 s0.2.2.2.2.2 m1_0 m1_1 m1_2 m1_3 m1_4 m1_5) (g_slices_heapSortCmpFunc_int__desc_Touches_1_ok t0 t1 t2 t3 s0.1 s0.2.1 s0.2.2.2.2.2 m1_0 m1_1 m1_2 m1_3 m1_4 m1_5) fun x2 hx2 => ?_
     conv => arg 3; whnf
     exact sim_ret rfl
    ·conv => arg 3; whnf
     refine sim_bind (g_slices_choosePivotCmpFunc_int__desc_Touches_1_e t0 t1 t2 t3 s0.1 s0.2.1 s0.2.2.2.2.2 m1_0 m1_1 m1_2 m1_3 m1_4 m1_5) (g_slices_choosePivotCmpFunc_int__desc_Touches_1_ok t0 t1 t2 t3 s0.1 s0.2.1 s0.2.2.2.2.2 m1_0 m1_1 m1_2 m1_3 m1_4 m1_5) fun x3 hx3 => ?_
     conv => arg 3; whnf
     refine sim_br rfl ?_ ?_
     ·conv => arg 3; whnf
      refine sim_bind (g_slices_reverseRangeCmpFunc_int__desc_Touches_1_e t0 t1 t2 t3 s0.1 s0.2.1 s0.2.2.2.2.2 m1_0 m1_1 m1_2 m1_3 m1_4 m1_5) (g_slices_reverseRangeCmpFunc_int__desc_Touches_1_ok t0 t1 t2 t3 s0.1 s0.2.1 s0.2.2.2.2.2 m1_0 m1_1 m1_2 m1_3 m1_4 m1_5) fun x4 hx4 => ?_
      conv => arg 3; whnf
      refine sim_t rfl ?_
      conv => arg 3; whnf
      refine sim_bind (g_slices_partialInsertionSortCmpFunc_int__desc_Touches_1_e t0 t1 t2 t3 s0.1 s0.2.1 x4 m1_0 m1_1 m1_2 m1_3 m1_4 m1_5) (g_slices_partialInsertionSortCmpFunc_int__desc_Touches_1_ok t0 t1 t2 t3 s0.1 s0.2.1 x4 m1_0 m1_1 m1_2 m1_3 m1_4 m1_5) fun x5 hx5 => ?_
      clear hx5
      rcases x5 with x5 | x5
      ·conv => arg 3; whnf
       exact sim_ret rfl
      ·conv => arg 3; whnf
       refine sim_br rfl ?_ ?_
       ·conv => arg 3; whnf
        refine sim_get (f := intD) rfl rfl fun x6 hx6 => ?_
        conv => arg 3; whnf
        refine sim_known (nth_of (f := intD) rfl hx6) ?_
        conv => arg 3; whnf
        refine sim_get (f := intD) rfl rfl fun x7 hx7 => ?_
        conv => arg 3; whnf
        refine sim_known (nth_of (f := intD) rfl hx7) ?_
        conv => arg 3; whnf
        refine sim_call g_desc_Touches_1_e (g_desc_Touches_1_ok t0 t1 t2 t3 x6 x7 m1_0 m1_1 m1_2 m1_3 m1_4 m1_5) rfl fun x8 hx8 => ?_
        conv => arg 3; whnf
        refine sim_br rfl ?_ ?_
        ·conv => arg 3; whnf
         refine sim_bind (g_slices_partitionCmpFunc_int__desc_Touches_1_e t0 t1 t2 t3 s0.1 s0.2.1 (w64 ((w64 (s0.2.1 - 1)) - (w64 (x3.1 - s0.1)))) x5 m1_0 m1_1 m1_2 m1_3 m1_4 m1_5) (g_slices_partitionCmpFunc_int__desc_Touches_1_ok t0 t1 t2 t3 s0.1 s0.2.1 (w64 ((w64 (s0.2.1 - 1)) - (w64 (x3.1 - s0.1)))) x5 m1_0 m1_1 m1_2 m1_3 m1_4 m1_5) fun x9 hx9 => ?_
         clear hx9
         rcases x9 with x9 | x9
         ·conv => arg 3; whnf
          refine sim_t rfl ?_
          conv => arg 3; whnf
          refine sim_f rfl ?_
          conv => arg 3; whnf
          refine sim_br rfl ?_ ?_
          ·conv => arg 3; whnf
           refine sim_br rfl ?_ ?_
           ·conv => arg 3; whnf
            refine sim_bind (g_slices_pdqsortCmpFunc_int__desc_Touches_1_e t0 t1 t2 t3 s0.1 x9.1 s0.2.2.1 x9.2 m1_0 m1_1 m1_2 m1_3 m1_4 m1_5) (hrc t0 t1 t2 t3 s0.1 x9.1 s0.2.2.1 x9.2 m1_0 m1_1 m1_2 m1_3 m1_4 m1_5) fun x10 hx10 => ?_
            conv => arg 3; whnf
            exact sim_again (ih ((w64 (x9.1 + 1)), s0.2.1, s0.2.2.1, true, true, x10))
           ·conv => arg 3; whnf
            refine sim_bind (g_slices_pdqsortCmpFunc_int__desc_Touches_1_e t0 t1 t2 t3 s0.1 x9.1 s0.2.2.1 x9.2 m1_0 m1_1 m1_2 m1_3 m1_4 m1_5) (hrc t0 t1 t2 t3 s0.1 x9.1 s0.2.2.1 x9.2 m1_0 m1_1 m1_2 m1_3 m1_4 m1_5) fun x11 hx11 => ?_
            conv => arg 3; whnf
            exact sim_again (ih ((w64 (x9.1 + 1)), s0.2.1, s0.2.2.1, false, true, x11))
          ·conv => arg 3; whnf
           refine sim_br rfl ?_ ?_
           ·conv => arg 3; whnf
            refine sim_bind (g_slices_pdqsortCmpFunc_int__desc_Touches_1_e t0 t1 t2 t3 (w64 (x9.1 + 1)) s0.2.1 s0.2.2.1 x9.2 m1_0 m1_1 m1_2 m1_3 m1_4 m1_5) (hrc t0 t1 t2 t3 (w64 (x9.1 + 1)) s0.2.1 s0.2.2.1 x9.2 m1_0 m1_1 m1_2 m1_3 m1_4 m1_5) fun x12 hx12 => ?_
            conv => arg 3; whnf
            exact sim_again (ih (s0.1, x9.1, s0.2.2.1, true, true, x12))
           ·conv => arg 3; whnf
            refine sim_bind (g_slices_pdqsortCmpFunc_int__desc_Touches_1_e t0 t1 t2 t3 (w64 (x9.1 + 1)) s0.2.1 s0.2.2.1 x9.2 m1_0 m1_1 m1_2 m1_3 m1_4 m1_5) (hrc t0 t1 t2 t3 (w64 (x9.1 + 1)) s0.2.1 s0.2.2.1 x9.2 m1_0 m1_1 m1_2 m1_3 m1_4 m1_5) fun x13 hx13 => ?_
            conv => arg 3; whnf
            exact sim_again (ih (s0.1, x9.1, s0.2.2.1, false, true, x13))
         ·conv => arg 3; whnf
          refine sim_f rfl ?_
          conv => arg 3; whnf
          refine sim_f rfl ?_
          conv => arg 3; whnf
          refine sim_br rfl ?_ ?_
          ·conv => arg 3; whnf
           refine sim_br rfl ?_ ?_
           ·conv => arg 3; whnf
            refine sim_bind (g_slices_pdqsortCmpFunc_int__desc_Touches_1_e t0 t1 t2 t3 s0.1 x9.1 s0.2.2.1 x9.2 m1_0 m1_1 m1_2 m1_3 m1_4 m1_5) (hrc t0 t1 t2 t3 s0.1 x9.1 s0.2.2.1 x9.2 m1_0 m1_1 m1_2 m1_3 m1_4 m1_5) fun x14 hx14 => ?_
            conv => arg 3; whnf
            exact sim_again (ih ((w64 (x9.1 + 1)), s0.2.1, s0.2.2.1, true, false, x14))
           ·conv => arg 3; whnf
            refine sim_bind (g_slices_pdqsortCmpFunc_int__desc_Touches_1_e t0 t1 t2 t3 s0.1 x9.1 s0.2.2.1 x9.2 m1_0 m1_1 m1_2 m1_3 m1_4 m1_5) (hrc t0 t1 t2 t3 s0.1 x9.1 s0.2.2.1 x9.2 m1_0 m1_1 m1_2 m1_3 m1_4 m1_5) fun x15 hx15 => ?_
            conv => arg 3; whnf
            exact sim_again (ih ((w64 (x9.1 + 1)), s0.2.1, s0.2.2.1, false, false, x15))
          ·conv => arg 3; whnf
           refine sim_br rfl ?_ ?_
           ·conv => arg 3; whnf
            refine sim_bind (g_slices_pdqsortCmpFunc_int__desc_Touches_1_e t0 t1 t2 t3 (w64 (x9.1 + 1)) s0.2.1 s0.2.2.1 x9.2 m1_0 m1_1 m1_2 m1_3 m1_4 m1_5) (hrc t0 t1 t2 t3 (w64 (x9.1 + 1)) s0.2.1 s0.2.2.1 x9.2 m1_0 m1_1 m1_2 m1_3 m1_4 m1_5) fun x16 hx16 => ?_
            conv => arg 3; whnf
            exact sim_again (ih (s0.1, x9.1, s0.2.2.1, true, false, x16))
           ·conv => arg 3; whnf
            refine sim_bind (g_slices_pdqsortCmpFunc_int__desc_Touches_1_e t0 t1 t2 t3 (w64 (x9.1 + 1)) s0.2.1 s0.2.2.1 x9.2 m1_0 m1_1 m1_2 m1_3 m1_4 m1_5) (hrc t0 t1 t2 t3 (w64 (x9.1 + 1)) s0.2.1 s0.2.2.1 x9.2 m1_0 m1_1 m1_2 m1_3 m1_4 m1_5) fun x17 hx17 => ?_
            conv => arg 3; whnf
            exact sim_again (ih (s0.1, x9.1, s0.2.2.1, false, false, x17))
        ·conv => arg 3; whnf
         refine sim_bind (g_slices_partitionEqualCmpFunc_int__desc_Touches_1_e t0 t1 t2 t3 s0.1 s0.2.1 (w64 ((w64 (s0.2.1 - 1)) - (w64 (x3.1 - s0.1)))) x5 m1_0 m1_1 m1_2 m1_3 m1_4 m1_5) (g_slices_partitionEqualCmpFunc_int__desc_Touches_1_ok t0 t1 t2 t3 s0.1 s0.2.1 (w64 ((w64 (s0.2.1 - 1)) - (w64 (x3.1 - s0.1)))) x5 m1_0 m1_1 m1_2 m1_3 m1_4 m1_5) fun x18 hx18 => ?_
         conv => arg 3; whnf
         exact sim_again (ih (x18.1, s0.2.1, s0.2.2.1, true, true, x18.2))
       ·conv => arg 3; whnf
        refine sim_bind (g_slices_partitionCmpFunc_int__desc_Touches_1_e t0 t1 t2 t3 s0.1 s0.2.1 (w64 ((w64 (s0.2.1 - 1)) - (w64 (x3.1 - s0.1)))) x5 m1_0 m1_1 m1_2 m1_3 m1_4 m1_5) (g_slices_partitionCmpFunc_int__desc_Touches_1_ok t0 t1 t2 t3 s0.1 s0.2.1 (w64 ((w64 (s0.2.1 - 1)) - (w64 (x3.1 - s0.1)))) x5 m1_0 m1_1 m1_2 m1_3 m1_4 m1_5) fun x19 hx19 => ?_
        clear hx19
        rcases x19 with x19 | x19
        ·conv => arg 3; whnf
         refine sim_t rfl ?_
         conv => arg 3; whnf
         refine sim_f rfl ?_
         conv => arg 3; whnf
         refine sim_br rfl ?_ ?_
         ·conv => arg 3; whnf
          refine sim_br rfl ?_ ?_
          ·conv => arg 3; whnf
           refine sim_bind (g_slices_pdqsortCmpFunc_int__desc_Touches_1_e t0 t1 t2 t3 s0.1 x19.1 s0.2.2.1 x19.2 m1_0 m1_1 m1_2 m1_3 m1_4 m1_5) (hrc t0 t1 t2 t3 s0.1 x19.1 s0.2.2.1 x19.2 m1_0 m1_1 m1_2 m1_3 m1_4 m1_5) fun x20 hx20 => ?_
           conv => arg 3; whnf
           exact sim_again (ih ((w64 (x19.1 + 1)), s0.2.1, s0.2.2.1, true, true, x20))
          ·conv => arg 3; whnf
           refine sim_bind (g_slices_pdqsortCmpFunc_int__desc_Touches_1_e t0 t1 t2 t3 s0.1 x19.1 s0.2.2.1 x19.2 m1_0 m1_1 m1_2 m1_3 m1_4 m1_5) (hrc t0 t1 t2 t3 s0.1 x19.1 s0.2.2.1 x19.2 m1_0 m1_1 m1_2 m1_3 m1_4 m1_5) fun x21 hx21 => ?_
           conv => arg 3; whnf
           exact sim_again (ih ((w64 (x19.1 + 1)), s0.2.1, s0.2.2.1, false, true, x21))
         ·conv => arg 3; whnf
          refine sim_br rfl ?_ ?_
          ·conv => arg 3; whnf
           refine sim_bind (g_slices_pdqsortCmpFunc_int__desc_Touches_1_e t0 t1 t2 t3 (w64 (x19.1 + 1)) s0.2.1 s0.2.2.1 x19.2 m1_0 m1_1 m1_2 m1_3 m1_4 m1_5) (hrc t0 t1 t2 t3 (w64 (x19.1 + 1)) s0.2.1 s0.2.2.1 x19.2 m1_0 m1_1 m1_2 m1_3 m1_4 m1_5) fun x22 hx22 => ?_
           conv => arg 3; whnf
           exact sim_again (ih (s0.1, x19.1, s0.2.2.1, true, true, x22))
          ·conv => arg 3; whnf
           refine sim_bind (g_slices_pdqsortCmpFunc_int__desc_Touches_1_e t0 t1 t2 t3 (w64 (x19.1 + 1)) s0.2.1 s0.2.2.1 x19.2 m1_0 m1_1 m1_2 m1_3 m1_4 m1_5) (hrc t0 t1 t2 t3 (w64 (x19.1 + 1)) s0.2.1 s0.2.2.1 x19.2 m1_0 m1_1 m1_2 m1_3 m1_4 m1_5) fun x23 hx23 => ?_
           conv => arg 3; whnf
           exact sim_again (ih (s0.1, x19.1, s0.2.2.1, false, true, x23))
        ·conv => arg 3; whnf
         refine sim_f rfl ?_
         conv => arg 3; whnf
         refine sim_f rfl ?_
         conv => arg 3; whnf
         refine sim_br rfl ?_ ?_
         ·conv => arg 3; whnf
          refine sim_br rfl ?_ ?_
          ·conv => arg 3; whnf
           refine sim_bind (g_slices_pdqsortCmpFunc_int__desc_Touches_1_e t0 t1 t2 t3 s0.1 x19.1 s0.2.2.1 x19.2 m1_0 m1_1 m1_2 m1_3 m1_4 m1_5) (hrc t0 t1 t2 t3 s0.1 x19.1 s0.2.2.1 x19.2 m1_0 m1_1 m1_2 m1_3 m1_4 m1_5) fun x24 hx24 => ?_
           conv => arg 3; whnf
           exact sim_again (ih ((w64 (x19.1 + 1)), s0.2.1, s0.2.2.1, true, false, x24))
          ·conv => arg 3; whnf
           refine sim_bind (g_slices_pdqsortCmpFunc_int__desc_Touches_1_e t0 t1 t2 t3 s0.1 x19.1 s0.2.2.1 x19.2 m1_0 m1_1 m1_2 m1_3 m1_4 m1_5) (hrc t0 t1 t2 t3 s0.1 x19.1 s0.2.2.1 x19.2 m1_0 m1_1 m1_2 m1_3 m1_4 m1_5) fun x25 hx25 => ?_
           conv => arg 3; whnf
           exact sim_again (ih ((w64 (x19.1 + 1)), s0.2.1, s0.2.2.1, false, false, x25))
         ·conv => arg 3; whnf
          refine sim_br rfl ?_ ?_
          ·conv => arg 3; whnf
           refine sim_bind (g_slices_pdqsortCmpFunc_int__desc_Touches_1_e t0 t1 t2 t3 (w64 (x19.1 + 1)) s0.2.1 s0.2.2.1 x19.2 m1_0 m1_1 m1_2 m1_3 m1_4 m1_5) (hrc t0 t1 t2 t3 (w64 (x19.1 + 1)) s0.2.1 s0.2.2.1 x19.2 m1_0 m1_1 m1_2 m1_3 m1_4 m1_5) fun x26 hx26 => ?_
           conv => arg 3; whnf
           exact sim_again (ih (s0.1, x19.1, s0.2.2.1, true, false, x26))
          ·conv => arg 3; whnf
           refine sim_bind (g_slices_pdqsortCmpFunc_int__desc_Touches_1_e t0 t1 t2 t3 (w64 (x19.1 + 1)) s0.2.1 s0.2.2.1 x19.2 m1_0 m1_1 m1_2 m1_3 m1_4 m1_5) (hrc t0 t1 t2 t3 (w64 (x19.1 + 1)) s0.2.1 s0.2.2.1 x19.2 m1_0 m1_1 m1_2 m1_3 m1_4 m1_5) fun x27 hx27 => ?_
           conv => arg 3; whnf
           exact sim_again (ih (s0.1, x19.1, s0.2.2.1, false, false, x27))
     ·conv => arg 3; whnf
      refine sim_br rfl ?_ ?_
      ·conv => arg 3; whnf
       refine sim_bind (g_slices_partialInsertionSortCmpFunc_int__desc_Touches_1_e t0 t1 t2 t3 s0.1 s0.2.1 s0.2.2.2.2.2 m1_0 m1_1 m1_2 m1_3 m1_4 m1_5) (g_slices_partialInsertionSortCmpFunc_int__desc_Touches_1_ok t0 t1 t2 t3 s0.1 s0.2.1 s0.2.2.2.2.2 m1_0 m1_1 m1_2 m1_3 m1_4 m1_5) fun x28 hx28 => ?_
       clear hx28
       rcases x28 with x28 | x28
       ·conv => arg 3; whnf
        exact sim_ret rfl
       ·conv => arg 3; whnf
        refine sim_br rfl ?_ ?_
        ·conv => arg 3; whnf
         refine sim_get (f := intD) rfl rfl fun x29 hx29 => ?_
         conv => arg 3; whnf
         refine sim_known (nth_of (f := intD) rfl hx29) ?_
         conv => arg 3; whnf
         refine sim_get (f := intD) rfl rfl fun x30 hx30 => ?_
         conv => arg 3; whnf
         refine sim_known (nth_of (f := intD) rfl hx30) ?_
         conv => arg 3; whnf
         refine sim_call g_desc_Touches_1_e (g_desc_Touches_1_ok t0 t1 t2 t3 x29 x30 m1_0 m1_1 m1_2 m1_3 m1_4 m1_5) rfl fun x31 hx31 => ?_
         conv => arg 3; whnf
         refine sim_br rfl ?_ ?_
         ·conv => arg 3; whnf
          refine sim_bind (g_slices_partitionCmpFunc_int__desc_Touches_1_e t0 t1 t2 t3 s0.1 s0.2.1 x3.1 x28 m1_0 m1_1 m1_2 m1_3 m1_4 m1_5) (g_slices_partitionCmpFunc_int__desc_Touches_1_ok t0 t1 t2 t3 s0.1 s0.2.1 x3.1 x28 m1_0 m1_1 m1_2 m1_3 m1_4 m1_5) fun x32 hx32 => ?_
          clear hx32
          rcases x32 with x32 | x32
          ·conv => arg 3; whnf
           refine sim_t rfl ?_
           conv => arg 3; whnf
           refine sim_f rfl ?_
           conv => arg 3; whnf
           refine sim_br rfl ?_ ?_
           ·conv => arg 3; whnf
            refine sim_br rfl ?_ ?_
            ·conv => arg 3; whnf
             refine sim_bind (g_slices_pdqsortCmpFunc_int__desc_Touches_1_e t0 t1 t2 t3 s0.1 x32.1 s0.2.2.1 x32.2 m1_0 m1_1 m1_2 m1_3 m1_4 m1_5) (hrc t0 t1 t2 t3 s0.1 x32.1 s0.2.2.1 x32.2 m1_0 m1_1 m1_2 m1_3 m1_4 m1_5) fun x33 hx33 => ?_
             conv => arg 3; whnf
             exact sim_again (ih ((w64 (x32.1 + 1)), s0.2.1, s0.2.2.1, true, true, x33))
            ·conv => arg 3; whnf
             refine sim_bind (g_slices_pdqsortCmpFunc_int__desc_Touches_1_e t0 t1 t2 t3 s0.1 x32.1 s0.2.2.1 x32.2 m1_0 m1_1 m1_2 m1_3 m1_4 m1_5) (hrc t0 t1 t2 t3 s0.1 x32.1 s0.2.2.1 x32.2 m1_0 m1_1 m1_2 m1_3 m1_4 m1_5) fun x34 hx34 => ?_
             conv => arg 3; whnf
             exact sim_again (ih ((w64 (x32.1 + 1)), s0.2.1, s0.2.2.1, false, true, x34))
           ·conv => arg 3; whnf
            refine sim_br rfl ?_ ?_
            ·conv => arg 3; whnf
             refine sim_bind (g_slices_pdqsortCmpFunc_int__desc_Touches_1_e t0 t1 t2 t3 (w64 (x32.1 + 1)) s0.2.1 s0.2.2.1 x32.2 m1_0 m1_1 m1_2 m1_3 m1_4 m1_5) (hrc t0 t1 t2 t3 (w64 (x32.1 + 1)) s0.2.1 s0.2.2.1 x32.2 m1_0 m1_1 m1_2 m1_3 m1_4 m1_5) fun x35 hx35 => ?_
             conv => arg 3; whnf
             exact sim_again (ih (s0.1, x32.1, s0.2.2.1, true, true, x35))
            ·conv => arg 3; whnf
             refine sim_bind (g_slices_pdqsortCmpFunc_int__desc_Touches_1_e t0 t1 t2 t3 (w64 (x32.1 + 1)) s0.2.1 s0.2.2.1 x32.2 m1_0 m1_1 m1_2 m1_3 m1_4 m1_5) (hrc t0 t1 t2 t3 (w64 (x32.1 + 1)) s0.2.1 s0.2.2.1 x32.2 m1_0 m1_1 m1_2 m1_3 m1_4 m1_5) fun x36 hx36 => ?_
             conv => arg 3; whnf
             exact sim_again (ih (s0.1, x32.1, s0.2.2.1, false, true, x36))
          ·conv => arg 3; whnf
           refine sim_f rfl ?_
           conv => arg 3; whnf
           refine sim_f rfl ?_
           conv => arg 3; whnf
           refine sim_br rfl ?_ ?_
           ·conv => arg 3; whnf
            refine sim_br rfl ?_ ?_
            ·conv => arg 3; whnf
             refine sim_bind (g_slices_pdqsortCmpFunc_int__desc_Touches_1_e t0 t1 t2 t3 s0.1 x32.1 s0.2.2.1 x32.2 m1_0 m1_1 m1_2 m1_3 m1_4 m1_5) (hrc t0 t1 t2 t3 s0.1 x32.1 s0.2.2.1 x32.2 m1_0 m1_1 m1_2 m1_3 m1_4 m1_5) fun x37 hx37 => ?_
             conv => arg 3; whnf
             exact sim_again (ih ((w64 (x32.1 + 1)), s0.2.1, s0.2.2.1, true, false, x37))
            ·conv => arg 3; whnf
             refine sim_bind (g_slices_pdqsortCmpFunc_int__desc_Touches_1_e t0 t1 t2 t3 s0.1 x32.1 s0.2.2.1 x32.2 m1_0 m1_1 m1_2 m1_3 m1_4 m1_5) (hrc t0 t1 t2 t3 s0.1 x32.1 s0.2.2.1 x32.2 m1_0 m1_1 m1_2 m1_3 m1_4 m1_5) fun x38 hx38 => ?_
             conv => arg 3; whnf
             exact sim_again (ih ((w64 (x32.1 + 1)), s0.2.1, s0.2.2.1, false, false, x38))
           ·conv => arg 3; whnf
            refine sim_br rfl ?_ ?_
            ·conv => arg 3; whnf
             refine sim_bind (g_slices_pdqsortCmpFunc_int__desc_Touches_1_e t0 t1 t2 t3 (w64 (x32.1 + 1)) s0.2.1 s0.2.2.1 x32.2 m1_0 m1_1 m1_2 m1_3 m1_4 m1_5) (hrc t0 t1 t2 t3 (w64 (x32.1 + 1)) s0.2.1 s0.2.2.1 x32.2 m1_0 m1_1 m1_2 m1_3 m1_4 m1_5) fun x39 hx39 => ?_
             conv => arg 3; whnf
             exact sim_again (ih (s0.1, x32.1, s0.2.2.1, true, false, x39))
            ·conv => arg 3; whnf
             refine sim_bind (g_slices_pdqsortCmpFunc_int__desc_Touches_1_e t0 t1 t2 t3 (w64 (x32.1 + 1)) s0.2.1 s0.2.2.1 x32.2 m1_0 m1_1 m1_2 m1_3 m1_4 m1_5) (hrc t0 t1 t2 t3 (w64 (x32.1 + 1)) s0.2.1 s0.2.2.1 x32.2 m1_0 m1_1 m1_2 m1_3 m1_4 m1_5) fun x40 hx40 => ?_
             conv => arg 3; whnf
             exact sim_again (ih (s0.1, x32.1, s0.2.2.1, false, false, x40))
         ·conv => arg 3; whnf
          refine sim_bind (g_slices_partitionEqualCmpFunc_int__desc_Touches_1_e t0 t1 t2 t3 s0.1 s0.2.1 x3.1 x28 m1_0 m1_1 m1_2 m1_3 m1_4 m1_5) (g_slices_partitionEqualCmpFunc_int__desc_Touches_1_ok t0 t1 t2 t3 s0.1 s0.2.1 x3.1 x28 m1_0 m1_1 m1_2 m1_3 m1_4 m1_5) fun x41 hx41 => ?_
          conv => arg 3; whnf
          exact sim_again (ih (x41.1, s0.2.1, s0.2.2.1, true, true, x41.2))
        ·conv => arg 3; whnf
         refine sim_bind (g_slices_partitionCmpFunc_int__desc_Touches_1_e t0 t1 t2 t3 s0.1 s0.2.1 x3.1 x28 m1_0 m1_1 m1_2 m1_3 m1_4 m1_5) (g_slices_partitionCmpFunc_int__desc_Touches_1_ok t0 t1 t2 t3 s0.1 s0.2.1 x3.1 x28 m1_0 m1_1 m1_2 m1_3 m1_4 m1_5) fun x42 hx42 => ?_
         clear hx42
         rcases x42 with x42 | x42
         ·conv => arg 3; whnf
          refine sim_t rfl ?_
          conv => arg 3; whnf
          refine sim_f rfl ?_
          conv => arg 3; whnf
          refine sim_br rfl ?_ ?_
          ·conv => arg 3; whnf
           refine sim_br rfl ?_ ?_
           ·conv => arg 3; whnf
            refine sim_bind (g_slices_pdqsortCmpFunc_int__desc_Touches_1_e t0 t1 t2 t3 s0.1 x42.1 s0.2.2.1 x42.2 m1_0 m1_1 m1_2 m1_3 m1_4 m1_5) (hrc t0 t1 t2 t3 s0.1 x42.1 s0.2.2.1 x42.2 m1_0 m1_1 m1_2 m1_3 m1_4 m1_5) fun x43 hx43 => ?_
            conv => arg 3; whnf
            exact sim_again (ih ((w64 (x42.1 + 1)), s0.2.1, s0.2.2.1, true, true, x43))
           ·conv => arg 3; whnf
            refine sim_bind (g_slices_pdqsortCmpFunc_int__desc_Touches_1_e t0 t1 t2 t3 s0.1 x42.1 s0.2.2.1 x42.2 m1_0 m1_1 m1_2 m1_3 m1_4 m1_5) (hrc t0 t1 t2 t3 s0.1 x42.1 s0.2.2.1 x42.2 m1_0 m1_1 m1_2 m1_3 m1_4 m1_5) fun x44 hx44 => ?_
            conv => arg 3; whnf
            exact sim_again (ih ((w64 (x42.1 + 1)), s0.2.1, s0.2.2.1, false, true, x44))
          ·conv => arg 3; whnf
           refine sim_br rfl ?_ ?_
           ·conv => arg 3; whnf
            refine sim_bind (g_slices_pdqsortCmpFunc_int__desc_Touches_1_e t0 t1 t2 t3 (w64 (x42.1 + 1)) s0.2.1 s0.2.2.1 x42.2 m1_0 m1_1 m1_2 m1_3 m1_4 m1_5) (hrc t0 t1 t2 t3 (w64 (x42.1 + 1)) s0.2.1 s0.2.2.1 x42.2 m1_0 m1_1 m1_2 m1_3 m1_4 m1_5) fun x45 hx45 => ?_
            conv => arg 3; whnf
            exact sim_again (ih (s0.1, x42.1, s0.2.2.1, true, true, x45))
           ·conv => arg 3; whnf
            refine sim_bind (g_slices_pdqsortCmpFunc_int__desc_Touches_1_e t0 t1 t2 t3 (w64 (x42.1 + 1)) s0.2.1 s0.2.2.1 x42.2 m1_0 m1_1 m1_2 m1_3 m1_4 m1_5) (hrc t0 t1 t2 t3 (w64 (x42.1 + 1)) s0.2.1 s0.2.2.1 x42.2 m1_0 m1_1 m1_2 m1_3 m1_4 m1_5) fun x46 hx46 => ?_
            conv => arg 3; whnf
            exact sim_again (ih (s0.1, x42.1, s0.2.2.1, false, true, x46))
         ·conv => arg 3; whnf
          refine sim_f rfl ?_
          conv => arg 3; whnf
          refine sim_f rfl ?_
          conv => arg 3; whnf
          refine sim_br rfl ?_ ?_
          ·conv => arg 3; whnf
           refine sim_br rfl ?_ ?_
           ·conv => arg 3; whnf
            refine sim_bind (g_slices_pdqsortCmpFunc_int__desc_Touches_1_e t0 t1 t2 t3 s0.1 x42.1 s0.2.2.1 x42.2 m1_0 m1_1 m1_2 m1_3 m1_4 m1_5) (hrc t0 t1 t2 t3 s0.1 x42.1 s0.2.2.1 x42.2 m1_0 m1_1 m1_2 m1_3 m1_4 m1_5) fun x47 hx47 => ?_
            conv => arg 3; whnf
            exact sim_again (ih ((w64 (x42.1 + 1)), s0.2.1, s0.2.2.1, true, false, x47))
           ·conv => arg 3; whnf
            refine sim_bind (g_slices_pdqsortCmpFunc_int__desc_Touches_1_e t0 t1 t2 t3 s0.1 x42.1 s0.2.2.1 x42.2 m1_0 m1_1 m1_2 m1_3 m1_4 m1_5) (hrc t0 t1 t2 t3 s0.1 x42.1 s0.2.2.1 x42.2 m1_0 m1_1 m1_2 m1_3 m1_4 m1_5) fun x48 hx48 => ?_
            conv => arg 3; whnf
            exact sim_again (ih ((w64 (x42.1 + 1)), s0.2.1, s0.2.2.1, false, false, x48))
          ·conv => arg 3; whnf
           refine sim_br rfl ?_ ?_
           ·conv => arg 3; whnf
            refine sim_bind (g_slices_pdqsortCmpFunc_int__desc_Touches_1_e t0 t1 t2 t3 (w64 (x42.1 + 1)) s0.2.1 s0.2.2.1 x42.2 m1_0 m1_1 m1_2 m1_3 m1_4 m1_5) (hrc t0 t1 t2 t3 (w64 (x42.1 + 1)) s0.2.1 s0.2.2.1 x42.2 m1_0 m1_1 m1_2 m1_3 m1_4 m1_5) fun x49 hx49 => ?_
            conv => arg 3; whnf
            exact sim_again (ih (s0.1, x42.1, s0.2.2.1, true, false, x49))
           ·conv => arg 3; whnf
            refine sim_bind (g_slices_pdqsortCmpFunc_int__desc_Touches_1_e t0 t1 t2 t3 (w64 (x42.1 + 1)) s0.2.1 s0.2.2.1 x42.2 m1_0 m1_1 m1_2 m1_3 m1_4 m1_5) (hrc t0 t1 t2 t3 (w64 (x42.1 + 1)) s0.2.1 s0.2.2.1 x42.2 m1_0 m1_1 m1_2 m1_3 m1_4 m1_5) fun x50 hx50 => ?_
            conv => arg 3; whnf
            exact sim_again (ih (s0.1, x42.1, s0.2.2.1, false, false, x50))
      ·conv => arg 3; whnf
       refine sim_br rfl ?_ ?_
       ·conv => arg 3; whnf
        refine sim_get (f := intD) rfl rfl fun x51 hx51 => ?_
        conv => arg 3; whnf
        refine sim_known (nth_of (f := intD) rfl hx51) ?_
        conv => arg 3; whnf
        refine sim_get (f := intD) rfl rfl fun x52 hx52 => ?_
        conv => arg 3; whnf
        refine sim_known (nth_of (f := intD) rfl hx52) ?_
        conv => arg 3; whnf
        refine sim_call g_desc_Touches_1_e (g_desc_Touches_1_ok t0 t1 t2 t3 x51 x52 m1_0 m1_1 m1_2 m1_3 m1_4 m1_5) rfl fun x53 hx53 => ?_
        conv => arg 3; whnf
        refine sim_br rfl ?_ ?_
        ·conv => arg 3; whnf
         refine sim_bind (g_slices_partitionCmpFunc_int__desc_Touches_1_e t0 t1 t2 t3 s0.1 s0.2.1 x3.1 s0.2.2.2.2.2 m1_0 m1_1 m1_2 m1_3 m1_4 m1_5) (g_slices_partitionCmpFunc_int__desc_Touches_1_ok t0 t1 t2 t3 s0.1 s0.2.1 x3.1 s0.2.2.2.2.2 m1_0 m1_1 m1_2 m1_3 m1_4 m1_5) fun x54 hx54 => ?_
         clear hx54
         rcases x54 with x54 | x54
         ·conv => arg 3; whnf
          refine sim_t rfl ?_
          conv => arg 3; whnf
          refine sim_f rfl ?_
          conv => arg 3; whnf
          refine sim_br rfl ?_ ?_
          ·conv => arg 3; whnf
           refine sim_br rfl ?_ ?_
           ·conv => arg 3; whnf
            refine sim_bind (g_slices_pdqsortCmpFunc_int__desc_Touches_1_e t0 t1 t2 t3 s0.1 x54.1 s0.2.2.1 x54.2 m1_0 m1_1 m1_2 m1_3 m1_4 m1_5) (hrc t0 t1 t2 t3 s0.1 x54.1 s0.2.2.1 x54.2 m1_0 m1_1 m1_2 m1_3 m1_4 m1_5) fun x55 hx55 => ?_
            conv => arg 3; whnf
            exact sim_again (ih ((w64 (x54.1 + 1)), s0.2.1, s0.2.2.1, true, true, x55))
           ·conv => arg 3; whnf
            refine sim_bind (g_slices_pdqsortCmpFunc_int__desc_Touches_1_e t0 t1 t2 t3 s0.1 x54.1 s0.2.2.1 x54.2 m1_0 m1_1 m1_2 m1_3 m1_4 m1_5) (hrc t0 t1 t2 t3 s0.1 x54.1 s0.2.2.1 x54.2 m1_0 m1_1 m1_2 m1_3 m1_4 m1_5) fun x56 hx56 => ?_
            conv => arg 3; whnf
            exact sim_again (ih ((w64 (x54.1 + 1)), s0.2.1, s0.2.2.1, false, true, x56))
          ·conv => arg 3; whnf
           refine sim_br rfl ?_ ?_
           ·conv => arg 3; whnf
            refine sim_bind (g_slices_pdqsortCmpFunc_int__desc_Touches_1_e t0 t1 t2 t3 (w64 (x54.1 + 1)) s0.2.1 s0.2.2.1 x54.2 m1_0 m1_1 m1_2 m1_3 m1_4 m1_5) (hrc t0 t1 t2 t3 (w64 (x54.1 + 1)) s0.2.1 s0.2.2.1 x54.2 m1_0 m1_1 m1_2 m1_3 m1_4 m1_5) fun x57 hx57 => ?_
            conv => arg 3; whnf
            exact sim_again (ih (s0.1, x54.1, s0.2.2.1, true, true, x57))
           ·conv => arg 3; whnf
            refine sim_bind (g_slices_pdqsortCmpFunc_int__desc_Touches_1_e t0 t1 t2 t3 (w64 (x54.1 + 1)) s0.2.1 s0.2.2.1 x54.2 m1_0 m1_1 m1_2 m1_3 m1_4 m1_5) (hrc t0 t1 t2 t3 (w64 (x54.1 + 1)) s0.2.1 s0.2.2.1 x54.2 m1_0 m1_1 m1_2 m1_3 m1_4 m1_5) fun x58 hx58 => ?_
            conv => arg 3; whnf
            exact sim_again (ih (s0.1, x54.1, s0.2.2.1, false, true, x58))
         ·conv => arg 3; whnf
          refine sim_f rfl ?_
          conv => arg 3; whnf
          refine sim_f rfl ?_
          conv => arg 3; whnf
          refine sim_br rfl ?_ ?_
          ·conv => arg 3; whnf
           refine sim_br rfl ?_ ?_
           ·conv => arg 3; whnf
            refine sim_bind (g_slices_pdqsortCmpFunc_int__desc_Touches_1_e t0 t1 t2 t3 s0.1 x54.1 s0.2.2.1 x54.2 m1_0 m1_1 m1_2 m1_3 m1_4 m1_5) (hrc t0 t1 t2 t3 s0.1 x54.1 s0.2.2.1 x54.2 m1_0 m1_1 m1_2 m1_3 m1_4 m1_5) fun x59 hx59 => ?_
            conv => arg 3; whnf
            exact sim_again (ih ((w64 (x54.1 + 1)), s0.2.1, s0.2.2.1, true, false, x59))
           ·conv => arg 3; whnf
            refine sim_bind (g_slices_pdqsortCmpFunc_int__desc_Touches_1_e t0 t1 t2 t3 s0.1 x54.1 s0.2.2.1 x54.2 m1_0 m1_1 m1_2 m1_3 m1_4 m1_5) (hrc t0 t1 t2 t3 s0.1 x54.1 s0.2.2.1 x54.2 m1_0 m1_1 m1_2 m1_3 m1_4 m1_5) fun x60 hx60 => ?_
            conv => arg 3; whnf
            exact sim_again (ih ((w64 (x54.1 + 1)), s0.2.1, s0.2.2.1, false, false, x60))
          ·conv => arg 3; whnf
           refine sim_br rfl ?_ ?_
           ·conv => arg 3; whnf
            refine sim_bind (g_slices_pdqsortCmpFunc_int__desc_Touches_1_e t0 t1 t2 t3 (w64 (x54.1 + 1)) s0.2.1 s0.2.2.1 x54.2 m1_0 m1_1 m1_2 m1_3 m1_4 m1_5) (hrc t0 t1 t2 t3 (w64 (x54.1 + 1)) s0.2.1 s0.2.2.1 x54.2 m1_0 m1_1 m1_2 m1_3 m1_4 m1_5) fun x61 hx61 => ?_
            conv => arg 3; whnf
            exact sim_again (ih (s0.1, x54.1, s0.2.2.1, true, false, x61))
           ·conv => arg 3; whnf
            refine sim_bind (g_slices_pdqsortCmpFunc_int__desc_Touches_1_e t0 t1 t2 t3 (w64 (x54.1 + 1)) s0.2.1 s0.2.2.1 x54.2 m1_0 m1_1 m1_2 m1_3 m1_4 m1_5) (hrc t0 t1 t2 t3 (w64 (x54.1 + 1)) s0.2.1 s0.2.2.1 x54.2 m1_0 m1_1 m1_2 m1_3 m1_4 m1_5) fun x62 hx62 => ?_
            conv => arg 3; whnf
            exact sim_again (ih (s0.1, x54.1, s0.2.2.1, false, false, x62))
        ·conv => arg 3; whnf
         refine sim_bind (g_slices_partitionEqualCmpFunc_int__desc_Touches_1_e t0 t1 t2 t3 s0.1 s0.2.1 x3.1 s0.2.2.2.2.2 m1_0 m1_1 m1_2 m1_3 m1_4 m1_5) (g_slices_partitionEqualCmpFunc_int__desc_Touches_1_ok t0 t1 t2 t3 s0.1 s0.2.1 x3.1 s0.2.2.2.2.2 m1_0 m1_1 m1_2 m1_3 m1_4 m1_5) fun x63 hx63 => ?_
         conv => arg 3; whnf
         exact sim_again (ih (x63.1, s0.2.1, s0.2.2.1, true, true, x63.2))
       ·conv => arg 3; whnf
        refine sim_bind (g_slices_partitionCmpFunc_int__desc_Touches_1_e t0 t1 t2 t3 s0.1 s0.2.1 x3.1 s0.2.2.2.2.2 m1_0 m1_1 m1_2 m1_3 m1_4 m1_5) (g_slices_partitionCmpFunc_int__desc_Touches_1_ok t0 t1 t2 t3 s0.1 s0.2.1 x3.1 s0.2.2.2.2.2 m1_0 m1_1 m1_2 m1_3 m1_4 m1_5) fun x64 hx64 => ?_
        clear hx64
        rcases x64 with x64 | x64
        ·conv => arg 3; whnf
         refine sim_t rfl ?_
         conv => arg 3; whnf
         refine sim_f rfl ?_
         conv => arg 3; whnf
         refine sim_br rfl ?_ ?_
         ·conv => arg 3; whnf
          refine sim_br rfl ?_ ?_
          ·conv => arg 3; whnf
           refine sim_bind (g_slices_pdqsortCmpFunc_int__desc_Touches_1_e t0 t1 t2 t3 s0.1 x64.1 s0.2.2.1 x64.2 m1_0 m1_1 m1_2 m1_3 m1_4 m1_5) (hrc t0 t1 t2 t3 s0.1 x64.1 s0.2.2.1 x64.2 m1_0 m1_1 m1_2 m1_3 m1_4 m1_5) fun x65 hx65 => ?_
           conv => arg 3; whnf
           exact sim_again (ih ((w64 (x64.1 + 1)), s0.2.1, s0.2.2.1, true, true, x65))
          ·conv => arg 3; whnf
           refine sim_bind (g_slices_pdqsortCmpFunc_int__desc_Touches_1_e t0 t1 t2 t3 s0.1 x64.1 s0.2.2.1 x64.2 m1_0 m1_1 m1_2 m1_3 m1_4 m1_5) (hrc t0 t1 t2 t3 s0.1 x64.1 s0.2.2.1 x64.2 m1_0 m1_1 m1_2 m1_3 m1_4 m1_5) fun x66 hx66 => ?_
           conv => arg 3; whnf
           exact sim_again (ih ((w64 (x64.1 + 1)), s0.2.1, s0.2.2.1, false, true, x66))
         ·conv => arg 3; whnf
          refine sim_br rfl ?_ ?_
          ·conv => arg 3; whnf
           refine sim_bind (g_slices_pdqsortCmpFunc_int__desc_Touches_1_e t0 t1 t2 t3 (w64 (x64.1 + 1)) s0.2.1 s0.2.2.1 x64.2 m1_0 m1_1 m1_2 m1_3 m1_4 m1_5) (hrc t0 t1 t2 t3 (w64 (x64.1 + 1)) s0.2.1 s0.2.2.1 x64.2 m1_0 m1_1 m1_2 m1_3 m1_4 m1_5) fun x67 hx67 => ?_
           conv => arg 3; whnf
           exact sim_again (ih (s0.1, x64.1, s0.2.2.1, true, true, x67))
          ·conv => arg 3; whnf
           refine sim_bind (g_slices_pdqsortCmpFunc_int__desc_Touches_1_e t0 t1 t2 t3 (w64 (x64.1 + 1)) s0.2.1 s0.2.2.1 x64.2 m1_0 m1_1 m1_2 m1_3 m1_4 m1_5) (hrc t0 t1 t2 t3 (w64 (x64.1 + 1)) s0.2.1 s0.2.2.1 x64.2 m1_0 m1_1 m1_2 m1_3 m1_4 m1_5) fun x68 hx68 => ?_
           conv => arg 3; whnf
           exact sim_again (ih (s0.1, x64.1, s0.2.2.1, false, true, x68))
        ·conv => arg 3; whnf
         refine sim_f rfl ?_
         conv => arg 3; whnf
         refine sim_f rfl ?_
         conv => arg 3; whnf
         refine sim_br rfl ?_ ?_
         ·conv => arg 3; whnf
          refine sim_br rfl ?_ ?_
          ·conv => arg 3; whnf
           refine sim_bind (g_slices_pdqsortCmpFunc_int__desc_Touches_1_e t0 t1 t2 t3 s0.1 x64.1 s0.2.2.1 x64.2 m1_0 m1_1 m1_2 m1_3 m1_4 m1_5) (hrc t0 t1 t2 t3 s0.1 x64.1 s0.2.2.1 x64.2 m1_0 m1_1 m1_2 m1_3 m1_4 m1_5) fun x69 hx69 => ?_
           conv => arg 3; whnf
           exact sim_again (ih ((w64 (x64.1 + 1)), s0.2.1, s0.2.2.1, true, false, x69))
          ·conv => arg 3; whnf
           refine sim_bind (g_slices_pdqsortCmpFunc_int__desc_Touches_1_e t0 t1 t2 t3 s0.1 x64.1 s0.2.2.1 x64.2 m1_0 m1_1 m1_2 m1_3 m1_4 m1_5) (hrc t0 t1 t2 t3 s0.1 x64.1 s0.2.2.1 x64.2 m1_0 m1_1 m1_2 m1_3 m1_4 m1_5) fun x70 hx70 => ?_
           conv => arg 3; whnf
           exact sim_again (ih ((w64 (x64.1 + 1)), s0.2.1, s0.2.2.1, false, false, x70))
         ·conv => arg 3; whnf
          refine sim_br rfl ?_ ?_
          ·conv => arg 3; whnf
           refine sim_bind (g_slices_pdqsortCmpFunc_int__desc_Touches_1_e t0 t1 t2 t3 (w64 (x64.1 + 1)) s0.2.1 s0.2.2.1 x64.2 m1_0 m1_1 m1_2 m1_3 m1_4 m1_5) (hrc t0 t1 t2 t3 (w64 (x64.1 + 1)) s0.2.1 s0.2.2.1 x64.2 m1_0 m1_1 m1_2 m1_3 m1_4 m1_5) fun x71 hx71 => ?_
           conv => arg 3; whnf
           exact sim_again (ih (s0.1, x64.1, s0.2.2.1, true, false, x71))
          ·conv => arg 3; whnf
           refine sim_bind (g_slices_pdqsortCmpFunc_int__desc_Touches_1_e t0 t1 t2 t3 (w64 (x64.1 + 1)) s0.2.1 s0.2.2.1 x64.2 m1_0 m1_1 m1_2 m1_3 m1_4 m1_5) (hrc t0 t1 t2 t3 (w64 (x64.1 + 1)) s0.2.1 s0.2.2.1 x64.2 m1_0 m1_1 m1_2 m1_3 m1_4 m1_5) fun x72 hx72 => ?_
           conv => arg 3; whnf
           exact sim_again (ih (s0.1, x64.1, s0.2.2.1, false, false, x72))
set_option maxRecDepth 100000 in
set_option maxHeartbeats 40000000 in
theorem g_slices_pdqsortCmpFunc_int__desc_Touches_1_b_ok (rc : Int → Int → Int → (Int → Int → Option Int) → (List Int) → Option (List Int)) (hrc : ∀ (t0 : Bool) (t1 : Bool) (t2 : Bool) (t3 : Bool) (b : Int) (c : Int) (d : Int) (m0_0 : (List Int)) (m1_0 : Int) (m1_1 : Int) (m1_2 : (List PartT)) (m1_3 : (List EdgeT)) (m1_4 : (List FutureT)) (m1_5 : (List BarrierT)) (r : (List Int)), rc b c d (fun z0 z1 => g_desc_Touches_1 z0 z1 m1_4) m0_0 = some r → evW ctx 84 [(.sl 0 1), (.d (intD b)), (.d (intD c)), (.d (intD d)), (.fn 62 [(.ptr 1 0)])] [(.arr 1 (List.map intD m0_0)), (.cells [(.d (intD m1_0)), (.d (intD m1_1)), (.d (D.list t0 (List.map partD m1_2))), (.d (D.list t1 (List.map edgeD m1_3))), (.d (D.list t2 (List.map futureD m1_4))), (.d (D.list t3 (List.map barrierD m1_5)))])] = some ((g_slices_pdqsortCmpFunc_int__desc_Touches_1_e t0 t1 t2 t3 b c d m0_0 m1_0 m1_1 m1_2 m1_3 m1_4 m1_5) r)) (t0 : Bool) (t1 : Bool) (t2 : Bool) (t3 : Bool) (b : Int) (c : Int) (d : Int) (m0_0 : (List Int)) (m1_0 : Int) (m1_1 : Int) (m1_2 : (List PartT)) (m1_3 : (List EdgeT)) (m1_4 : (List FutureT)) (m1_5 : (List BarrierT)) : ∀ r, (g_slices_pdqsortCmpFunc_int_b rc b c d (fun z0 z1 => g_desc_Touches_1 z0 z1 m1_4) m0_0) = some r → evW ctx 84 [(.sl 0 1), (.d (intD b)), (.d (intD c)), (.d (intD d)), (.fn 62 [(.ptr 1 0)])] [(.arr 1 (List.map intD m0_0)), (.cells [(.d (intD m1_0)), (.d (intD m1_1)), (.d (D.list t0 (List.map partD m1_2))), (.d (D.list t1 (List.map edgeD m1_3))), (.d (D.list t2 (List.map futureD m1_4))), (.d (D.list t3 (List.map barrierD m1_5)))])] = some ((g_slices_pdqsortCmpFunc_int__desc_Touches_1_e t0 t1 t2 t3 b c d m0_0 m1_0 m1_1 m1_2 m1_3 m1_4 m1_5) r) := by
 show Says _ (fun r rhs => rhs = some ((g_slices_pdqsortCmpFunc_int__desc_Touches_1_e t0 t1 t2 t3 b c d m0_0 m1_0 m1_1 m1_2 m1_3 m1_4 m1_5) r)) _
 unfold g_slices_pdqsortCmpFunc_int_b
 rw [evW_K ctx 84 fn84 _ _ rfl rfl]
 conv => arg 3; whnf
 refine sim_bind (g_slices_pdqsortCmpFunc_int__desc_Touches_1_L0_x t0 t1 t2 t3 d m1_0 m1_1 m1_2 m1_3 m1_4 m1_5 rc) (g_slices_pdqsortCmpFunc_int__desc_Touches_1_L0_ok t0 t1 t2 t3 d m1_0 m1_1 m1_2 m1_3 m1_4 m1_5 rc hrc (b, c, d, true, true, m0_0)) fun r219 hr219 => ?_
 conv => arg 3; whnf
 exact sim_ret rfl
theorem g_slices_pdqsortCmpFunc_int__desc_Touches_1_n_ok : ∀ (n : Nat) (t0 : Bool) (t1 : Bool) (t2 : Bool) (t3 : Bool) (b : Int) (c : Int) (d : Int) (m0_0 : (List Int)) (m1_0 : Int) (m1_1 : Int) (m1_2 : (List PartT)) (m1_3 : (List EdgeT)) (m1_4 : (List FutureT)) (m1_5 : (List BarrierT)) (r : (List Int)), g_slices_pdqsortCmpFunc_int_n n b c d (fun z0 z1 => g_desc_Touches_1 z0 z1 m1_4) m0_0 = some r → evW ctx 84 [(.sl 0 1), (.d (intD b)), (.d (intD c)), (.d (intD d)), (.fn 62 [(.ptr 1 0)])] [(.arr 1 (List.map intD m0_0)), (.cells [(.d (intD m1_0)), (.d (intD m1_1)), (.d (D.list t0 (List.map partD m1_2))), (.d (D.list t1 (List.map edgeD m1_3))), (.d (D.list t2 (List.map futureD m1_4))), (.d (D.list t3 (List.map barrierD m1_5)))])] = some ((g_slices_pdqsortCmpFunc_int__desc_Touches_1_e t0 t1 t2 t3 b c d m0_0 m1_0 m1_1 m1_2 m1_3 m1_4 m1_5) r)
  | 0, t0, t1, t2, t3, b, c, d, m0_0, m1_0, m1_1, m1_2, m1_3, m1_4, m1_5, r, h => by cases h
  | n + 1, t0, t1, t2, t3, b, c, d, m0_0, m1_0, m1_1, m1_2, m1_3, m1_4, m1_5, r, h => g_slices_pdqsortCmpFunc_int__desc_Touches_1_b_ok (g_slices_pdqsortCmpFunc_int_n n) (g_slices_pdqsortCmpFunc_int__desc_Touches_1_n_ok n) t0 t1 t2 t3 b c d m0_0 m1_0 m1_1 m1_2 m1_3 m1_4 m1_5 r h
theorem g_slices_pdqsortCmpFunc_int__desc_Touches_1_ok (t0 : Bool) (t1 : Bool) (t2 : Bool) (t3 : Bool) (b : Int) (c : Int) (d : Int) (m0_0 : (List Int)) (m1_0 : Int) (m1_1 : Int) (m1_2 : (List PartT)) (m1_3 : (List EdgeT)) (m1_4 : (List FutureT)) (m1_5 : (List BarrierT)) : ∀ r, g_slices_pdqsortCmpFunc_int b c d (fun z0 z1 => g_desc_Touches_1 z0 z1 m1_4) m0_0 = some r → evW ctx 84 [(.sl 0 1), (.d (intD b)), (.d (intD c)), (.d (intD d)), (.fn 62 [(.ptr 1 0)])] [(.arr 1 (List.map intD m0_0)), (.cells [(.d (intD m1_0)), (.d (intD m1_1)), (.d (D.list t0 (List.map partD m1_2))), (.d (D.list t1 (List.map edgeD m1_3))), (.d (D.list t2 (List.map futureD m1_4))), (.d (D.list t3 (List.map barrierD m1_5)))])] = some ((g_slices_pdqsortCmpFunc_int__desc_Touches_1_e t0 t1 t2 t3 b c d m0_0 m1_0 m1_1 m1_2 m1_3 m1_4 m1_5) r) := fun r h => by
  obtain ⟨n, hn⟩ := lim1_ex h
  exact g_slices_pdqsortCmpFunc_int__desc_Touches_1_n_ok n t0 t1 t2 t3 b c d m0_0 m1_0 m1_1 m1_2 m1_3 m1_4 m1_5 r hn
def g_slices_SortFunc_l_int_int__desc_Touches_1_e (t0 : Bool) (t1 : Bool) (t2 : Bool) (t3 : Bool) (m0_0 : (List Int)) (m1_0 : Int) (m1_1 : Int) (m1_2 : (List PartT)) (m1_3 : (List EdgeT)) (m1_4 : (List FutureT)) (m1_5 : (List BarrierT)) : (List Int) → V × Heap
  | r => ((.d (D.tup [])), [(.arr 1 (List.map intD r)), (.cells [(.d (intD m1_0)), (.d (intD m1_1)), (.d (D.list t0 (List.map partD m1_2))), (.d (D.list t1 (List.map edgeD m1_3))), (.d (D.list t2 (List.map futureD m1_4))), (.d (D.list t3 (List.map barrierD m1_5)))])])
set_option maxRecDepth 100000 in
set_option maxHeartbeats 40000000 in
theorem g_slices_SortFunc_l_int_int__desc_Touches_1_ok (t0 : Bool) (t1 : Bool) (t2 : Bool) (t3 : Bool) (m0_0 : (List Int)) (m1_0 : Int) (m1_1 : Int) (m1_2 : (List PartT)) (m1_3 : (List EdgeT)) (m1_4 : (List FutureT)) (m1_5 : (List BarrierT)) : ∀ r, (g_slices_SortFunc_l_int_int (fun z0 z1 => g_desc_Touches_1 z0 z1 m1_4) m0_0) = some r → evW ctx 61 [(.sl 0 1), (.fn 62 [(.ptr 1 0)])] [(.arr 1 (List.map intD m0_0)), (.cells [(.d (intD m1_0)), (.d (intD m1_1)), (.d (D.list t0 (List.map partD m1_2))), (.d (D.list t1 (List.map edgeD m1_3))), (.d (D.list t2 (List.map futureD m1_4))), (.d (D.list t3 (List.map barrierD m1_5)))])] = some ((g_slices_SortFunc_l_int_int__desc_Touches_1_e t0 t1 t2 t3 m0_0 m1_0 m1_1 m1_2 m1_3 m1_4 m1_5) r) := by
 show Says _ (fun r rhs => rhs = some ((g_slices_SortFunc_l_int_int__desc_Touches_1_e t0 t1 t2 t3 m0_0 m1_0 m1_1 m1_2 m1_3 m1_4 m1_5) r)) _
 unfold g_slices_SortFunc_l_int_int
 rw [evW_K ctx 61 fn61 _ _ rfl rfl]
 conv => arg 3; whnf
 refine sim_let (x' := (m0_0.length : Int)) (len_enc intD m0_0) ?_
 conv => arg 3; whnf
 refine sim_call g_math_bits_Len_e (g_math_bits_Len_ok (IntKind.u64.wrap (m0_0.length : Int))) rfl fun x0 hx0 => ?_
 conv => arg 3; whnf
 refine sim_bind (g_slices_pdqsortCmpFunc_int__desc_Touches_1_e t0 t1 t2 t3 0 (m0_0.length : Int) x0 m0_0 m1_0 m1_1 m1_2 m1_3 m1_4 m1_5) (g_slices_pdqsortCmpFunc_int__desc_Touches_1_ok t0 t1 t2 t3 0 (m0_0.length : Int) x0 m0_0 m1_0 m1_1 m1_2 m1_3 m1_4 m1_5) fun x1 hx1 => ?_
 conv => arg 3; whnf
 exact sim_ret rfl
def g_desc_Touches_e (r : (List Int)) : D := (D.list true (List.map intD r))
def g_desc_Touches_L0_x (t0 : Bool) (t1 : Bool) (t2 : Bool) (t3 : Bool) (a : DescT) (b : Int) : (List Int) → Ex × List V × Heap
  | r => (.exit 0, [(.ptr 0 0), (.sl 1 1)], [(.cells [(.d (intD a.period)), (.d (intD a.deadline)), (.d (D.list t0 (List.map partD a.parts))), (.d (D.list t1 (List.map edgeD a.edges))), (.d (D.list t2 (List.map futureD a.futures))), (.d (D.list t3 (List.map barrierD a.barriers)))]), (.arr 1 (List.map intD r))])
set_option maxRecDepth 100000 in
set_option maxHeartbeats 40000000 in
theorem g_desc_Touches_L0_ok (t0 : Bool) (t1 : Bool) (t2 : Bool) (t3 : Bool) (a : DescT) (b : Int) : ∀ (s1 : Int × (List Int)) (r : (List Int)), lp (g_desc_Touches_L0 a b) s1 = some r → lpW ctx 0 [1, 2, 5, 12, 13, 14] [2, 5] ir22L0 [(.d (intD b)), (.ptr 0 0), (.sl 1 1), (.d (D.list t2 (List.map futureD a.futures))), (.d (intD (a.futures.length : Int))), (.d (intD s1.1))] [(.cells [(.d (intD a.period)), (.d (intD a.deadline)), (.d (D.list t0 (List.map partD a.parts))), (.d (D.list t1 (List.map edgeD a.edges))), (.d (D.list t2 (List.map futureD a.futures))), (.d (D.list t3 (List.map barrierD a.barriers)))]), (.arr 1 (List.map intD s1.2))] = some ((g_desc_Touches_L0_x t0 t1 t2 t3 a b) r) := by
 refine lp_ok (g_desc_Touches_L0_x t0 t1 t2 t3 a b) ?_
 intro s1 rcl ih
 show Says _ _ (lpW _ _ _ _ _ _ _)
 unfold g_desc_Touches_L0
 rw [lpW_b]
 conv => arg 3; whnf
 refine sim_br rfl ?_ ?_
 ·conv => arg 3; whnf
  refine sim_get (f := futureD) rfl rfl fun x2 hx2 => ?_
  conv => arg 3; whnf
  refine sim_br rfl ?_ ?_
  ·conv => arg 3; whnf
   refine sim_t rfl ?_
   conv => arg 3; whnf
   refine sim_br (ble_enc intD s1.2 1) ?_ ?_
   ·conv => arg 3; whnf
    refine sim_let (app_enc intD s1.2 [s1.1]) ?_
    conv => arg 3; whnf
    exact sim_again (ih ((w64 (s1.1 + 1)), (s1.2 ++ [s1.1])))
   ·exact sim_none
  ·conv => arg 3; whnf
   exact sim_again (ih ((w64 (s1.1 + 1)), s1.2))
 ·conv => arg 3; whnf
  exact sim_ret rfl
set_option maxRecDepth 100000 in
set_option maxHeartbeats 40000000 in
theorem g_desc_Touches_ok (t0 : Bool) (t1 : Bool) (t2 : Bool) (t3 : Bool) (a : DescT) (b : Int) : ∀ r, (g_desc_Touches a b) = some r → evD ctx 22 [(.d (D.agg [(intD a.period), (intD a.deadline), (D.list t0 (List.map partD a.parts)), (D.list t1 (List.map edgeD a.edges)), (D.list t2 (List.map futureD a.futures)), (D.list t3 (List.map barrierD a.barriers))])), (.d (intD b))] = some (g_desc_Touches_e r) := by
 show Says _ (fun r rhs => rhs = some (g_desc_Touches_e r)) _
 unfold g_desc_Touches
 rw [evD_K ctx 22 fn22 _ rfl rfl]
 conv => arg 3; whnf
 refine sim_call g_desc_Check_e (g_desc_Check_ok t0 t1 t2 t3 a) rfl fun x0 hx0 => ?_
 conv => arg 3; whnf
 refine sim_br rfl ?_ ?_
 ·conv => arg 3; whnf
  exact sim_ret rfl
 ·conv => arg 3; whnf
  refine sim_let (x' := (a.futures.length : Int)) (len_enc futureD a.futures) ?_
  conv => arg 3; whnf
  refine sim_bind (g_desc_Touches_L0_x t0 t1 t2 t3 a b) (g_desc_Touches_L0_ok t0 t1 t2 t3 a b (0, ([] : (List Int)))) fun r3 hr3 => ?_
  conv => arg 3; whnf
  refine sim_bind (g_slices_SortFunc_l_int_int__desc_Touches_1_e t0 t1 t2 t3 r3 a.period a.deadline a.parts a.edges a.futures a.barriers) (g_slices_SortFunc_l_int_int__desc_Touches_1_ok t0 t1 t2 t3 r3 a.period a.deadline a.parts a.edges a.futures a.barriers) fun x4 hx4 => ?_
  conv => arg 3; whnf
  exact sim_ret rfl
def g_desc_Feeds_e (r : (List Int)) : D := (D.list true (List.map intD r))
def g_desc_Feeds_L0_x (t0 : Bool) (t1 : Bool) (t2 : Bool) (t3 : Bool) (a : DescT) (b : Int) : (List Int) → Ex × List V × Heap
  | r => (.exit 0, [(.d (intD b)), (.ptr 0 0), (.sl 1 1)], [(.cells [(.d (intD a.period)), (.d (intD a.deadline)), (.d (D.list t0 (List.map partD a.parts))), (.d (D.list t1 (List.map edgeD a.edges))), (.d (D.list t2 (List.map futureD a.futures))), (.d (D.list t3 (List.map barrierD a.barriers)))]), (.arr 1 (List.map intD r))])
set_option maxRecDepth 100000 in
set_option maxHeartbeats 40000000 in
theorem g_desc_Feeds_L0_ok (t0 : Bool) (t1 : Bool) (t2 : Bool) (t3 : Bool) (a : DescT) (b : Int) : ∀ (s1 : Int × (List Int)) (r : (List Int)), lp (g_desc_Feeds_L0 a b) s1 = some r → lpW ctx 0 [1, 2, 5, 14, 15, 16] [1, 2, 5] ir23L0 [(.d (intD b)), (.ptr 0 0), (.sl 1 1), (.d (D.list t1 (List.map edgeD a.edges))), (.d (intD (a.edges.length : Int))), (.d (intD s1.1))] [(.cells [(.d (intD a.period)), (.d (intD a.deadline)), (.d (D.list t0 (List.map partD a.parts))), (.d (D.list t1 (List.map edgeD a.edges))), (.d (D.list t2 (List.map futureD a.futures))), (.d (D.list t3 (List.map barrierD a.barriers)))]), (.arr 1 (List.map intD s1.2))] = some ((g_desc_Feeds_L0_x t0 t1 t2 t3 a b) r) := by
 refine lp_ok (g_desc_Feeds_L0_x t0 t1 t2 t3 a b) ?_
 intro s1 rcl ih
 show Says _ _ (lpW _ _ _ _ _ _ _)
 unfold g_desc_Feeds_L0
 rw [lpW_b]
 conv => arg 3; whnf
 refine sim_br rfl ?_ ?_
 ·conv => arg 3; whnf
  refine sim_get (f := edgeD) rfl rfl fun x2 hx2 => ?_
  conv => arg 3; whnf
  refine sim_br rfl ?_ ?_
  ·conv => arg 3; whnf
   refine sim_t rfl ?_
   conv => arg 3; whnf
   refine sim_br (ble_enc intD s1.2 1) ?_ ?_
   ·conv => arg 3; whnf
    refine sim_let (app_enc intD s1.2 [x2.src]) ?_
    conv => arg 3; whnf
    exact sim_again (ih ((w64 (s1.1 + 1)), (s1.2 ++ [x2.src])))
   ·exact sim_none
  ·conv => arg 3; whnf
   exact sim_again (ih ((w64 (s1.1 + 1)), s1.2))
 ·conv => arg 3; whnf
  exact sim_ret rfl
def g_desc_Feeds_L1_x (t0 : Bool) (t1 : Bool) (t2 : Bool) (t3 : Bool) (a : DescT) (x4 : (List Int)) : (List Int) → Ex × List V × Heap
  | r => (.exit 2, [(.sl 0 1)], [(.arr 1 (List.map intD r))])
set_option maxRecDepth 100000 in
set_option maxHeartbeats 40000000 in
theorem g_desc_Feeds_L1_ok (t0 : Bool) (t1 : Bool) (t2 : Bool) (t3 : Bool) (a : DescT) (x4 : (List Int)) : ∀ (s5 : Int × (List Int)) (r : (List Int)), lp (g_desc_Feeds_L1 a x4) s5 = some r → lpW ctx 0 [2, 5, 32, 33, 34] [5] ir23L1 [(.ptr 0 0), (.sl 1 1), (.d (D.list true (List.map intD x4))), (.d (intD (x4.length : Int))), (.d (intD s5.1))] [(.cells [(.d (intD a.period)), (.d (intD a.deadline)), (.d (D.list t0 (List.map partD a.parts))), (.d (D.list t1 (List.map edgeD a.edges))), (.d (D.list t2 (List.map futureD a.futures))), (.d (D.list t3 (List.map barrierD a.barriers)))]), (.arr 1 (List.map intD s5.2))] = some ((g_desc_Feeds_L1_x t0 t1 t2 t3 a x4) r) := by
 refine lp_ok (g_desc_Feeds_L1_x t0 t1 t2 t3 a x4) ?_
 intro s5 rcl ih
 show Says _ _ (lpW _ _ _ _ _ _ _)
 unfold g_desc_Feeds_L1
 rw [lpW_b]
 conv => arg 3; whnf
 refine sim_br rfl ?_ ?_
 ·conv => arg 3; whnf
  refine sim_get (f := intD) rfl rfl fun x6 hx6 => ?_
  conv => arg 3; whnf
  refine sim_get (f := futureD) rfl rfl fun x7 hx7 => ?_
  conv => arg 3; whnf
  refine sim_t rfl ?_
  conv => arg 3; whnf
  refine sim_br (ble_enc intD s5.2 1) ?_ ?_
  ·conv => arg 3; whnf
   refine sim_let (app_enc intD s5.2 [x7.maker]) ?_
   conv => arg 3; whnf
   exact sim_again (ih ((w64 (s5.1 + 1)), (s5.2 ++ [x7.maker])))
  ·exact sim_none
 ·conv => arg 3; whnf
  exact sim_ret rfl
set_option maxRecDepth 100000 in
set_option maxHeartbeats 40000000 in
theorem g_desc_Feeds_ok (t0 : Bool) (t1 : Bool) (t2 : Bool) (t3 : Bool) (a : DescT) (b : Int) : ∀ r, (g_desc_Feeds a b) = some r → evD ctx 23 [(.d (D.agg [(intD a.period), (intD a.deadline), (D.list t0 (List.map partD a.parts)), (D.list t1 (List.map edgeD a.edges)), (D.list t2 (List.map futureD a.futures)), (D.list t3 (List.map barrierD a.barriers))])), (.d (intD b))] = some (g_desc_Feeds_e r) := by
 show Says _ (fun r rhs => rhs = some (g_desc_Feeds_e r)) _
 unfold g_desc_Feeds
 rw [evD_K ctx 23 fn23 _ rfl rfl]
 conv => arg 3; whnf
 refine sim_call g_desc_Check_e (g_desc_Check_ok t0 t1 t2 t3 a) rfl fun x0 hx0 => ?_
 conv => arg 3; whnf
 refine sim_br rfl ?_ ?_
 ·conv => arg 3; whnf
  exact sim_ret rfl
 ·conv => arg 3; whnf
  refine sim_let (x' := (a.edges.length : Int)) (len_enc edgeD a.edges) ?_
  conv => arg 3; whnf
  refine sim_bind (g_desc_Feeds_L0_x t0 t1 t2 t3 a b) (g_desc_Feeds_L0_ok t0 t1 t2 t3 a b (0, ([] : (List Int)))) fun r3 hr3 => ?_
  conv => arg 3; whnf
  refine sim_call g_desc_Touches_e (g_desc_Touches_ok t0 t1 t2 t3 a b) rfl fun x4 hx4 => ?_
  conv => arg 3; whnf
  refine sim_let (x' := (x4.length : Int)) (len_enc intD x4) ?_
  conv => arg 3; whnf
  refine sim_bind (g_desc_Feeds_L1_x t0 t1 t2 t3 a x4) (g_desc_Feeds_L1_ok t0 t1 t2 t3 a x4 (0, r3)) fun r8 hr8 => ?_
  conv => arg 3; whnf
  exact sim_ret rfl
def g_law05_DescCounts_e (r : Bool) : D := (D.bool r)
def g_law05_DescCounts_L0_x (t0 : Bool) (t1 : Bool) (t2 : Bool) (t3 : Bool) (a : DescT) (s5 : Int × Int) (x7 : (List Int)) : (Unit ⊕ Unit) → Ex × List V × Heap
  | (.inl r) => (.ret, [(.ptr 0 0), (.d (D.bool false)), (.d (intD (w64 (s5.1 + (x7.length : Int))))), (.d (intD s5.2))], [(.cells [(.d (intD a.period)), (.d (intD a.deadline)), (.d (D.list t0 (List.map partD a.parts))), (.d (D.list t1 (List.map edgeD a.edges))), (.d (D.list t2 (List.map futureD a.futures))), (.d (D.list t3 (List.map barrierD a.barriers)))])])
  | (.inr r) => (.exit 2, [(.ptr 0 0), .bad, (.d (intD (w64 (s5.1 + (x7.length : Int))))), (.d (intD s5.2))], [(.cells [(.d (intD a.period)), (.d (intD a.deadline)), (.d (D.list t0 (List.map partD a.parts))), (.d (D.list t1 (List.map edgeD a.edges))), (.d (D.list t2 (List.map futureD a.futures))), (.d (D.list t3 (List.map barrierD a.barriers)))])])
set_option maxRecDepth 100000 in
set_option maxHeartbeats 40000000 in
theorem g_law05_DescCounts_L0_ok (t0 : Bool) (t1 : Bool) (t2 : Bool) (t3 : Bool) (a : DescT) (s5 : Int × Int) (x7 : (List Int)) : ∀ (s8 : Int) (r : (Unit ⊕ Unit)), lp (g_law05_DescCounts_L0 a s5 x7) s8 = some r → lpW ctx 0 [1, 3, 4, 5, 6] [1, 2, 3, 4] ir6L0 [(.ptr 0 0), (.d (intD (w64 (s5.1 + (x7.length : Int))))), (.d (intD s5.2)), (.d (D.list true (List.map intD x7))), (.d (intD s8))] [(.cells [(.d (intD a.period)), (.d (intD a.deadline)), (.d (D.list t0 (List.map partD a.parts))), (.d (D.list t1 (List.map edgeD a.edges))), (.d (D.list t2 (List.map futureD a.futures))), (.d (D.list t3 (List.map barrierD a.barriers)))])] = some ((g_law05_DescCounts_L0_x t0 t1 t2 t3 a s5 x7) r) := by
 refine lp_ok (g_law05_DescCounts_L0_x t0 t1 t2 t3 a s5 x7) ?_
 intro s8 rcl ih
 show Says _ _ (lpW _ _ _ _ _ _ _)
 unfold g_law05_DescCounts_L0
 rw [lpW_b]
 conv => arg 3; whnf
 refine sim_let (x' := (x7.length : Int)) (len_enc intD x7) ?_
 conv => arg 3; whnf
 refine sim_br rfl ?_ ?_
 ·conv => arg 3; whnf
  refine sim_get (f := intD) rfl rfl fun x9 hx9 => ?_
  conv => arg 3; whnf
  refine sim_br rfl ?_ ?_
  ·conv => arg 3; whnf
   exact sim_ret rfl
  ·conv => arg 3; whnf
   refine sim_known (get_of (f := intD) rfl hx9) ?_
   conv => arg 3; whnf
   refine sim_call g_ref05_Part_e (g_ref05_Part_ok t0 t1 t2 t3 a x9) rfl fun x10 hx10 => ?_
   conv => arg 3; whnf
   refine sim_br rfl ?_ ?_
   ·conv => arg 3; whnf
    exact sim_again (ih (w64 (s8 + 1)))
   ·conv => arg 3; whnf
    exact sim_ret rfl
 ·conv => arg 3; whnf
  exact sim_ret rfl
def g_law05_DescCounts_L1_x (t0 : Bool) (t1 : Bool) (t2 : Bool) (t3 : Bool) (a : DescT) : (Int ⊕ Int) → Ex × List V × Heap
  | (.inl r) => (.ret, [(.ptr 0 0), (.d (D.bool false)), (.d (intD r))], [(.cells [(.d (intD a.period)), (.d (intD a.deadline)), (.d (D.list t0 (List.map partD a.parts))), (.d (D.list t1 (List.map edgeD a.edges))), (.d (D.list t2 (List.map futureD a.futures))), (.d (D.list t3 (List.map barrierD a.barriers)))])])
  | (.inr r) => (.exit 0, [(.ptr 0 0), .bad, (.d (intD r))], [(.cells [(.d (intD a.period)), (.d (intD a.deadline)), (.d (D.list t0 (List.map partD a.parts))), (.d (D.list t1 (List.map edgeD a.edges))), (.d (D.list t2 (List.map futureD a.futures))), (.d (D.list t3 (List.map barrierD a.barriers)))])])
set_option maxRecDepth 100000 in
set_option maxHeartbeats 40000000 in
theorem g_law05_DescCounts_L1_ok (t0 : Bool) (t1 : Bool) (t2 : Bool) (t3 : Bool) (a : DescT) : ∀ (s5 : Int × Int) (r : (Int ⊕ Int)), lp (g_law05_DescCounts_L1 a) s5 = some r → lpW ctx 0 [1, 3, 4] [1, 2, 3] ir6L1 [(.ptr 0 0), (.d (intD s5.1)), (.d (intD s5.2))] [(.cells [(.d (intD a.period)), (.d (intD a.deadline)), (.d (D.list t0 (List.map partD a.parts))), (.d (D.list t1 (List.map edgeD a.edges))), (.d (D.list t2 (List.map futureD a.futures))), (.d (D.list t3 (List.map barrierD a.barriers)))])] = some ((g_law05_DescCounts_L1_x t0 t1 t2 t3 a) r) := by
 refine lp_ok (g_law05_DescCounts_L1_x t0 t1 t2 t3 a) ?_
 intro s5 rcl ih
 show Says _ _ (lpW _ _ _ _ _ _ _)
 unfold g_law05_DescCounts_L1
 rw [lpW_b]
 conv => arg 3; whnf
 refine sim_let (x' := (a.parts.length : Int)) (len_enc partD a.parts) ?_
 conv => arg 3; whnf
 refine sim_br rfl ?_ ?_
 ·conv => arg 3; whnf
  refine sim_bind (g_law05_Own_e t0 t1 t2 t3 a) (g_law05_Own_ok t0 t1 t2 t3 a) fun x6 hx6 => ?_
  conv => arg 3; whnf
  refine sim_call g_desc_Feeds_e (g_desc_Feeds_ok false false false false (DescT.mk a.period a.deadline a.parts a.edges a.futures x6) s5.2) rfl fun x7 hx7 => ?_
  conv => arg 3; whnf
  refine sim_let (x' := (x7.length : Int)) (len_enc intD x7) ?_
  conv => arg 3; whnf
  refine sim_bind (g_law05_DescCounts_L0_x t0 t1 t2 t3 a s5 x7) (g_law05_DescCounts_L0_ok t0 t1 t2 t3 a s5 x7 0) fun r11 hr11 => ?_
  clear hr11
  rcases r11 with r11 | r11
  ·conv => arg 3; whnf
   exact sim_ret rfl
  ·conv => arg 3; whnf
   exact sim_again (ih ((w64 (s5.1 + (x7.length : Int))), (w64 (s5.2 + 1))))
 ·conv => arg 3; whnf
  exact sim_ret rfl
set_option maxRecDepth 100000 in
set_option maxHeartbeats 40000000 in
theorem g_law05_DescCounts_ok (t0 : Bool) (t1 : Bool) (t2 : Bool) (t3 : Bool) (a : DescT) : ∀ r, (g_law05_DescCounts a) = some r → evD ctx 6 [(.d (D.agg [(intD a.period), (intD a.deadline), (D.list t0 (List.map partD a.parts)), (D.list t1 (List.map edgeD a.edges)), (D.list t2 (List.map futureD a.futures)), (D.list t3 (List.map barrierD a.barriers))]))] = some (g_law05_DescCounts_e r) := by
 show Says _ (fun r rhs => rhs = some (g_law05_DescCounts_e r)) _
 unfold g_law05_DescCounts
 rw [evD_K ctx 6 fn6 _ rfl rfl]
 conv => arg 3; whnf
 refine sim_call D.bool (g_law05_awake_ok) rfl fun x0 hx0 => ?_
 conv => arg 3; whnf
 refine sim_br rfl ?_ ?_
 ·conv => arg 3; whnf
  refine sim_call g_ref05_Few_e (g_ref05_Few_ok t0 t1 t2 t3 a) rfl fun x1 hx1 => ?_
  conv => arg 3; whnf
  refine sim_br rfl ?_ ?_
  ·conv => arg 3; whnf
   refine sim_bind (g_law05_Own_e t0 t1 t2 t3 a) (g_law05_Own_ok t0 t1 t2 t3 a) fun x2 hx2 => ?_
   conv => arg 3; whnf
   refine sim_call g_desc_Check_e (g_desc_Check_ok false false false false (DescT.mk a.period a.deadline a.parts a.edges a.futures x2)) rfl fun x3 hx3 => ?_
   conv => arg 3; whnf
   refine sim_br rfl ?_ ?_
   ·conv => arg 3; whnf
    refine sim_call D.bool (g_law05_awake_ok) rfl fun x4 hx4 => ?_
    conv => arg 3; whnf
    refine sim_br rfl ?_ ?_
    ·conv => arg 3; whnf
     exact sim_ret rfl
    ·conv => arg 3; whnf
     exact sim_ret rfl
   ·conv => arg 3; whnf
    refine sim_bind (g_law05_DescCounts_L1_x t0 t1 t2 t3 a) (g_law05_DescCounts_L1_ok t0 t1 t2 t3 a (0, 0)) fun r12 hr12 => ?_
    clear hr12
    rcases r12 with r12 | r12
    ·conv => arg 3; whnf
     exact sim_ret rfl
    ·conv => arg 3; whnf
     refine sim_let (x' := (a.edges.length : Int)) (len_enc edgeD a.edges) ?_
     conv => arg 3; whnf
     refine sim_let (x' := (a.futures.length : Int)) (len_enc futureD a.futures) ?_
     conv => arg 3; whnf
     refine sim_br rfl ?_ ?_
     ·conv => arg 3; whnf
      exact sim_ret rfl
     ·conv => arg 3; whnf
      exact sim_ret rfl
  ·conv => arg 3; whnf
   refine sim_call D.bool (g_law05_awake_ok) rfl fun x13 hx13 => ?_
   conv => arg 3; whnf
   refine sim_br rfl ?_ ?_
   ·conv => arg 3; whnf
    exact sim_ret rfl
   ·conv => arg 3; whnf
    exact sim_ret rfl
 ·conv => arg 3; whnf
  refine sim_call D.bool (g_law05_awake_ok) rfl fun x14 hx14 => ?_
  conv => arg 3; whnf
  refine sim_br rfl ?_ ?_
  ·conv => arg 3; whnf
   exact sim_ret rfl
  ·conv => arg 3; whnf
   exact sim_ret rfl
end Go.Proofs.YtakebhleglnpjaaDoor

namespace Go.Proofs.YtakebhleglnpjaaDoor
open Go Go.Proofs.YtakebhleglnpjaaDoorE
abbrev par3 : List Lf × Bool := ([.int .i64], false)
abbrev par27 : List Lf × Bool := ([.int .i64, .int .i64, .sl true [.int .i64, .int .i64, .int .i64], .sl true [.int .i64, .int .i64], .sl true [.int .i64, .int .i64, .int .i64], .sl true [.sl false [.int .i64], .sl false [.int .i64]]], true)
abbrev par34 : List Lf × Bool := ([.sl false [.int .i64]], false)
abbrev par43 : List Lf × Bool := ([.sl true [.int .i64, .int .i64, .int .i64, .int .i64, .int .i64]], false)
end Go.Proofs.YtakebhleglnpjaaDoor

namespace Go.Proofs.YtakebhleglnpjaaDoor
open Go Go.Proofs.YtakebhleglnpjaaDoorE
set_option linter.unusedVariables false
set_option linter.unusedSimpArgs false
def sumN (f : Nat → Nat) : Nat → Nat → Nat
  | _, 0 => 0
  | u, k + 1 => f u + sumN f (u + 1) k
theorem sum_add (f g : Nat → Nat) : ∀ (k u : Nat), sumN (fun v => f v + g v) u k = sumN f u k + sumN g u k
  | 0, _ => rfl
  | k + 1, u => by
    unfold sumN
    rw [sum_add f g k (u + 1)]
    omega
theorem sum_one (z : Int) : ∀ (k u : Nat), sumN (fun v => if (z == (v : Int)) = true then 1 else 0) u k = if (u : Int) ≤ z ∧ z < (u : Int) + k then 1 else 0
  | 0, u => by
    unfold sumN
    rw [if_neg (by omega)]
  | k + 1, u => by
    unfold sumN
    rw [sum_one z k (u + 1)]
    by_cases h : z = (u : Int)
    · rw [if_pos (by simpa using h), if_neg (by omega), if_pos (by omega)]
    · rw [if_neg (by simpa using h)]
      by_cases h2 : ((u + 1 : Nat) : Int) ≤ z ∧ z < ((u + 1 : Nat) : Int) + k
      · rw [if_pos h2, if_pos (by omega)]
      · rw [if_neg h2, if_neg (by omega)]
theorem sum_zero : ∀ (k u : Nat), sumN (fun _ => 0) u k = 0
  | 0, _ => rfl
  | k + 1, u => by unfold sumN; rw [sum_zero k]
theorem sum_count {γ : Type} (key : γ → Int) (n : Nat) : ∀ l : List γ, (∀ x ∈ l, 0 ≤ key x ∧ key x < (n : Int)) → sumN (fun v => l.countP fun x => key x == (v : Int)) 0 n = l.length
  | [], _ => sum_zero n 0
  | x :: l, h => by
    have ih := sum_count key n l fun y hy => h y (by simp [hy])
    have e : (fun v : Nat => (x :: l).countP fun x => key x == (v : Int)) = fun v : Nat => (l.countP fun x => key x == (v : Int)) + (if (key x == (v : Int)) = true then 1 else 0) := by
      funext v
      rw [List.countP_cons]
    rw [e, sum_add, ih, sum_one, List.length_cons]
    have := h x (by simp)
    rw [if_pos (by omega)]
theorem feeds_ok {d : DescT} (g : Good d) {u : Int} {r : List Int} (hr : IsTouches d u r) : ∀ x ∈ feeds d u r, x ≠ u ∧ inPart d.parts.length x = true := by
  intro x hx
  unfold feeds at hx
  have two_ok : ∀ y z : Int, two d.parts.length y z = true → y ≠ z ∧ inPart d.parts.length y = true := fun y z h => by
    rw [two_part] at h
    simp only [Bool.and_eq_true, bne_iff_ne] at h
    exact ⟨h.1, h.2.1⟩
  rcases List.mem_append.1 hx with h | h
  · obtain ⟨j, e, h1, h2, rfl⟩ := (sel_mem _ _ _ _ _).1 h
    have := two_ok _ _ (g.e e (List.mem_of_getElem? h1))
    rw [eq_of_beq h2] at this
    exact this
  · obtain ⟨z, hz, rfl⟩ := List.mem_map.1 h
    obtain ⟨i, f, f1, f2, rfl⟩ := (hr.mem z).1 hz
    have := two_ok _ _ (g.f f (List.mem_of_getElem? f1)).1
    unfold makerAt
    rw [Int.toNat_natCast, f1, ← f2]
    exact this
theorem feeds_len {d : DescT} {u : Int} {r : List Int} (hr : IsTouches d u r) : (feeds d u r).length = (d.edges.countP fun e => e.dst == u) + (d.futures.countP fun f => f.user == u) := by
  unfold feeds
  rw [List.length_append, List.length_map, touch_len hr, sel_len]
  unfold mine
  rw [sel_len]
theorem counts_inner {d : DescT} (n : Int) (u : Int) (l : List Int) (hl : l.length < 9223372036854775808) (h : ∀ x ∈ l, x ≠ u ∧ inPart d.parts.length x = true) : lp (g_law05_DescCounts_L0 d (n, u) l) 0 = some (.inr ()) := by
  have key := lp_stop l (g_law05_DescCounts_L0 d (n, u) l) (fun _ x => (x == u) || !(inPart d.parts.length x)) (fun _ _ => .inl ()) (.inr ()) (fun i x hi hx => by
      simp only [g_law05_DescCounts_L0, lt_t hi, at_some hx, Option.bind_some, w64_succ hi hl, cond_true, ref_part]
      cases x == u <;> cases inPart d.parts.length x <;> rfl) (by simp only [g_law05_DescCounts_L0, lt_f]; rfl)
  rw [key, stop_const, anyI_any]
  have : (l.any fun x => (x == u) || !(inPart d.parts.length x)) = false := by
    rw [List.any_eq_false]
    intro x hx
    obtain ⟨h1, h2⟩ := h x hx
    simp [h1, h2]
  rw [this]
  rfl
theorem law_DescCounts (a : DescT) : g_law05_DescCounts a = some true := by
  unfold g_law05_DescCounts
  simp only [g_law05_awake, few_p, Option.bind_some, cond_true]
  cases ha : few a with
  | false => rfl
  | true =>
    have sa := few_sized ha
    have sh := sa.short
    have pe := sa.e
    have pf := sa.f
    have pp := sa.p
    have he : a.edges.length ≤ 1000 := by omega
    have hf : a.futures.length ≤ 1000 := by omega
    simp only [own_p a sa, Option.bind_some, check_p a sh, cond_true]
    by_cases hc : checkD a = 0
    case neg => rw [show (checkD a != 0) = true by simpa using hc]; rfl
    rw [show (checkD a != 0) = false by simpa using hc]
    have g := good_of hc
    have one : ∀ u : Nat, ((a.edges.countP fun e => e.dst == (u : Int)) + (a.futures.countP fun f => f.user == (u : Int))) ≤ 80 := fun u => by
      have h1 := List.countP_le_length (p := fun e : EdgeT => e.dst == (u : Int)) (l := a.edges)
      have h2 := List.countP_le_length (p := fun f : FutureT => f.user == (u : Int)) (l := a.futures)
      omega
    have key : ∀ (k u n : Nat), u + k = a.parts.length → n ≤ 80 * u → lp (g_law05_DescCounts_L1 a) ((n : Int), (u : Int)) = some (.inr ((n + sumN (fun v => (a.edges.countP fun e => e.dst == (v : Int)) + (a.futures.countP fun f => f.user == (v : Int))) u k : Nat) : Int)) := by
      intro k
      induction k with
      | zero =>
        intro u n hu hn
        have : u = a.parts.length := by omega
        subst this
        rw [lp_eq]
        simp only [g_law05_DescCounts_L1, lt_f, cond_false]
        rfl
      | succ k ih =>
        intro u n hu hn
        have hu' : u < a.parts.length := by omega
        obtain ⟨r, t1, t2⟩ := touches_p a sh hf hc (u : Int)
        have hlen := feeds_len t2
        have h1 := one u
        have inner := counts_inner (d := a) (n : Int) (u : Int) (feeds a (u : Int) r) (by omega) (feeds_ok g t2)
        have e1 : w64 ((n : Int) + ((feeds a (u : Int) r).length : Int)) = ((n + ((a.edges.countP fun e => e.dst == (u : Int)) + (a.futures.countP fun f => f.user == (u : Int))) : Nat) : Int) := by
          rw [hlen]
          exact w_nat (by omega) (by omega)
        rw [lp_eq]
        simp only [g_law05_DescCounts_L1, lt_t hu', cond_true, own_p a sa, Option.bind_some, feeds_p a sh he hf hc (u : Int) t2, inner, e1, w64_succ hu' (show a.parts.length < 9223372036854775808 by omega)]
        rw [ih (u + 1) _ (by omega) (by omega)]
        conv => rhs; unfold sumN
        rw [Nat.add_assoc]
    have k0 := key a.parts.length 0 0 (by omega) (by omega)
    have s1 := sum_count (fun e : EdgeT => e.dst) a.parts.length a.edges fun e hm => by
      have := g.e e hm
      rw [two_part] at this
      simp only [Bool.and_eq_true, inPart, decide_eq_true_eq] at this
      exact this.2.2
    have s2 := sum_count (fun f : FutureT => f.user) a.parts.length a.futures fun f hm => by
      have := (g.f f hm).1
      rw [two_part] at this
      simp only [Bool.and_eq_true, inPart, decide_eq_true_eq] at this
      exact this.2.2
    rw [sum_add, s1, s2, Nat.zero_add] at k0
    have e2 : w64 ((a.edges.length : Int) + (a.futures.length : Int)) = ((a.edges.length + a.futures.length : Nat) : Int) := w_nat (by omega) (by omega)
    have k0' : lp (g_law05_DescCounts_L1 a) (0, 0) = some (.inr ((a.edges.length + a.futures.length : Nat) : Int)) := k0
    simp only [cond_false, k0', Option.bind_some, e2, beq_self_eq_true, cond_true]
theorem ev_DescCounts (xs : List D) (h : okLfs par27.1 xs) : ∃ H', evW ctx 6 (mapd [parD par27.2 xs]) [] = some (.d (.bool true), H') := by
  obtain ⟨d, hd, okd⟩ := desc_of h
  show ∃ H', evW ctx 6 [.d (D.agg xs)] [] = _
  rw [hd]
  exact evD_true (g_law05_DescCounts_ok true true true true d true (law_DescCounts d))
end Go.Proofs.YtakebhleglnpjaaDoor

namespace Go.Proofs.YtakebhleglnpjaaDoor.LawDescCounts
open Go.ChangeShapes Go.WideShapes Go.ChangeAt Go.RowKit Go.Proofs.YtakebhleglnpjaaDoorE
set_option linter.unusedVariables false
theorem own : ownKnob Tryd.prog.godebug = none := by kernel_rfl
theorem laidOut : laidOutB Tryd.prog = true := by kernel_rfl
def laidL : List (String × DataW Unit) := [("math/bits.deBruijn32tab", Rows.laid_math_bits_deBruijn32tab), ("math/bits.deBruijn64tab", Rows.laid_math_bits_deBruijn64tab)]
theorem door_met (os : Os) (args : Array Value) : laidMetH Tryd.prog laidL ((World.doorLaid Tryd.prog 19 os).forCall (fun _ _ => 0) ⟨#[], args, []⟩).memory :=
  laidMetH_of_parts3 (fuel := 8) (laidMet_of_run' 8 (by kernel_rfl) (by kernel_rfl)) (by kernel_rfl) (by kernel_rfl)
theorem globs_ok {W : World} (h : laidMetH Tryd.prog laidL W) : GOK globs R0 W := by
  intro g l hg
  unfold globs at hg
  split at hg
  · cases hg
    exact laid_table (t := 121) (N := 32) (e := 5) (k := .u8) h (by kernel_rfl) (n := "math/bits.deBruijn32tab") (by rw [show DataW.agg (litsOf gRow0) = Rows.laid_math_bits_deBruijn32tab by kernel_rfl]; simp [laidL]) (by kernel_rfl) (by kernel_rfl) (by kernel_rfl) (by kernel_rfl) (by kernel_rfl) (by kernel_rfl) (by decide)
  · cases hg
    exact laid_table (t := 122) (N := 64) (e := 5) (k := .u8) h (by kernel_rfl) (n := "math/bits.deBruijn64tab") (by rw [show DataW.agg (litsOf gRow1) = Rows.laid_math_bits_deBruijn64tab by kernel_rfl]; simp [laidL]) (by kernel_rfl) (by kernel_rfl) (by kernel_rfl) (by kernel_rfl) (by kernel_rfl) (by kernel_rfl) (by decide)
  · cases hg
set_option maxRecDepth 100000 in
theorem lifted (os : Os) (started : os.Started) (H : Type) (enc : TypeId × Value → H) :
    ReturnsInHanded {} Tryd.checked os 6 .any (fun w args => (Rows.descCountsSpec.pre enc Tryd.prog Tryd.f6 [] false w args ∧ laidMetH Tryd.prog laidL w) ∧ sizedMet enc Tryd.prog Tryd.f6 (OpenSpec.ofChange Rows.descCountsSpec) false w args) (Rows.descCountsSpec.post enc Tryd.prog Tryd.f6 false true false false) := by
  refine returnsInHanded_of_change_and (C := Tryd.checked) (X := fun w _ => laidMetH Tryd.prog laidL w) (fun _ _ _ hh h => h.of_heap hh) own started (by kernel_rfl) Tryd.func6
    (ChangeSpec.witness_shaped (enc := enc) (C := Tryd.checked) (os := os) (X := fun w _ => laidMetH Tryd.prog laidL w) false (World.doorLaid Tryd.prog 19 os) #[.agg #[.int .i64 0, .int .i64 0, .slice none 0 0, .slice none 0 0, .slice none 0 0, .slice none 0 0]] 8 rfl (World.shaped_of_RefB (by kernel_rfl) (by kernel_rfl)) (by kernel_rfl) (by kernel_rfl) (by kernel_rfl) (door_met os _)) ?_
  intro W base args ds gs before hval0 hW _ _ hL _
  have hval : ∀ (j : Nat) t v, Tryd.f6.params[j]? = some t → args[j]? = some v → Value.okWide Tryd.prog W .any base t v := hval0
  have hW' := hW
  obtain ⟨p, q, hA0, hV, rfl, hfz, hnd⟩ := hW
  have hA : DataW.TrodAll enc Tryd.prog W 0 (fun _ => true) true Tryd.f6.params.toList args.toList ds p := hA0
  rw [Tryd.params6] at hA hval
  obtain ⟨v0, vs0, d0, ds0, p0, q0, hargs, rfl, rfl, h0, r0⟩ := trodAll_cons hA
  obtain ⟨rfl, rfl, rfl⟩ := trodAll_nil r0
  obtain rfl : args = #[v0] := by cases args; simp_all
  obtain ⟨rfl, rfl⟩ := trodVars_none hV
  have lt0 : ∀ x ∈ p0, x.block < W.heap.size := by obtain ⟨m, hm⟩ := h0; exact DataW.trod_lt m _ _ _ hm
  obtain ⟨x0, ok0, den0⟩ := par_ok (P := Tryd.prog) (n := 8) (t := 27) (l := par27.1) (ag := par27.2) (by kernel_rfl) (hval 0 27 v0 rfl rfl) h0
  obtain ⟨H1, ev⟩ := ev_DescCounts x0 ok0
  have den : DenDs All All All W [parD par27.2 x0] [v0] := ⟨_, _, rfl, den0, rfl⟩
  refine (law_calls sound (globs_ok hL) den ev).mono fun e W' ⟨he, bel⟩ => ?_
  subst he
  exact ⟨_, rfl, _, _, _, [], _, [], hW', trodAll_mk1 (shut_bool Tryd.underlying4 _), (trodAll_cons_mk (Below.trod laidOut (by kernel_rfl) (of_decide_eq_true (by kernel_rfl)) h0 bel lt0) trodAll_mk0), rfl, bel.frame _, fun h => by cases h⟩
theorem over : Rows.descCountsRow.holds Tryd.pinned (OpenSpec.ofChange Rows.descCountsSpec) :=
  OpenClaim.holds_of_wide 6 Tryd.f6 rfl rfl rfl rfl rfl rfl rfl ⟨rfl, rfl, rfl, rfl, rfl⟩ rfl rfl rfl rfl rfl (by kernel_rfl) Tryd.func6 (by kernel_rfl)
    (of_decide_eq_true (by kernel_rfl)) (by unfold Func.isWrapper; first | (rw [if_pos (by decide +kernel)]; kernel_rfl) | (rw [if_neg (by decide +kernel)]; exact ⟨rfl, rfl⟩))
    (fun os started H enc _ => lifted os started H enc)
theorem proved : Rows.DescCountsSaid := over
theorem carded : Rows.DescCountsCardSaid :=
  Claim7.holds_tied_plain_at .later [] [.data, .data] true (true, "c304ce4f19ee0c58d3f34ffb446807514b945b97a6a1efc5874848b5fda48ca8") false
    proved (fun _ h => by cases h) (by kernel_rfl) (fun _ h => by cases h) descCounts_row_tie rfl ⟨rfl, rfl⟩ (by kernel_rfl) rfl
    (fun f fn hf hfn => by
      obtain rfl : f = 6 := Option.some.inj ((show Tryd.prog.funcNamed "trefoil/trefoillaw05.DescCounts" = some 6 by kernel_rfl).symm.trans hf) |>.symm
      obtain rfl : fn = Tryd.f6 := (Option.some.inj (Tryd.func6.symm.trans hfn)).symm
      exact ⟨by kernel_rfl, fun j t ht => by
        rw [Tryd.params6] at ht
        have hm : t ∈ [27] := by simpa using Array.mem_of_getElem? ht
        have hall : ([27].all fun u => !Tryd.prog.wantsStandIn u) = true := by kernel_rfl
        exact (show Tryd.prog.wantsStandIn t = false by simpa using List.all_eq_true.1 hall t hm)⟩)
    (by kernel_rfl)
end Go.Proofs.YtakebhleglnpjaaDoor.LawDescCounts
namespace Go.Proofs.YtakebhleglnpjaaDoor
theorem descCounts_holds : Rows.DescCountsCardSaid := LawDescCounts.carded
#print axioms descCounts_holds
end Go.Proofs.YtakebhleglnpjaaDoor

