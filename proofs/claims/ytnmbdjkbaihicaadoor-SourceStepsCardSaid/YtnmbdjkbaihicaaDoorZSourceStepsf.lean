/- SourceSteps: part 6 of 6 of the proof: the row and the card of the law, out of what the evaluator says of it; without conditions. -/
import Derived.Test.YtnmbdjkbaihicaaDoorZSourceStepse
import Derived.KernelRfl
import Derived.Test.YtnmbdjkbaihicaaDoorRows
import Derived.Test.YtnmbdjkbaihicaaDoorCards
import Derived.Test.YtnmbdjkbaihicaaDoorTie
import Derived.WalkKit
import Derived.ProofKit
import Derived.OpenShut
import Derived.ShutString
import Derived.ChangeOld
import Derived.Below
import Derived.SizedLaws
import Derived.Handed
import Derived.LaidMore
import Derived.Stop.Joined
import Derived.ChangeShapes
import Derived.Carry
import Derived.SevenTiedAt
set_option maxRecDepth 100000
set_option maxHeartbeats 40000000
namespace Go.Proofs.YtnmbdjkbaihicaaDoor
open Go Go.Proofs.YtnmbdjkbaihicaaDoorE
set_option linter.unusedVariables false
set_option linter.unusedSimpArgs false
def Za (t0 : Bool) (t1 : Bool) (t2 : Bool) (t3 : Bool) (b : Int) (c : Int) (d : Int) (m0_0 : (List Int)) (m1_0 : Int) (m1_1 : Int) (m1_2 : (List ZF)) (m1_3 : (List ZK)) (m1_4 : (List Zp)) (m1_5 : (List Zo)) : (List Int) → V × Zn
  | r => ((.d (D.tup [])), [(.arr 1 (List.map Zd r)), (.cells [(.d (Zd m1_0)), (.d (Zd m1_1)), (.d (D.list t0 (List.map ZW m1_2))), (.d (D.list t1 (List.map ZT m1_3))), (.d (D.list t2 (List.map Zw m1_4))), (.d (D.list t3 (List.map Zt m1_5)))])])
def ZbT (t0 : Bool) (t1 : Bool) (t2 : Bool) (t3 : Bool) (m1_0 : Int) (m1_1 : Int) (m1_2 : (List ZF)) (m1_3 : (List ZK)) (m1_4 : (List Zp)) (m1_5 : (List Zo)) (rc : Int → Int → Int → (Int → Int → Option Int) → (List Int) → Option (List Int)) : (List Int) → Ex × List V × Zn
  | r => (.ret, [], [(.arr 1 (List.map Zd r)), (.cells [(.d (Zd m1_0)), (.d (Zd m1_1)), (.d (D.list t0 (List.map ZW m1_2))), (.d (D.list t1 (List.map ZT m1_3))), (.d (D.list t2 (List.map Zw m1_4))), (.d (D.list t3 (List.map Zt m1_5)))])])
theorem ZdV {t0 : Bool} {t1 : Bool} {t2 : Bool} {t3 : Bool} {m1_0 : Int} {m1_1 : Int} {m1_2 : (List ZF)} {m1_3 : (List ZK)} {m1_4 : (List Zp)} {m1_5 : (List Zo)} {rc : Int → Int → Int → (Int → Int → Option Int) → (List Int) → Option (List Int)} (hrc : ∀ (t0 : Bool) (t1 : Bool) (t2 : Bool) (t3 : Bool) (b : Int) (c : Int) (d : Int) (m0_0 : (List Int)) (m1_0 : Int) (m1_1 : Int) (m1_2 : (List ZF)) (m1_3 : (List ZK)) (m1_4 : (List Zp)) (m1_5 : (List Zo)) (r : (List Int)), rc b c d (fun z0 z1 => Zr z0 z1 m1_4) m0_0 = some r → evW ctx 124 [(.sl 0 1), (.d (Zd b)), (.d (Zd c)), (.d (Zd d)), (.fn 118 [(.ptr 1 0)])] [(.arr 1 (List.map Zd m0_0)), (.cells [(.d (Zd m1_0)), (.d (Zd m1_1)), (.d (D.list t0 (List.map ZW m1_2))), (.d (D.list t1 (List.map ZT m1_3))), (.d (D.list t2 (List.map Zw m1_4))), (.d (D.list t3 (List.map Zt m1_5)))])] = some ((Za t0 t1 t2 t3 b c d m0_0 m1_0 m1_1 m1_2 m1_3 m1_4 m1_5) r)) : ∀ (s0 : Int × Int × Int × Bool × Bool × (List Int)) (r : (List Int)), lp (ZN (fun z0 z1 => Zr z0 z1 m1_4) rc) s0 = some r → lpW ctx 2 [0, 1, 2, 3, 4, 10, 11] [] Ztv [(.sl 0 1), (.d (Zd s0.1)), (.d (Zd s0.2.1)), (.d (Zd s0.2.2.1)), (.fn 118 [(.ptr 1 0)]), (.d (D.bool s0.2.2.2.1)), (.d (D.bool s0.2.2.2.2.1))] [(.arr 1 (List.map Zd s0.2.2.2.2.2)), (.cells [(.d (Zd m1_0)), (.d (Zd m1_1)), (.d (D.list t0 (List.map ZW m1_2))), (.d (D.list t1 (List.map ZT m1_3))), (.d (D.list t2 (List.map Zw m1_4))), (.d (D.list t3 (List.map Zt m1_5)))])] = some ((ZbT t0 t1 t2 t3 m1_0 m1_1 m1_2 m1_3 m1_4 m1_5 rc) r) := by
 refine Zaf (ZbT t0 t1 t2 t3 m1_0 m1_1 m1_2 m1_3 m1_4 m1_5 rc) ?_
 intro s0 rcl ih
 show ZD _ _ (lpW _ _ _ _ _ _ _)
 unfold ZN
 rw [Zag]
 rcases hb : s0.2.2.2.1 with _ | _
 ·refine ZsS ?_
  rcases hb : s0.2.2.2.2.1 with _ | _
  ·refine ZsS ?_
   conv => arg 3; whnf
   refine Zc rfl ?_ ?_
   ·conv => arg 3; whnf
    refine Zf _ Z5 fun x170 hx170 => ?_
    conv => arg 3; whnf
    exact Zb rfl
   ·conv => arg 3; whnf
    refine Zc rfl ?_ ?_
    ·conv => arg 3; whnf
     refine Zf _ Zao fun x171 hx171 => ?_
     conv => arg 3; whnf
     exact Zb rfl
    ·conv => arg 3; whnf
     refine Zf _ Zbu fun x172 hx172 => ?_
     conv => arg 3; whnf
     refine Zf _ Zae fun x173 hx173 => ?_
     conv => arg 3; whnf
     refine Zc rfl ?_ ?_
     ·conv => arg 3; whnf
      refine Zf _ Zaa fun x174 hx174 => ?_
      conv => arg 3; whnf
      refine Zc rfl ?_ ?_
      ·conv => arg 3; whnf
       refine Zj rfl rfl fun x175 hx175 => ?_
       conv => arg 3; whnf
       refine Zg (Zv rfl hx175) ?_
       conv => arg 3; whnf
       refine Zj rfl rfl fun x176 hx176 => ?_
       conv => arg 3; whnf
       refine Zg (Zv rfl hx176) ?_
       conv => arg 3; whnf
       refine Zh _ ZB rfl fun x177 hx177 => ?_
       conv => arg 3; whnf
       refine Zc rfl ?_ ?_
       ·conv => arg 3; whnf
        refine Zf _ Zk fun x178 hx178 => ?_
        clear hx178
        rcases x178 with x178 | x178
        ·conv => arg 3; whnf
         refine Zbb rfl ?_
         conv => arg 3; whnf
         refine Z1 rfl ?_
         conv => arg 3; whnf
         refine Zc rfl ?_ ?_
         ·conv => arg 3; whnf
          refine Zc rfl ?_ ?_
          ·conv => arg 3; whnf
           refine Zf (Za t0 t1 t2 t3 s0.1 x178.1 (w64 (s0.2.2.1 - 1)) x178.2 m1_0 m1_1 m1_2 m1_3 m1_4 m1_5) (hrc t0 t1 t2 t3 s0.1 x178.1 (w64 (s0.2.2.1 - 1)) x178.2 m1_0 m1_1 m1_2 m1_3 m1_4 m1_5) fun x179 hx179 => ?_
           conv => arg 3; whnf
           exact Ze (ih _)
          ·conv => arg 3; whnf
           refine Zf (Za t0 t1 t2 t3 s0.1 x178.1 (w64 (s0.2.2.1 - 1)) x178.2 m1_0 m1_1 m1_2 m1_3 m1_4 m1_5) (hrc t0 t1 t2 t3 s0.1 x178.1 (w64 (s0.2.2.1 - 1)) x178.2 m1_0 m1_1 m1_2 m1_3 m1_4 m1_5) fun x180 hx180 => ?_
           conv => arg 3; whnf
           exact Ze (ih _)
         ·conv => arg 3; whnf
          refine Zc rfl ?_ ?_
          ·conv => arg 3; whnf
           refine Zf (Za t0 t1 t2 t3 (w64 (x178.1 + 1)) s0.2.1 (w64 (s0.2.2.1 - 1)) x178.2 m1_0 m1_1 m1_2 m1_3 m1_4 m1_5) (hrc t0 t1 t2 t3 (w64 (x178.1 + 1)) s0.2.1 (w64 (s0.2.2.1 - 1)) x178.2 m1_0 m1_1 m1_2 m1_3 m1_4 m1_5) fun x181 hx181 => ?_
           conv => arg 3; whnf
           exact Ze (ih _)
          ·conv => arg 3; whnf
           refine Zf (Za t0 t1 t2 t3 (w64 (x178.1 + 1)) s0.2.1 (w64 (s0.2.2.1 - 1)) x178.2 m1_0 m1_1 m1_2 m1_3 m1_4 m1_5) (hrc t0 t1 t2 t3 (w64 (x178.1 + 1)) s0.2.1 (w64 (s0.2.2.1 - 1)) x178.2 m1_0 m1_1 m1_2 m1_3 m1_4 m1_5) fun x182 hx182 => ?_
           conv => arg 3; whnf
           exact Ze (ih _)
        ·conv => arg 3; whnf
         refine Z1 rfl ?_
         conv => arg 3; whnf
         refine Z1 rfl ?_
         conv => arg 3; whnf
         refine Zc rfl ?_ ?_
         ·conv => arg 3; whnf
          refine Zc rfl ?_ ?_
          ·conv => arg 3; whnf
           refine Zf (Za t0 t1 t2 t3 s0.1 x178.1 (w64 (s0.2.2.1 - 1)) x178.2 m1_0 m1_1 m1_2 m1_3 m1_4 m1_5) (hrc t0 t1 t2 t3 s0.1 x178.1 (w64 (s0.2.2.1 - 1)) x178.2 m1_0 m1_1 m1_2 m1_3 m1_4 m1_5) fun x183 hx183 => ?_
           conv => arg 3; whnf
           exact Ze (ih _)
          ·conv => arg 3; whnf
           refine Zf (Za t0 t1 t2 t3 s0.1 x178.1 (w64 (s0.2.2.1 - 1)) x178.2 m1_0 m1_1 m1_2 m1_3 m1_4 m1_5) (hrc t0 t1 t2 t3 s0.1 x178.1 (w64 (s0.2.2.1 - 1)) x178.2 m1_0 m1_1 m1_2 m1_3 m1_4 m1_5) fun x184 hx184 => ?_
           conv => arg 3; whnf
           exact Ze (ih _)
         ·conv => arg 3; whnf
          refine Zc rfl ?_ ?_
          ·conv => arg 3; whnf
           refine Zf (Za t0 t1 t2 t3 (w64 (x178.1 + 1)) s0.2.1 (w64 (s0.2.2.1 - 1)) x178.2 m1_0 m1_1 m1_2 m1_3 m1_4 m1_5) (hrc t0 t1 t2 t3 (w64 (x178.1 + 1)) s0.2.1 (w64 (s0.2.2.1 - 1)) x178.2 m1_0 m1_1 m1_2 m1_3 m1_4 m1_5) fun x185 hx185 => ?_
           conv => arg 3; whnf
           exact Ze (ih _)
          ·conv => arg 3; whnf
           refine Zf (Za t0 t1 t2 t3 (w64 (x178.1 + 1)) s0.2.1 (w64 (s0.2.2.1 - 1)) x178.2 m1_0 m1_1 m1_2 m1_3 m1_4 m1_5) (hrc t0 t1 t2 t3 (w64 (x178.1 + 1)) s0.2.1 (w64 (s0.2.2.1 - 1)) x178.2 m1_0 m1_1 m1_2 m1_3 m1_4 m1_5) fun x186 hx186 => ?_
           conv => arg 3; whnf
           exact Ze (ih _)
       ·conv => arg 3; whnf
        refine Zf _ Zx fun x187 hx187 => ?_
        conv => arg 3; whnf
        exact Ze (ih _)
      ·conv => arg 3; whnf
       refine Zf _ Zk fun x188 hx188 => ?_
       clear hx188
       rcases x188 with x188 | x188
       ·conv => arg 3; whnf
        refine Zbb rfl ?_
        conv => arg 3; whnf
        refine Z1 rfl ?_
        conv => arg 3; whnf
        refine Zc rfl ?_ ?_
        ·conv => arg 3; whnf
         refine Zc rfl ?_ ?_
         ·conv => arg 3; whnf
          refine Zf (Za t0 t1 t2 t3 s0.1 x188.1 (w64 (s0.2.2.1 - 1)) x188.2 m1_0 m1_1 m1_2 m1_3 m1_4 m1_5) (hrc t0 t1 t2 t3 s0.1 x188.1 (w64 (s0.2.2.1 - 1)) x188.2 m1_0 m1_1 m1_2 m1_3 m1_4 m1_5) fun x189 hx189 => ?_
          conv => arg 3; whnf
          exact Ze (ih _)
         ·conv => arg 3; whnf
          refine Zf (Za t0 t1 t2 t3 s0.1 x188.1 (w64 (s0.2.2.1 - 1)) x188.2 m1_0 m1_1 m1_2 m1_3 m1_4 m1_5) (hrc t0 t1 t2 t3 s0.1 x188.1 (w64 (s0.2.2.1 - 1)) x188.2 m1_0 m1_1 m1_2 m1_3 m1_4 m1_5) fun x190 hx190 => ?_
          conv => arg 3; whnf
          exact Ze (ih _)
        ·conv => arg 3; whnf
         refine Zc rfl ?_ ?_
         ·conv => arg 3; whnf
          refine Zf (Za t0 t1 t2 t3 (w64 (x188.1 + 1)) s0.2.1 (w64 (s0.2.2.1 - 1)) x188.2 m1_0 m1_1 m1_2 m1_3 m1_4 m1_5) (hrc t0 t1 t2 t3 (w64 (x188.1 + 1)) s0.2.1 (w64 (s0.2.2.1 - 1)) x188.2 m1_0 m1_1 m1_2 m1_3 m1_4 m1_5) fun x191 hx191 => ?_
          conv => arg 3; whnf
          exact Ze (ih _)
         ·conv => arg 3; whnf
          refine Zf (Za t0 t1 t2 t3 (w64 (x188.1 + 1)) s0.2.1 (w64 (s0.2.2.1 - 1)) x188.2 m1_0 m1_1 m1_2 m1_3 m1_4 m1_5) (hrc t0 t1 t2 t3 (w64 (x188.1 + 1)) s0.2.1 (w64 (s0.2.2.1 - 1)) x188.2 m1_0 m1_1 m1_2 m1_3 m1_4 m1_5) fun x192 hx192 => ?_
          conv => arg 3; whnf
          exact Ze (ih _)
       ·conv => arg 3; whnf
        refine Z1 rfl ?_
        conv => arg 3; whnf
        refine Z1 rfl ?_
        conv => arg 3; whnf
        refine Zc rfl ?_ ?_
        ·conv => arg 3; whnf
         refine Zc rfl ?_ ?_
         ·conv => arg 3; whnf
          refine Zf (Za t0 t1 t2 t3 s0.1 x188.1 (w64 (s0.2.2.1 - 1)) x188.2 m1_0 m1_1 m1_2 m1_3 m1_4 m1_5) (hrc t0 t1 t2 t3 s0.1 x188.1 (w64 (s0.2.2.1 - 1)) x188.2 m1_0 m1_1 m1_2 m1_3 m1_4 m1_5) fun x193 hx193 => ?_
          conv => arg 3; whnf
          exact Ze (ih _)
         ·conv => arg 3; whnf
          refine Zf (Za t0 t1 t2 t3 s0.1 x188.1 (w64 (s0.2.2.1 - 1)) x188.2 m1_0 m1_1 m1_2 m1_3 m1_4 m1_5) (hrc t0 t1 t2 t3 s0.1 x188.1 (w64 (s0.2.2.1 - 1)) x188.2 m1_0 m1_1 m1_2 m1_3 m1_4 m1_5) fun x194 hx194 => ?_
          conv => arg 3; whnf
          exact Ze (ih _)
        ·conv => arg 3; whnf
         refine Zc rfl ?_ ?_
         ·conv => arg 3; whnf
          refine Zf (Za t0 t1 t2 t3 (w64 (x188.1 + 1)) s0.2.1 (w64 (s0.2.2.1 - 1)) x188.2 m1_0 m1_1 m1_2 m1_3 m1_4 m1_5) (hrc t0 t1 t2 t3 (w64 (x188.1 + 1)) s0.2.1 (w64 (s0.2.2.1 - 1)) x188.2 m1_0 m1_1 m1_2 m1_3 m1_4 m1_5) fun x195 hx195 => ?_
          conv => arg 3; whnf
          exact Ze (ih _)
         ·conv => arg 3; whnf
          refine Zf (Za t0 t1 t2 t3 (w64 (x188.1 + 1)) s0.2.1 (w64 (s0.2.2.1 - 1)) x188.2 m1_0 m1_1 m1_2 m1_3 m1_4 m1_5) (hrc t0 t1 t2 t3 (w64 (x188.1 + 1)) s0.2.1 (w64 (s0.2.2.1 - 1)) x188.2 m1_0 m1_1 m1_2 m1_3 m1_4 m1_5) fun x196 hx196 => ?_
          conv => arg 3; whnf
          exact Ze (ih _)
     ·conv => arg 3; whnf
      refine Zc rfl ?_ ?_
      ·conv => arg 3; whnf
       refine Zj rfl rfl fun x197 hx197 => ?_
       conv => arg 3; whnf
       refine Zg (Zv rfl hx197) ?_
       conv => arg 3; whnf
       refine Zj rfl rfl fun x198 hx198 => ?_
       conv => arg 3; whnf
       refine Zg (Zv rfl hx198) ?_
       conv => arg 3; whnf
       refine Zh _ ZB rfl fun x199 hx199 => ?_
       conv => arg 3; whnf
       refine Zc rfl ?_ ?_
       ·conv => arg 3; whnf
        refine Zf _ Zk fun x200 hx200 => ?_
        clear hx200
        rcases x200 with x200 | x200
        ·conv => arg 3; whnf
         refine Zbb rfl ?_
         conv => arg 3; whnf
         refine Z1 rfl ?_
         conv => arg 3; whnf
         refine Zc rfl ?_ ?_
         ·conv => arg 3; whnf
          refine Zc rfl ?_ ?_
          ·conv => arg 3; whnf
           refine Zf (Za t0 t1 t2 t3 s0.1 x200.1 (w64 (s0.2.2.1 - 1)) x200.2 m1_0 m1_1 m1_2 m1_3 m1_4 m1_5) (hrc t0 t1 t2 t3 s0.1 x200.1 (w64 (s0.2.2.1 - 1)) x200.2 m1_0 m1_1 m1_2 m1_3 m1_4 m1_5) fun x201 hx201 => ?_
           conv => arg 3; whnf
           exact Ze (ih _)
          ·conv => arg 3; whnf
           refine Zf (Za t0 t1 t2 t3 s0.1 x200.1 (w64 (s0.2.2.1 - 1)) x200.2 m1_0 m1_1 m1_2 m1_3 m1_4 m1_5) (hrc t0 t1 t2 t3 s0.1 x200.1 (w64 (s0.2.2.1 - 1)) x200.2 m1_0 m1_1 m1_2 m1_3 m1_4 m1_5) fun x202 hx202 => ?_
           conv => arg 3; whnf
           exact Ze (ih _)
         ·conv => arg 3; whnf
          refine Zc rfl ?_ ?_
          ·conv => arg 3; whnf
           refine Zf (Za t0 t1 t2 t3 (w64 (x200.1 + 1)) s0.2.1 (w64 (s0.2.2.1 - 1)) x200.2 m1_0 m1_1 m1_2 m1_3 m1_4 m1_5) (hrc t0 t1 t2 t3 (w64 (x200.1 + 1)) s0.2.1 (w64 (s0.2.2.1 - 1)) x200.2 m1_0 m1_1 m1_2 m1_3 m1_4 m1_5) fun x203 hx203 => ?_
           conv => arg 3; whnf
           exact Ze (ih _)
          ·conv => arg 3; whnf
           refine Zf (Za t0 t1 t2 t3 (w64 (x200.1 + 1)) s0.2.1 (w64 (s0.2.2.1 - 1)) x200.2 m1_0 m1_1 m1_2 m1_3 m1_4 m1_5) (hrc t0 t1 t2 t3 (w64 (x200.1 + 1)) s0.2.1 (w64 (s0.2.2.1 - 1)) x200.2 m1_0 m1_1 m1_2 m1_3 m1_4 m1_5) fun x204 hx204 => ?_
           conv => arg 3; whnf
           exact Ze (ih _)
        ·conv => arg 3; whnf
         refine Z1 rfl ?_
         conv => arg 3; whnf
         refine Z1 rfl ?_
         conv => arg 3; whnf
         refine Zc rfl ?_ ?_
         ·conv => arg 3; whnf
          refine Zc rfl ?_ ?_
          ·conv => arg 3; whnf
           refine Zf (Za t0 t1 t2 t3 s0.1 x200.1 (w64 (s0.2.2.1 - 1)) x200.2 m1_0 m1_1 m1_2 m1_3 m1_4 m1_5) (hrc t0 t1 t2 t3 s0.1 x200.1 (w64 (s0.2.2.1 - 1)) x200.2 m1_0 m1_1 m1_2 m1_3 m1_4 m1_5) fun x205 hx205 => ?_
           conv => arg 3; whnf
           exact Ze (ih _)
          ·conv => arg 3; whnf
           refine Zf (Za t0 t1 t2 t3 s0.1 x200.1 (w64 (s0.2.2.1 - 1)) x200.2 m1_0 m1_1 m1_2 m1_3 m1_4 m1_5) (hrc t0 t1 t2 t3 s0.1 x200.1 (w64 (s0.2.2.1 - 1)) x200.2 m1_0 m1_1 m1_2 m1_3 m1_4 m1_5) fun x206 hx206 => ?_
           conv => arg 3; whnf
           exact Ze (ih _)
         ·conv => arg 3; whnf
          refine Zc rfl ?_ ?_
          ·conv => arg 3; whnf
           refine Zf (Za t0 t1 t2 t3 (w64 (x200.1 + 1)) s0.2.1 (w64 (s0.2.2.1 - 1)) x200.2 m1_0 m1_1 m1_2 m1_3 m1_4 m1_5) (hrc t0 t1 t2 t3 (w64 (x200.1 + 1)) s0.2.1 (w64 (s0.2.2.1 - 1)) x200.2 m1_0 m1_1 m1_2 m1_3 m1_4 m1_5) fun x207 hx207 => ?_
           conv => arg 3; whnf
           exact Ze (ih _)
          ·conv => arg 3; whnf
           refine Zf (Za t0 t1 t2 t3 (w64 (x200.1 + 1)) s0.2.1 (w64 (s0.2.2.1 - 1)) x200.2 m1_0 m1_1 m1_2 m1_3 m1_4 m1_5) (hrc t0 t1 t2 t3 (w64 (x200.1 + 1)) s0.2.1 (w64 (s0.2.2.1 - 1)) x200.2 m1_0 m1_1 m1_2 m1_3 m1_4 m1_5) fun x208 hx208 => ?_
           conv => arg 3; whnf
           exact Ze (ih _)
       ·conv => arg 3; whnf
        refine Zf _ Zx fun x209 hx209 => ?_
        conv => arg 3; whnf
        exact Ze (ih _)
      ·conv => arg 3; whnf
       refine Zf _ Zk fun x210 hx210 => ?_
       clear hx210
       rcases x210 with x210 | x210
       ·conv => arg 3; whnf
        refine Zbb rfl ?_
        conv => arg 3; whnf
        refine Z1 rfl ?_
        conv => arg 3; whnf
        refine Zc rfl ?_ ?_
        ·conv => arg 3; whnf
         refine Zc rfl ?_ ?_
         ·conv => arg 3; whnf
          refine Zf (Za t0 t1 t2 t3 s0.1 x210.1 (w64 (s0.2.2.1 - 1)) x210.2 m1_0 m1_1 m1_2 m1_3 m1_4 m1_5) (hrc t0 t1 t2 t3 s0.1 x210.1 (w64 (s0.2.2.1 - 1)) x210.2 m1_0 m1_1 m1_2 m1_3 m1_4 m1_5) fun x211 hx211 => ?_
          conv => arg 3; whnf
          exact Ze (ih _)
         ·conv => arg 3; whnf
          refine Zf (Za t0 t1 t2 t3 s0.1 x210.1 (w64 (s0.2.2.1 - 1)) x210.2 m1_0 m1_1 m1_2 m1_3 m1_4 m1_5) (hrc t0 t1 t2 t3 s0.1 x210.1 (w64 (s0.2.2.1 - 1)) x210.2 m1_0 m1_1 m1_2 m1_3 m1_4 m1_5) fun x212 hx212 => ?_
          conv => arg 3; whnf
          exact Ze (ih _)
        ·conv => arg 3; whnf
         refine Zc rfl ?_ ?_
         ·conv => arg 3; whnf
          refine Zf (Za t0 t1 t2 t3 (w64 (x210.1 + 1)) s0.2.1 (w64 (s0.2.2.1 - 1)) x210.2 m1_0 m1_1 m1_2 m1_3 m1_4 m1_5) (hrc t0 t1 t2 t3 (w64 (x210.1 + 1)) s0.2.1 (w64 (s0.2.2.1 - 1)) x210.2 m1_0 m1_1 m1_2 m1_3 m1_4 m1_5) fun x213 hx213 => ?_
          conv => arg 3; whnf
          exact Ze (ih _)
         ·conv => arg 3; whnf
          refine Zf (Za t0 t1 t2 t3 (w64 (x210.1 + 1)) s0.2.1 (w64 (s0.2.2.1 - 1)) x210.2 m1_0 m1_1 m1_2 m1_3 m1_4 m1_5) (hrc t0 t1 t2 t3 (w64 (x210.1 + 1)) s0.2.1 (w64 (s0.2.2.1 - 1)) x210.2 m1_0 m1_1 m1_2 m1_3 m1_4 m1_5) fun x214 hx214 => ?_
          conv => arg 3; whnf
          exact Ze (ih _)
       ·conv => arg 3; whnf
        refine Z1 rfl ?_
        conv => arg 3; whnf
        refine Z1 rfl ?_
        conv => arg 3; whnf
        refine Zc rfl ?_ ?_
        ·conv => arg 3; whnf
         refine Zc rfl ?_ ?_
         ·conv => arg 3; whnf
          refine Zf (Za t0 t1 t2 t3 s0.1 x210.1 (w64 (s0.2.2.1 - 1)) x210.2 m1_0 m1_1 m1_2 m1_3 m1_4 m1_5) (hrc t0 t1 t2 t3 s0.1 x210.1 (w64 (s0.2.2.1 - 1)) x210.2 m1_0 m1_1 m1_2 m1_3 m1_4 m1_5) fun x215 hx215 => ?_
          conv => arg 3; whnf
          exact Ze (ih _)
         ·conv => arg 3; whnf
          refine Zf (Za t0 t1 t2 t3 s0.1 x210.1 (w64 (s0.2.2.1 - 1)) x210.2 m1_0 m1_1 m1_2 m1_3 m1_4 m1_5) (hrc t0 t1 t2 t3 s0.1 x210.1 (w64 (s0.2.2.1 - 1)) x210.2 m1_0 m1_1 m1_2 m1_3 m1_4 m1_5) fun x216 hx216 => ?_
          conv => arg 3; whnf
          exact Ze (ih _)
        ·conv => arg 3; whnf
         refine Zc rfl ?_ ?_
         ·conv => arg 3; whnf
          refine Zf (Za t0 t1 t2 t3 (w64 (x210.1 + 1)) s0.2.1 (w64 (s0.2.2.1 - 1)) x210.2 m1_0 m1_1 m1_2 m1_3 m1_4 m1_5) (hrc t0 t1 t2 t3 (w64 (x210.1 + 1)) s0.2.1 (w64 (s0.2.2.1 - 1)) x210.2 m1_0 m1_1 m1_2 m1_3 m1_4 m1_5) fun x217 hx217 => ?_
          conv => arg 3; whnf
          exact Ze (ih _)
         ·conv => arg 3; whnf
          refine Zf (Za t0 t1 t2 t3 (w64 (x210.1 + 1)) s0.2.1 (w64 (s0.2.2.1 - 1)) x210.2 m1_0 m1_1 m1_2 m1_3 m1_4 m1_5) (hrc t0 t1 t2 t3 (w64 (x210.1 + 1)) s0.2.1 (w64 (s0.2.2.1 - 1)) x210.2 m1_0 m1_1 m1_2 m1_3 m1_4 m1_5) fun x218 hx218 => ?_
          conv => arg 3; whnf
          exact Ze (ih _)
  ·refine Zte ?_
   conv => arg 3; whnf
   refine Zc rfl ?_ ?_
   ·conv => arg 3; whnf
    refine Zf _ Z5 fun x121 hx121 => ?_
    conv => arg 3; whnf
    exact Zb rfl
   ·conv => arg 3; whnf
    refine Zc rfl ?_ ?_
    ·conv => arg 3; whnf
     refine Zf _ Zao fun x122 hx122 => ?_
     conv => arg 3; whnf
     exact Zb rfl
    ·conv => arg 3; whnf
     refine Zf _ Zbu fun x123 hx123 => ?_
     conv => arg 3; whnf
     refine Zf _ Zae fun x124 hx124 => ?_
     conv => arg 3; whnf
     refine Zc rfl ?_ ?_
     ·conv => arg 3; whnf
      refine Zf _ Zaa fun x125 hx125 => ?_
      conv => arg 3; whnf
      refine Zc rfl ?_ ?_
      ·conv => arg 3; whnf
       refine Zj rfl rfl fun x126 hx126 => ?_
       conv => arg 3; whnf
       refine Zg (Zv rfl hx126) ?_
       conv => arg 3; whnf
       refine Zj rfl rfl fun x127 hx127 => ?_
       conv => arg 3; whnf
       refine Zg (Zv rfl hx127) ?_
       conv => arg 3; whnf
       refine Zh _ ZB rfl fun x128 hx128 => ?_
       conv => arg 3; whnf
       refine Zc rfl ?_ ?_
       ·conv => arg 3; whnf
        refine Zf _ Zk fun x129 hx129 => ?_
        clear hx129
        rcases x129 with x129 | x129
        ·conv => arg 3; whnf
         refine Zbb rfl ?_
         conv => arg 3; whnf
         refine Z1 rfl ?_
         conv => arg 3; whnf
         refine Zc rfl ?_ ?_
         ·conv => arg 3; whnf
          refine Zc rfl ?_ ?_
          ·conv => arg 3; whnf
           refine Zf (Za t0 t1 t2 t3 s0.1 x129.1 (w64 (s0.2.2.1 - 1)) x129.2 m1_0 m1_1 m1_2 m1_3 m1_4 m1_5) (hrc t0 t1 t2 t3 s0.1 x129.1 (w64 (s0.2.2.1 - 1)) x129.2 m1_0 m1_1 m1_2 m1_3 m1_4 m1_5) fun x130 hx130 => ?_
           conv => arg 3; whnf
           exact Ze (ih _)
          ·conv => arg 3; whnf
           refine Zf (Za t0 t1 t2 t3 s0.1 x129.1 (w64 (s0.2.2.1 - 1)) x129.2 m1_0 m1_1 m1_2 m1_3 m1_4 m1_5) (hrc t0 t1 t2 t3 s0.1 x129.1 (w64 (s0.2.2.1 - 1)) x129.2 m1_0 m1_1 m1_2 m1_3 m1_4 m1_5) fun x131 hx131 => ?_
           conv => arg 3; whnf
           exact Ze (ih _)
         ·conv => arg 3; whnf
          refine Zc rfl ?_ ?_
          ·conv => arg 3; whnf
           refine Zf (Za t0 t1 t2 t3 (w64 (x129.1 + 1)) s0.2.1 (w64 (s0.2.2.1 - 1)) x129.2 m1_0 m1_1 m1_2 m1_3 m1_4 m1_5) (hrc t0 t1 t2 t3 (w64 (x129.1 + 1)) s0.2.1 (w64 (s0.2.2.1 - 1)) x129.2 m1_0 m1_1 m1_2 m1_3 m1_4 m1_5) fun x132 hx132 => ?_
           conv => arg 3; whnf
           exact Ze (ih _)
          ·conv => arg 3; whnf
           refine Zf (Za t0 t1 t2 t3 (w64 (x129.1 + 1)) s0.2.1 (w64 (s0.2.2.1 - 1)) x129.2 m1_0 m1_1 m1_2 m1_3 m1_4 m1_5) (hrc t0 t1 t2 t3 (w64 (x129.1 + 1)) s0.2.1 (w64 (s0.2.2.1 - 1)) x129.2 m1_0 m1_1 m1_2 m1_3 m1_4 m1_5) fun x133 hx133 => ?_
           conv => arg 3; whnf
           exact Ze (ih _)
        ·conv => arg 3; whnf
         refine Z1 rfl ?_
         conv => arg 3; whnf
         refine Z1 rfl ?_
         conv => arg 3; whnf
         refine Zc rfl ?_ ?_
         ·conv => arg 3; whnf
          refine Zc rfl ?_ ?_
          ·conv => arg 3; whnf
           refine Zf (Za t0 t1 t2 t3 s0.1 x129.1 (w64 (s0.2.2.1 - 1)) x129.2 m1_0 m1_1 m1_2 m1_3 m1_4 m1_5) (hrc t0 t1 t2 t3 s0.1 x129.1 (w64 (s0.2.2.1 - 1)) x129.2 m1_0 m1_1 m1_2 m1_3 m1_4 m1_5) fun x134 hx134 => ?_
           conv => arg 3; whnf
           exact Ze (ih _)
          ·conv => arg 3; whnf
           refine Zf (Za t0 t1 t2 t3 s0.1 x129.1 (w64 (s0.2.2.1 - 1)) x129.2 m1_0 m1_1 m1_2 m1_3 m1_4 m1_5) (hrc t0 t1 t2 t3 s0.1 x129.1 (w64 (s0.2.2.1 - 1)) x129.2 m1_0 m1_1 m1_2 m1_3 m1_4 m1_5) fun x135 hx135 => ?_
           conv => arg 3; whnf
           exact Ze (ih _)
         ·conv => arg 3; whnf
          refine Zc rfl ?_ ?_
          ·conv => arg 3; whnf
           refine Zf (Za t0 t1 t2 t3 (w64 (x129.1 + 1)) s0.2.1 (w64 (s0.2.2.1 - 1)) x129.2 m1_0 m1_1 m1_2 m1_3 m1_4 m1_5) (hrc t0 t1 t2 t3 (w64 (x129.1 + 1)) s0.2.1 (w64 (s0.2.2.1 - 1)) x129.2 m1_0 m1_1 m1_2 m1_3 m1_4 m1_5) fun x136 hx136 => ?_
           conv => arg 3; whnf
           exact Ze (ih _)
          ·conv => arg 3; whnf
           refine Zf (Za t0 t1 t2 t3 (w64 (x129.1 + 1)) s0.2.1 (w64 (s0.2.2.1 - 1)) x129.2 m1_0 m1_1 m1_2 m1_3 m1_4 m1_5) (hrc t0 t1 t2 t3 (w64 (x129.1 + 1)) s0.2.1 (w64 (s0.2.2.1 - 1)) x129.2 m1_0 m1_1 m1_2 m1_3 m1_4 m1_5) fun x137 hx137 => ?_
           conv => arg 3; whnf
           exact Ze (ih _)
       ·conv => arg 3; whnf
        refine Zf _ Zx fun x138 hx138 => ?_
        conv => arg 3; whnf
        exact Ze (ih _)
      ·conv => arg 3; whnf
       refine Zf _ Zk fun x139 hx139 => ?_
       clear hx139
       rcases x139 with x139 | x139
       ·conv => arg 3; whnf
        refine Zbb rfl ?_
        conv => arg 3; whnf
        refine Z1 rfl ?_
        conv => arg 3; whnf
        refine Zc rfl ?_ ?_
        ·conv => arg 3; whnf
         refine Zc rfl ?_ ?_
         ·conv => arg 3; whnf
          refine Zf (Za t0 t1 t2 t3 s0.1 x139.1 (w64 (s0.2.2.1 - 1)) x139.2 m1_0 m1_1 m1_2 m1_3 m1_4 m1_5) (hrc t0 t1 t2 t3 s0.1 x139.1 (w64 (s0.2.2.1 - 1)) x139.2 m1_0 m1_1 m1_2 m1_3 m1_4 m1_5) fun x140 hx140 => ?_
          conv => arg 3; whnf
          exact Ze (ih _)
         ·conv => arg 3; whnf
          refine Zf (Za t0 t1 t2 t3 s0.1 x139.1 (w64 (s0.2.2.1 - 1)) x139.2 m1_0 m1_1 m1_2 m1_3 m1_4 m1_5) (hrc t0 t1 t2 t3 s0.1 x139.1 (w64 (s0.2.2.1 - 1)) x139.2 m1_0 m1_1 m1_2 m1_3 m1_4 m1_5) fun x141 hx141 => ?_
          conv => arg 3; whnf
          exact Ze (ih _)
        ·conv => arg 3; whnf
         refine Zc rfl ?_ ?_
         ·conv => arg 3; whnf
          refine Zf (Za t0 t1 t2 t3 (w64 (x139.1 + 1)) s0.2.1 (w64 (s0.2.2.1 - 1)) x139.2 m1_0 m1_1 m1_2 m1_3 m1_4 m1_5) (hrc t0 t1 t2 t3 (w64 (x139.1 + 1)) s0.2.1 (w64 (s0.2.2.1 - 1)) x139.2 m1_0 m1_1 m1_2 m1_3 m1_4 m1_5) fun x142 hx142 => ?_
          conv => arg 3; whnf
          exact Ze (ih _)
         ·conv => arg 3; whnf
          refine Zf (Za t0 t1 t2 t3 (w64 (x139.1 + 1)) s0.2.1 (w64 (s0.2.2.1 - 1)) x139.2 m1_0 m1_1 m1_2 m1_3 m1_4 m1_5) (hrc t0 t1 t2 t3 (w64 (x139.1 + 1)) s0.2.1 (w64 (s0.2.2.1 - 1)) x139.2 m1_0 m1_1 m1_2 m1_3 m1_4 m1_5) fun x143 hx143 => ?_
          conv => arg 3; whnf
          exact Ze (ih _)
       ·conv => arg 3; whnf
        refine Z1 rfl ?_
        conv => arg 3; whnf
        refine Z1 rfl ?_
        conv => arg 3; whnf
        refine Zc rfl ?_ ?_
        ·conv => arg 3; whnf
         refine Zc rfl ?_ ?_
         ·conv => arg 3; whnf
          refine Zf (Za t0 t1 t2 t3 s0.1 x139.1 (w64 (s0.2.2.1 - 1)) x139.2 m1_0 m1_1 m1_2 m1_3 m1_4 m1_5) (hrc t0 t1 t2 t3 s0.1 x139.1 (w64 (s0.2.2.1 - 1)) x139.2 m1_0 m1_1 m1_2 m1_3 m1_4 m1_5) fun x144 hx144 => ?_
          conv => arg 3; whnf
          exact Ze (ih _)
         ·conv => arg 3; whnf
          refine Zf (Za t0 t1 t2 t3 s0.1 x139.1 (w64 (s0.2.2.1 - 1)) x139.2 m1_0 m1_1 m1_2 m1_3 m1_4 m1_5) (hrc t0 t1 t2 t3 s0.1 x139.1 (w64 (s0.2.2.1 - 1)) x139.2 m1_0 m1_1 m1_2 m1_3 m1_4 m1_5) fun x145 hx145 => ?_
          conv => arg 3; whnf
          exact Ze (ih _)
        ·conv => arg 3; whnf
         refine Zc rfl ?_ ?_
         ·conv => arg 3; whnf
          refine Zf (Za t0 t1 t2 t3 (w64 (x139.1 + 1)) s0.2.1 (w64 (s0.2.2.1 - 1)) x139.2 m1_0 m1_1 m1_2 m1_3 m1_4 m1_5) (hrc t0 t1 t2 t3 (w64 (x139.1 + 1)) s0.2.1 (w64 (s0.2.2.1 - 1)) x139.2 m1_0 m1_1 m1_2 m1_3 m1_4 m1_5) fun x146 hx146 => ?_
          conv => arg 3; whnf
          exact Ze (ih _)
         ·conv => arg 3; whnf
          refine Zf (Za t0 t1 t2 t3 (w64 (x139.1 + 1)) s0.2.1 (w64 (s0.2.2.1 - 1)) x139.2 m1_0 m1_1 m1_2 m1_3 m1_4 m1_5) (hrc t0 t1 t2 t3 (w64 (x139.1 + 1)) s0.2.1 (w64 (s0.2.2.1 - 1)) x139.2 m1_0 m1_1 m1_2 m1_3 m1_4 m1_5) fun x147 hx147 => ?_
          conv => arg 3; whnf
          exact Ze (ih _)
     ·conv => arg 3; whnf
      refine Zc rfl ?_ ?_
      ·conv => arg 3; whnf
       refine Zj rfl rfl fun x148 hx148 => ?_
       conv => arg 3; whnf
       refine Zg (Zv rfl hx148) ?_
       conv => arg 3; whnf
       refine Zj rfl rfl fun x149 hx149 => ?_
       conv => arg 3; whnf
       refine Zg (Zv rfl hx149) ?_
       conv => arg 3; whnf
       refine Zh _ ZB rfl fun x150 hx150 => ?_
       conv => arg 3; whnf
       refine Zc rfl ?_ ?_
       ·conv => arg 3; whnf
        refine Zf _ Zk fun x151 hx151 => ?_
        clear hx151
        rcases x151 with x151 | x151
        ·conv => arg 3; whnf
         refine Zbb rfl ?_
         conv => arg 3; whnf
         refine Z1 rfl ?_
         conv => arg 3; whnf
         refine Zc rfl ?_ ?_
         ·conv => arg 3; whnf
          refine Zc rfl ?_ ?_
          ·conv => arg 3; whnf
           refine Zf (Za t0 t1 t2 t3 s0.1 x151.1 (w64 (s0.2.2.1 - 1)) x151.2 m1_0 m1_1 m1_2 m1_3 m1_4 m1_5) (hrc t0 t1 t2 t3 s0.1 x151.1 (w64 (s0.2.2.1 - 1)) x151.2 m1_0 m1_1 m1_2 m1_3 m1_4 m1_5) fun x152 hx152 => ?_
           conv => arg 3; whnf
           exact Ze (ih _)
          ·conv => arg 3; whnf
           refine Zf (Za t0 t1 t2 t3 s0.1 x151.1 (w64 (s0.2.2.1 - 1)) x151.2 m1_0 m1_1 m1_2 m1_3 m1_4 m1_5) (hrc t0 t1 t2 t3 s0.1 x151.1 (w64 (s0.2.2.1 - 1)) x151.2 m1_0 m1_1 m1_2 m1_3 m1_4 m1_5) fun x153 hx153 => ?_
           conv => arg 3; whnf
           exact Ze (ih _)
         ·conv => arg 3; whnf
          refine Zc rfl ?_ ?_
          ·conv => arg 3; whnf
           refine Zf (Za t0 t1 t2 t3 (w64 (x151.1 + 1)) s0.2.1 (w64 (s0.2.2.1 - 1)) x151.2 m1_0 m1_1 m1_2 m1_3 m1_4 m1_5) (hrc t0 t1 t2 t3 (w64 (x151.1 + 1)) s0.2.1 (w64 (s0.2.2.1 - 1)) x151.2 m1_0 m1_1 m1_2 m1_3 m1_4 m1_5) fun x154 hx154 => ?_
           conv => arg 3; whnf
           exact Ze (ih _)
          ·conv => arg 3; whnf
           refine Zf (Za t0 t1 t2 t3 (w64 (x151.1 + 1)) s0.2.1 (w64 (s0.2.2.1 - 1)) x151.2 m1_0 m1_1 m1_2 m1_3 m1_4 m1_5) (hrc t0 t1 t2 t3 (w64 (x151.1 + 1)) s0.2.1 (w64 (s0.2.2.1 - 1)) x151.2 m1_0 m1_1 m1_2 m1_3 m1_4 m1_5) fun x155 hx155 => ?_
           conv => arg 3; whnf
           exact Ze (ih _)
        ·conv => arg 3; whnf
         refine Z1 rfl ?_
         conv => arg 3; whnf
         refine Z1 rfl ?_
         conv => arg 3; whnf
         refine Zc rfl ?_ ?_
         ·conv => arg 3; whnf
          refine Zc rfl ?_ ?_
          ·conv => arg 3; whnf
           refine Zf (Za t0 t1 t2 t3 s0.1 x151.1 (w64 (s0.2.2.1 - 1)) x151.2 m1_0 m1_1 m1_2 m1_3 m1_4 m1_5) (hrc t0 t1 t2 t3 s0.1 x151.1 (w64 (s0.2.2.1 - 1)) x151.2 m1_0 m1_1 m1_2 m1_3 m1_4 m1_5) fun x156 hx156 => ?_
           conv => arg 3; whnf
           exact Ze (ih _)
          ·conv => arg 3; whnf
           refine Zf (Za t0 t1 t2 t3 s0.1 x151.1 (w64 (s0.2.2.1 - 1)) x151.2 m1_0 m1_1 m1_2 m1_3 m1_4 m1_5) (hrc t0 t1 t2 t3 s0.1 x151.1 (w64 (s0.2.2.1 - 1)) x151.2 m1_0 m1_1 m1_2 m1_3 m1_4 m1_5) fun x157 hx157 => ?_
           conv => arg 3; whnf
           exact Ze (ih _)
         ·conv => arg 3; whnf
          refine Zc rfl ?_ ?_
          ·conv => arg 3; whnf
           refine Zf (Za t0 t1 t2 t3 (w64 (x151.1 + 1)) s0.2.1 (w64 (s0.2.2.1 - 1)) x151.2 m1_0 m1_1 m1_2 m1_3 m1_4 m1_5) (hrc t0 t1 t2 t3 (w64 (x151.1 + 1)) s0.2.1 (w64 (s0.2.2.1 - 1)) x151.2 m1_0 m1_1 m1_2 m1_3 m1_4 m1_5) fun x158 hx158 => ?_
           conv => arg 3; whnf
           exact Ze (ih _)
          ·conv => arg 3; whnf
           refine Zf (Za t0 t1 t2 t3 (w64 (x151.1 + 1)) s0.2.1 (w64 (s0.2.2.1 - 1)) x151.2 m1_0 m1_1 m1_2 m1_3 m1_4 m1_5) (hrc t0 t1 t2 t3 (w64 (x151.1 + 1)) s0.2.1 (w64 (s0.2.2.1 - 1)) x151.2 m1_0 m1_1 m1_2 m1_3 m1_4 m1_5) fun x159 hx159 => ?_
           conv => arg 3; whnf
           exact Ze (ih _)
       ·conv => arg 3; whnf
        refine Zf _ Zx fun x160 hx160 => ?_
        conv => arg 3; whnf
        exact Ze (ih _)
      ·conv => arg 3; whnf
       refine Zf _ Zk fun x161 hx161 => ?_
       clear hx161
       rcases x161 with x161 | x161
       ·conv => arg 3; whnf
        refine Zbb rfl ?_
        conv => arg 3; whnf
        refine Z1 rfl ?_
        conv => arg 3; whnf
        refine Zc rfl ?_ ?_
        ·conv => arg 3; whnf
         refine Zc rfl ?_ ?_
         ·conv => arg 3; whnf
          refine Zf (Za t0 t1 t2 t3 s0.1 x161.1 (w64 (s0.2.2.1 - 1)) x161.2 m1_0 m1_1 m1_2 m1_3 m1_4 m1_5) (hrc t0 t1 t2 t3 s0.1 x161.1 (w64 (s0.2.2.1 - 1)) x161.2 m1_0 m1_1 m1_2 m1_3 m1_4 m1_5) fun x162 hx162 => ?_
          conv => arg 3; whnf
          exact Ze (ih _)
         ·conv => arg 3; whnf
          refine Zf (Za t0 t1 t2 t3 s0.1 x161.1 (w64 (s0.2.2.1 - 1)) x161.2 m1_0 m1_1 m1_2 m1_3 m1_4 m1_5) (hrc t0 t1 t2 t3 s0.1 x161.1 (w64 (s0.2.2.1 - 1)) x161.2 m1_0 m1_1 m1_2 m1_3 m1_4 m1_5) fun x163 hx163 => ?_
          conv => arg 3; whnf
          exact Ze (ih _)
        ·conv => arg 3; whnf
         refine Zc rfl ?_ ?_
         ·conv => arg 3; whnf
          refine Zf (Za t0 t1 t2 t3 (w64 (x161.1 + 1)) s0.2.1 (w64 (s0.2.2.1 - 1)) x161.2 m1_0 m1_1 m1_2 m1_3 m1_4 m1_5) (hrc t0 t1 t2 t3 (w64 (x161.1 + 1)) s0.2.1 (w64 (s0.2.2.1 - 1)) x161.2 m1_0 m1_1 m1_2 m1_3 m1_4 m1_5) fun x164 hx164 => ?_
          conv => arg 3; whnf
          exact Ze (ih _)
         ·conv => arg 3; whnf
          refine Zf (Za t0 t1 t2 t3 (w64 (x161.1 + 1)) s0.2.1 (w64 (s0.2.2.1 - 1)) x161.2 m1_0 m1_1 m1_2 m1_3 m1_4 m1_5) (hrc t0 t1 t2 t3 (w64 (x161.1 + 1)) s0.2.1 (w64 (s0.2.2.1 - 1)) x161.2 m1_0 m1_1 m1_2 m1_3 m1_4 m1_5) fun x165 hx165 => ?_
          conv => arg 3; whnf
          exact Ze (ih _)
       ·conv => arg 3; whnf
        refine Z1 rfl ?_
        conv => arg 3; whnf
        refine Z1 rfl ?_
        conv => arg 3; whnf
        refine Zc rfl ?_ ?_
        ·conv => arg 3; whnf
         refine Zc rfl ?_ ?_
         ·conv => arg 3; whnf
          refine Zf (Za t0 t1 t2 t3 s0.1 x161.1 (w64 (s0.2.2.1 - 1)) x161.2 m1_0 m1_1 m1_2 m1_3 m1_4 m1_5) (hrc t0 t1 t2 t3 s0.1 x161.1 (w64 (s0.2.2.1 - 1)) x161.2 m1_0 m1_1 m1_2 m1_3 m1_4 m1_5) fun x166 hx166 => ?_
          conv => arg 3; whnf
          exact Ze (ih _)
         ·conv => arg 3; whnf
          refine Zf (Za t0 t1 t2 t3 s0.1 x161.1 (w64 (s0.2.2.1 - 1)) x161.2 m1_0 m1_1 m1_2 m1_3 m1_4 m1_5) (hrc t0 t1 t2 t3 s0.1 x161.1 (w64 (s0.2.2.1 - 1)) x161.2 m1_0 m1_1 m1_2 m1_3 m1_4 m1_5) fun x167 hx167 => ?_
          conv => arg 3; whnf
          exact Ze (ih _)
        ·conv => arg 3; whnf
         refine Zc rfl ?_ ?_
         ·conv => arg 3; whnf
          refine Zf (Za t0 t1 t2 t3 (w64 (x161.1 + 1)) s0.2.1 (w64 (s0.2.2.1 - 1)) x161.2 m1_0 m1_1 m1_2 m1_3 m1_4 m1_5) (hrc t0 t1 t2 t3 (w64 (x161.1 + 1)) s0.2.1 (w64 (s0.2.2.1 - 1)) x161.2 m1_0 m1_1 m1_2 m1_3 m1_4 m1_5) fun x168 hx168 => ?_
          conv => arg 3; whnf
          exact Ze (ih _)
         ·conv => arg 3; whnf
          refine Zf (Za t0 t1 t2 t3 (w64 (x161.1 + 1)) s0.2.1 (w64 (s0.2.2.1 - 1)) x161.2 m1_0 m1_1 m1_2 m1_3 m1_4 m1_5) (hrc t0 t1 t2 t3 (w64 (x161.1 + 1)) s0.2.1 (w64 (s0.2.2.1 - 1)) x161.2 m1_0 m1_1 m1_2 m1_3 m1_4 m1_5) fun x169 hx169 => ?_
          conv => arg 3; whnf
          exact Ze (ih _)
 ·refine Zte ?_
  rcases hb : s0.2.2.2.2.1 with _ | _
  ·refine ZsS ?_
   conv => arg 3; whnf
   refine Zc rfl ?_ ?_
   ·conv => arg 3; whnf
    refine Zf _ Z5 fun x73 hx73 => ?_
    conv => arg 3; whnf
    exact Zb rfl
   ·conv => arg 3; whnf
    refine Zc rfl ?_ ?_
    ·conv => arg 3; whnf
     refine Zf _ Zao fun x74 hx74 => ?_
     conv => arg 3; whnf
     exact Zb rfl
    ·conv => arg 3; whnf
     refine Zf _ Zae fun x75 hx75 => ?_
     conv => arg 3; whnf
     refine Zc rfl ?_ ?_
     ·conv => arg 3; whnf
      refine Zf _ Zaa fun x76 hx76 => ?_
      conv => arg 3; whnf
      refine Zc rfl ?_ ?_
      ·conv => arg 3; whnf
       refine Zj rfl rfl fun x77 hx77 => ?_
       conv => arg 3; whnf
       refine Zg (Zv rfl hx77) ?_
       conv => arg 3; whnf
       refine Zj rfl rfl fun x78 hx78 => ?_
       conv => arg 3; whnf
       refine Zg (Zv rfl hx78) ?_
       conv => arg 3; whnf
       refine Zh _ ZB rfl fun x79 hx79 => ?_
       conv => arg 3; whnf
       refine Zc rfl ?_ ?_
       ·conv => arg 3; whnf
        refine Zf _ Zk fun x80 hx80 => ?_
        clear hx80
        rcases x80 with x80 | x80
        ·conv => arg 3; whnf
         refine Zbb rfl ?_
         conv => arg 3; whnf
         refine Z1 rfl ?_
         conv => arg 3; whnf
         refine Zc rfl ?_ ?_
         ·conv => arg 3; whnf
          refine Zc rfl ?_ ?_
          ·conv => arg 3; whnf
           refine Zf (Za t0 t1 t2 t3 s0.1 x80.1 s0.2.2.1 x80.2 m1_0 m1_1 m1_2 m1_3 m1_4 m1_5) (hrc t0 t1 t2 t3 s0.1 x80.1 s0.2.2.1 x80.2 m1_0 m1_1 m1_2 m1_3 m1_4 m1_5) fun x81 hx81 => ?_
           conv => arg 3; whnf
           exact Ze (ih _)
          ·conv => arg 3; whnf
           refine Zf (Za t0 t1 t2 t3 s0.1 x80.1 s0.2.2.1 x80.2 m1_0 m1_1 m1_2 m1_3 m1_4 m1_5) (hrc t0 t1 t2 t3 s0.1 x80.1 s0.2.2.1 x80.2 m1_0 m1_1 m1_2 m1_3 m1_4 m1_5) fun x82 hx82 => ?_
           conv => arg 3; whnf
           exact Ze (ih _)
         ·conv => arg 3; whnf
          refine Zc rfl ?_ ?_
          ·conv => arg 3; whnf
           refine Zf (Za t0 t1 t2 t3 (w64 (x80.1 + 1)) s0.2.1 s0.2.2.1 x80.2 m1_0 m1_1 m1_2 m1_3 m1_4 m1_5) (hrc t0 t1 t2 t3 (w64 (x80.1 + 1)) s0.2.1 s0.2.2.1 x80.2 m1_0 m1_1 m1_2 m1_3 m1_4 m1_5) fun x83 hx83 => ?_
           conv => arg 3; whnf
           exact Ze (ih _)
          ·conv => arg 3; whnf
           refine Zf (Za t0 t1 t2 t3 (w64 (x80.1 + 1)) s0.2.1 s0.2.2.1 x80.2 m1_0 m1_1 m1_2 m1_3 m1_4 m1_5) (hrc t0 t1 t2 t3 (w64 (x80.1 + 1)) s0.2.1 s0.2.2.1 x80.2 m1_0 m1_1 m1_2 m1_3 m1_4 m1_5) fun x84 hx84 => ?_
           conv => arg 3; whnf
           exact Ze (ih _)
        ·conv => arg 3; whnf
         refine Z1 rfl ?_
         conv => arg 3; whnf
         refine Z1 rfl ?_
         conv => arg 3; whnf
         refine Zc rfl ?_ ?_
         ·conv => arg 3; whnf
          refine Zc rfl ?_ ?_
          ·conv => arg 3; whnf
           refine Zf (Za t0 t1 t2 t3 s0.1 x80.1 s0.2.2.1 x80.2 m1_0 m1_1 m1_2 m1_3 m1_4 m1_5) (hrc t0 t1 t2 t3 s0.1 x80.1 s0.2.2.1 x80.2 m1_0 m1_1 m1_2 m1_3 m1_4 m1_5) fun x85 hx85 => ?_
           conv => arg 3; whnf
           exact Ze (ih _)
          ·conv => arg 3; whnf
           refine Zf (Za t0 t1 t2 t3 s0.1 x80.1 s0.2.2.1 x80.2 m1_0 m1_1 m1_2 m1_3 m1_4 m1_5) (hrc t0 t1 t2 t3 s0.1 x80.1 s0.2.2.1 x80.2 m1_0 m1_1 m1_2 m1_3 m1_4 m1_5) fun x86 hx86 => ?_
           conv => arg 3; whnf
           exact Ze (ih _)
         ·conv => arg 3; whnf
          refine Zc rfl ?_ ?_
          ·conv => arg 3; whnf
           refine Zf (Za t0 t1 t2 t3 (w64 (x80.1 + 1)) s0.2.1 s0.2.2.1 x80.2 m1_0 m1_1 m1_2 m1_3 m1_4 m1_5) (hrc t0 t1 t2 t3 (w64 (x80.1 + 1)) s0.2.1 s0.2.2.1 x80.2 m1_0 m1_1 m1_2 m1_3 m1_4 m1_5) fun x87 hx87 => ?_
           conv => arg 3; whnf
           exact Ze (ih _)
          ·conv => arg 3; whnf
           refine Zf (Za t0 t1 t2 t3 (w64 (x80.1 + 1)) s0.2.1 s0.2.2.1 x80.2 m1_0 m1_1 m1_2 m1_3 m1_4 m1_5) (hrc t0 t1 t2 t3 (w64 (x80.1 + 1)) s0.2.1 s0.2.2.1 x80.2 m1_0 m1_1 m1_2 m1_3 m1_4 m1_5) fun x88 hx88 => ?_
           conv => arg 3; whnf
           exact Ze (ih _)
       ·conv => arg 3; whnf
        refine Zf _ Zx fun x89 hx89 => ?_
        conv => arg 3; whnf
        exact Ze (ih _)
      ·conv => arg 3; whnf
       refine Zf _ Zk fun x90 hx90 => ?_
       clear hx90
       rcases x90 with x90 | x90
       ·conv => arg 3; whnf
        refine Zbb rfl ?_
        conv => arg 3; whnf
        refine Z1 rfl ?_
        conv => arg 3; whnf
        refine Zc rfl ?_ ?_
        ·conv => arg 3; whnf
         refine Zc rfl ?_ ?_
         ·conv => arg 3; whnf
          refine Zf (Za t0 t1 t2 t3 s0.1 x90.1 s0.2.2.1 x90.2 m1_0 m1_1 m1_2 m1_3 m1_4 m1_5) (hrc t0 t1 t2 t3 s0.1 x90.1 s0.2.2.1 x90.2 m1_0 m1_1 m1_2 m1_3 m1_4 m1_5) fun x91 hx91 => ?_
          conv => arg 3; whnf
          exact Ze (ih _)
         ·conv => arg 3; whnf
          refine Zf (Za t0 t1 t2 t3 s0.1 x90.1 s0.2.2.1 x90.2 m1_0 m1_1 m1_2 m1_3 m1_4 m1_5) (hrc t0 t1 t2 t3 s0.1 x90.1 s0.2.2.1 x90.2 m1_0 m1_1 m1_2 m1_3 m1_4 m1_5) fun x92 hx92 => ?_
          conv => arg 3; whnf
          exact Ze (ih _)
        ·conv => arg 3; whnf
         refine Zc rfl ?_ ?_
         ·conv => arg 3; whnf
          refine Zf (Za t0 t1 t2 t3 (w64 (x90.1 + 1)) s0.2.1 s0.2.2.1 x90.2 m1_0 m1_1 m1_2 m1_3 m1_4 m1_5) (hrc t0 t1 t2 t3 (w64 (x90.1 + 1)) s0.2.1 s0.2.2.1 x90.2 m1_0 m1_1 m1_2 m1_3 m1_4 m1_5) fun x93 hx93 => ?_
          conv => arg 3; whnf
          exact Ze (ih _)
         ·conv => arg 3; whnf
          refine Zf (Za t0 t1 t2 t3 (w64 (x90.1 + 1)) s0.2.1 s0.2.2.1 x90.2 m1_0 m1_1 m1_2 m1_3 m1_4 m1_5) (hrc t0 t1 t2 t3 (w64 (x90.1 + 1)) s0.2.1 s0.2.2.1 x90.2 m1_0 m1_1 m1_2 m1_3 m1_4 m1_5) fun x94 hx94 => ?_
          conv => arg 3; whnf
          exact Ze (ih _)
       ·conv => arg 3; whnf
        refine Z1 rfl ?_
        conv => arg 3; whnf
        refine Z1 rfl ?_
        conv => arg 3; whnf
        refine Zc rfl ?_ ?_
        ·conv => arg 3; whnf
         refine Zc rfl ?_ ?_
         ·conv => arg 3; whnf
          refine Zf (Za t0 t1 t2 t3 s0.1 x90.1 s0.2.2.1 x90.2 m1_0 m1_1 m1_2 m1_3 m1_4 m1_5) (hrc t0 t1 t2 t3 s0.1 x90.1 s0.2.2.1 x90.2 m1_0 m1_1 m1_2 m1_3 m1_4 m1_5) fun x95 hx95 => ?_
          conv => arg 3; whnf
          exact Ze (ih _)
         ·conv => arg 3; whnf
          refine Zf (Za t0 t1 t2 t3 s0.1 x90.1 s0.2.2.1 x90.2 m1_0 m1_1 m1_2 m1_3 m1_4 m1_5) (hrc t0 t1 t2 t3 s0.1 x90.1 s0.2.2.1 x90.2 m1_0 m1_1 m1_2 m1_3 m1_4 m1_5) fun x96 hx96 => ?_
          conv => arg 3; whnf
          exact Ze (ih _)
        ·conv => arg 3; whnf
         refine Zc rfl ?_ ?_
         ·conv => arg 3; whnf
          refine Zf (Za t0 t1 t2 t3 (w64 (x90.1 + 1)) s0.2.1 s0.2.2.1 x90.2 m1_0 m1_1 m1_2 m1_3 m1_4 m1_5) (hrc t0 t1 t2 t3 (w64 (x90.1 + 1)) s0.2.1 s0.2.2.1 x90.2 m1_0 m1_1 m1_2 m1_3 m1_4 m1_5) fun x97 hx97 => ?_
          conv => arg 3; whnf
          exact Ze (ih _)
         ·conv => arg 3; whnf
          refine Zf (Za t0 t1 t2 t3 (w64 (x90.1 + 1)) s0.2.1 s0.2.2.1 x90.2 m1_0 m1_1 m1_2 m1_3 m1_4 m1_5) (hrc t0 t1 t2 t3 (w64 (x90.1 + 1)) s0.2.1 s0.2.2.1 x90.2 m1_0 m1_1 m1_2 m1_3 m1_4 m1_5) fun x98 hx98 => ?_
          conv => arg 3; whnf
          exact Ze (ih _)
     ·conv => arg 3; whnf
      refine Zc rfl ?_ ?_
      ·conv => arg 3; whnf
       refine Zj rfl rfl fun x99 hx99 => ?_
       conv => arg 3; whnf
       refine Zg (Zv rfl hx99) ?_
       conv => arg 3; whnf
       refine Zj rfl rfl fun x100 hx100 => ?_
       conv => arg 3; whnf
       refine Zg (Zv rfl hx100) ?_
       conv => arg 3; whnf
       refine Zh _ ZB rfl fun x101 hx101 => ?_
       conv => arg 3; whnf
       refine Zc rfl ?_ ?_
       ·conv => arg 3; whnf
        refine Zf _ Zk fun x102 hx102 => ?_
        clear hx102
        rcases x102 with x102 | x102
        ·conv => arg 3; whnf
         refine Zbb rfl ?_
         conv => arg 3; whnf
         refine Z1 rfl ?_
         conv => arg 3; whnf
         refine Zc rfl ?_ ?_
         ·conv => arg 3; whnf
          refine Zc rfl ?_ ?_
          ·conv => arg 3; whnf
           refine Zf (Za t0 t1 t2 t3 s0.1 x102.1 s0.2.2.1 x102.2 m1_0 m1_1 m1_2 m1_3 m1_4 m1_5) (hrc t0 t1 t2 t3 s0.1 x102.1 s0.2.2.1 x102.2 m1_0 m1_1 m1_2 m1_3 m1_4 m1_5) fun x103 hx103 => ?_
           conv => arg 3; whnf
           exact Ze (ih _)
          ·conv => arg 3; whnf
           refine Zf (Za t0 t1 t2 t3 s0.1 x102.1 s0.2.2.1 x102.2 m1_0 m1_1 m1_2 m1_3 m1_4 m1_5) (hrc t0 t1 t2 t3 s0.1 x102.1 s0.2.2.1 x102.2 m1_0 m1_1 m1_2 m1_3 m1_4 m1_5) fun x104 hx104 => ?_
           conv => arg 3; whnf
           exact Ze (ih _)
         ·conv => arg 3; whnf
          refine Zc rfl ?_ ?_
          ·conv => arg 3; whnf
           refine Zf (Za t0 t1 t2 t3 (w64 (x102.1 + 1)) s0.2.1 s0.2.2.1 x102.2 m1_0 m1_1 m1_2 m1_3 m1_4 m1_5) (hrc t0 t1 t2 t3 (w64 (x102.1 + 1)) s0.2.1 s0.2.2.1 x102.2 m1_0 m1_1 m1_2 m1_3 m1_4 m1_5) fun x105 hx105 => ?_
           conv => arg 3; whnf
           exact Ze (ih _)
          ·conv => arg 3; whnf
           refine Zf (Za t0 t1 t2 t3 (w64 (x102.1 + 1)) s0.2.1 s0.2.2.1 x102.2 m1_0 m1_1 m1_2 m1_3 m1_4 m1_5) (hrc t0 t1 t2 t3 (w64 (x102.1 + 1)) s0.2.1 s0.2.2.1 x102.2 m1_0 m1_1 m1_2 m1_3 m1_4 m1_5) fun x106 hx106 => ?_
           conv => arg 3; whnf
           exact Ze (ih _)
        ·conv => arg 3; whnf
         refine Z1 rfl ?_
         conv => arg 3; whnf
         refine Z1 rfl ?_
         conv => arg 3; whnf
         refine Zc rfl ?_ ?_
         ·conv => arg 3; whnf
          refine Zc rfl ?_ ?_
          ·conv => arg 3; whnf
           refine Zf (Za t0 t1 t2 t3 s0.1 x102.1 s0.2.2.1 x102.2 m1_0 m1_1 m1_2 m1_3 m1_4 m1_5) (hrc t0 t1 t2 t3 s0.1 x102.1 s0.2.2.1 x102.2 m1_0 m1_1 m1_2 m1_3 m1_4 m1_5) fun x107 hx107 => ?_
           conv => arg 3; whnf
           exact Ze (ih _)
          ·conv => arg 3; whnf
           refine Zf (Za t0 t1 t2 t3 s0.1 x102.1 s0.2.2.1 x102.2 m1_0 m1_1 m1_2 m1_3 m1_4 m1_5) (hrc t0 t1 t2 t3 s0.1 x102.1 s0.2.2.1 x102.2 m1_0 m1_1 m1_2 m1_3 m1_4 m1_5) fun x108 hx108 => ?_
           conv => arg 3; whnf
           exact Ze (ih _)
         ·conv => arg 3; whnf
          refine Zc rfl ?_ ?_
          ·conv => arg 3; whnf
           refine Zf (Za t0 t1 t2 t3 (w64 (x102.1 + 1)) s0.2.1 s0.2.2.1 x102.2 m1_0 m1_1 m1_2 m1_3 m1_4 m1_5) (hrc t0 t1 t2 t3 (w64 (x102.1 + 1)) s0.2.1 s0.2.2.1 x102.2 m1_0 m1_1 m1_2 m1_3 m1_4 m1_5) fun x109 hx109 => ?_
           conv => arg 3; whnf
           exact Ze (ih _)
          ·conv => arg 3; whnf
           refine Zf (Za t0 t1 t2 t3 (w64 (x102.1 + 1)) s0.2.1 s0.2.2.1 x102.2 m1_0 m1_1 m1_2 m1_3 m1_4 m1_5) (hrc t0 t1 t2 t3 (w64 (x102.1 + 1)) s0.2.1 s0.2.2.1 x102.2 m1_0 m1_1 m1_2 m1_3 m1_4 m1_5) fun x110 hx110 => ?_
           conv => arg 3; whnf
           exact Ze (ih _)
       ·conv => arg 3; whnf
        refine Zf _ Zx fun x111 hx111 => ?_
        conv => arg 3; whnf
        exact Ze (ih _)
      ·conv => arg 3; whnf
       refine Zf _ Zk fun x112 hx112 => ?_
       clear hx112
       rcases x112 with x112 | x112
       ·conv => arg 3; whnf
        refine Zbb rfl ?_
        conv => arg 3; whnf
        refine Z1 rfl ?_
        conv => arg 3; whnf
        refine Zc rfl ?_ ?_
        ·conv => arg 3; whnf
         refine Zc rfl ?_ ?_
         ·conv => arg 3; whnf
          refine Zf (Za t0 t1 t2 t3 s0.1 x112.1 s0.2.2.1 x112.2 m1_0 m1_1 m1_2 m1_3 m1_4 m1_5) (hrc t0 t1 t2 t3 s0.1 x112.1 s0.2.2.1 x112.2 m1_0 m1_1 m1_2 m1_3 m1_4 m1_5) fun x113 hx113 => ?_
          conv => arg 3; whnf
          exact Ze (ih _)
         ·conv => arg 3; whnf
          refine Zf (Za t0 t1 t2 t3 s0.1 x112.1 s0.2.2.1 x112.2 m1_0 m1_1 m1_2 m1_3 m1_4 m1_5) (hrc t0 t1 t2 t3 s0.1 x112.1 s0.2.2.1 x112.2 m1_0 m1_1 m1_2 m1_3 m1_4 m1_5) fun x114 hx114 => ?_
          conv => arg 3; whnf
          exact Ze (ih _)
        ·conv => arg 3; whnf
         refine Zc rfl ?_ ?_
         ·conv => arg 3; whnf
          refine Zf (Za t0 t1 t2 t3 (w64 (x112.1 + 1)) s0.2.1 s0.2.2.1 x112.2 m1_0 m1_1 m1_2 m1_3 m1_4 m1_5) (hrc t0 t1 t2 t3 (w64 (x112.1 + 1)) s0.2.1 s0.2.2.1 x112.2 m1_0 m1_1 m1_2 m1_3 m1_4 m1_5) fun x115 hx115 => ?_
          conv => arg 3; whnf
          exact Ze (ih _)
         ·conv => arg 3; whnf
          refine Zf (Za t0 t1 t2 t3 (w64 (x112.1 + 1)) s0.2.1 s0.2.2.1 x112.2 m1_0 m1_1 m1_2 m1_3 m1_4 m1_5) (hrc t0 t1 t2 t3 (w64 (x112.1 + 1)) s0.2.1 s0.2.2.1 x112.2 m1_0 m1_1 m1_2 m1_3 m1_4 m1_5) fun x116 hx116 => ?_
          conv => arg 3; whnf
          exact Ze (ih _)
       ·conv => arg 3; whnf
        refine Z1 rfl ?_
        conv => arg 3; whnf
        refine Z1 rfl ?_
        conv => arg 3; whnf
        refine Zc rfl ?_ ?_
        ·conv => arg 3; whnf
         refine Zc rfl ?_ ?_
         ·conv => arg 3; whnf
          refine Zf (Za t0 t1 t2 t3 s0.1 x112.1 s0.2.2.1 x112.2 m1_0 m1_1 m1_2 m1_3 m1_4 m1_5) (hrc t0 t1 t2 t3 s0.1 x112.1 s0.2.2.1 x112.2 m1_0 m1_1 m1_2 m1_3 m1_4 m1_5) fun x117 hx117 => ?_
          conv => arg 3; whnf
          exact Ze (ih _)
         ·conv => arg 3; whnf
          refine Zf (Za t0 t1 t2 t3 s0.1 x112.1 s0.2.2.1 x112.2 m1_0 m1_1 m1_2 m1_3 m1_4 m1_5) (hrc t0 t1 t2 t3 s0.1 x112.1 s0.2.2.1 x112.2 m1_0 m1_1 m1_2 m1_3 m1_4 m1_5) fun x118 hx118 => ?_
          conv => arg 3; whnf
          exact Ze (ih _)
        ·conv => arg 3; whnf
         refine Zc rfl ?_ ?_
         ·conv => arg 3; whnf
          refine Zf (Za t0 t1 t2 t3 (w64 (x112.1 + 1)) s0.2.1 s0.2.2.1 x112.2 m1_0 m1_1 m1_2 m1_3 m1_4 m1_5) (hrc t0 t1 t2 t3 (w64 (x112.1 + 1)) s0.2.1 s0.2.2.1 x112.2 m1_0 m1_1 m1_2 m1_3 m1_4 m1_5) fun x119 hx119 => ?_
          conv => arg 3; whnf
          exact Ze (ih _)
         ·conv => arg 3; whnf
          refine Zf (Za t0 t1 t2 t3 (w64 (x112.1 + 1)) s0.2.1 s0.2.2.1 x112.2 m1_0 m1_1 m1_2 m1_3 m1_4 m1_5) (hrc t0 t1 t2 t3 (w64 (x112.1 + 1)) s0.2.1 s0.2.2.1 x112.2 m1_0 m1_1 m1_2 m1_3 m1_4 m1_5) fun x120 hx120 => ?_
          conv => arg 3; whnf
          exact Ze (ih _)
  ·refine Zte ?_
   conv => arg 3; whnf
   refine Zc rfl ?_ ?_
   ·conv => arg 3; whnf
    refine Zf _ Z5 fun x1 hx1 => ?_
    conv => arg 3; whnf
    exact Zb rfl
   ·conv => arg 3; whnf
    refine Zc rfl ?_ ?_
    ·conv => arg 3; whnf
     refine Zf _ Zao fun x2 hx2 => ?_
     conv => arg 3; whnf
     exact Zb rfl
    ·conv => arg 3; whnf
     refine Zf _ Zae fun x3 hx3 => ?_
     conv => arg 3; whnf
     refine Zc rfl ?_ ?_
     ·conv => arg 3; whnf
      refine Zf _ Zaa fun x4 hx4 => ?_
      conv => arg 3; whnf
      refine Zbb rfl ?_
      conv => arg 3; whnf
      refine Zf _ Za4 fun x5 hx5 => ?_
      clear hx5
      rcases x5 with x5 | x5
      ·conv => arg 3; whnf
       exact Zb rfl
      ·conv => arg 3; whnf
       refine Zc rfl ?_ ?_
       ·conv => arg 3; whnf
        refine Zj rfl rfl fun x6 hx6 => ?_
        conv => arg 3; whnf
        refine Zg (Zv rfl hx6) ?_
        conv => arg 3; whnf
        refine Zj rfl rfl fun x7 hx7 => ?_
        conv => arg 3; whnf
        refine Zg (Zv rfl hx7) ?_
        conv => arg 3; whnf
        refine Zh _ ZB rfl fun x8 hx8 => ?_
        conv => arg 3; whnf
        refine Zc rfl ?_ ?_
        ·conv => arg 3; whnf
         refine Zf _ Zk fun x9 hx9 => ?_
         clear hx9
         rcases x9 with x9 | x9
         ·conv => arg 3; whnf
          refine Zbb rfl ?_
          conv => arg 3; whnf
          refine Z1 rfl ?_
          conv => arg 3; whnf
          refine Zc rfl ?_ ?_
          ·conv => arg 3; whnf
           refine Zc rfl ?_ ?_
           ·conv => arg 3; whnf
            refine Zf (Za t0 t1 t2 t3 s0.1 x9.1 s0.2.2.1 x9.2 m1_0 m1_1 m1_2 m1_3 m1_4 m1_5) (hrc t0 t1 t2 t3 s0.1 x9.1 s0.2.2.1 x9.2 m1_0 m1_1 m1_2 m1_3 m1_4 m1_5) fun x10 hx10 => ?_
            conv => arg 3; whnf
            exact Ze (ih _)
           ·conv => arg 3; whnf
            refine Zf (Za t0 t1 t2 t3 s0.1 x9.1 s0.2.2.1 x9.2 m1_0 m1_1 m1_2 m1_3 m1_4 m1_5) (hrc t0 t1 t2 t3 s0.1 x9.1 s0.2.2.1 x9.2 m1_0 m1_1 m1_2 m1_3 m1_4 m1_5) fun x11 hx11 => ?_
            conv => arg 3; whnf
            exact Ze (ih _)
          ·conv => arg 3; whnf
           refine Zc rfl ?_ ?_
           ·conv => arg 3; whnf
            refine Zf (Za t0 t1 t2 t3 (w64 (x9.1 + 1)) s0.2.1 s0.2.2.1 x9.2 m1_0 m1_1 m1_2 m1_3 m1_4 m1_5) (hrc t0 t1 t2 t3 (w64 (x9.1 + 1)) s0.2.1 s0.2.2.1 x9.2 m1_0 m1_1 m1_2 m1_3 m1_4 m1_5) fun x12 hx12 => ?_
            conv => arg 3; whnf
            exact Ze (ih _)
           ·conv => arg 3; whnf
            refine Zf (Za t0 t1 t2 t3 (w64 (x9.1 + 1)) s0.2.1 s0.2.2.1 x9.2 m1_0 m1_1 m1_2 m1_3 m1_4 m1_5) (hrc t0 t1 t2 t3 (w64 (x9.1 + 1)) s0.2.1 s0.2.2.1 x9.2 m1_0 m1_1 m1_2 m1_3 m1_4 m1_5) fun x13 hx13 => ?_
            conv => arg 3; whnf
            exact Ze (ih _)
         ·conv => arg 3; whnf
          refine Z1 rfl ?_
          conv => arg 3; whnf
          refine Z1 rfl ?_
          conv => arg 3; whnf
          refine Zc rfl ?_ ?_
          ·conv => arg 3; whnf
           refine Zc rfl ?_ ?_
           ·conv => arg 3; whnf
            refine Zf (Za t0 t1 t2 t3 s0.1 x9.1 s0.2.2.1 x9.2 m1_0 m1_1 m1_2 m1_3 m1_4 m1_5) (hrc t0 t1 t2 t3 s0.1 x9.1 s0.2.2.1 x9.2 m1_0 m1_1 m1_2 m1_3 m1_4 m1_5) fun x14 hx14 => ?_
            conv => arg 3; whnf
            exact Ze (ih _)
           ·conv => arg 3; whnf
            refine Zf (Za t0 t1 t2 t3 s0.1 x9.1 s0.2.2.1 x9.2 m1_0 m1_1 m1_2 m1_3 m1_4 m1_5) (hrc t0 t1 t2 t3 s0.1 x9.1 s0.2.2.1 x9.2 m1_0 m1_1 m1_2 m1_3 m1_4 m1_5) fun x15 hx15 => ?_
            conv => arg 3; whnf
            exact Ze (ih _)
          ·conv => arg 3; whnf
           refine Zc rfl ?_ ?_
           ·conv => arg 3; whnf
            refine Zf (Za t0 t1 t2 t3 (w64 (x9.1 + 1)) s0.2.1 s0.2.2.1 x9.2 m1_0 m1_1 m1_2 m1_3 m1_4 m1_5) (hrc t0 t1 t2 t3 (w64 (x9.1 + 1)) s0.2.1 s0.2.2.1 x9.2 m1_0 m1_1 m1_2 m1_3 m1_4 m1_5) fun x16 hx16 => ?_
            conv => arg 3; whnf
            exact Ze (ih _)
           ·conv => arg 3; whnf
            refine Zf (Za t0 t1 t2 t3 (w64 (x9.1 + 1)) s0.2.1 s0.2.2.1 x9.2 m1_0 m1_1 m1_2 m1_3 m1_4 m1_5) (hrc t0 t1 t2 t3 (w64 (x9.1 + 1)) s0.2.1 s0.2.2.1 x9.2 m1_0 m1_1 m1_2 m1_3 m1_4 m1_5) fun x17 hx17 => ?_
            conv => arg 3; whnf
            exact Ze (ih _)
        ·conv => arg 3; whnf
         refine Zf _ Zx fun x18 hx18 => ?_
         conv => arg 3; whnf
         exact Ze (ih _)
       ·conv => arg 3; whnf
        refine Zf _ Zk fun x19 hx19 => ?_
        clear hx19
        rcases x19 with x19 | x19
        ·conv => arg 3; whnf
         refine Zbb rfl ?_
         conv => arg 3; whnf
         refine Z1 rfl ?_
         conv => arg 3; whnf
         refine Zc rfl ?_ ?_
         ·conv => arg 3; whnf
          refine Zc rfl ?_ ?_
          ·conv => arg 3; whnf
           refine Zf (Za t0 t1 t2 t3 s0.1 x19.1 s0.2.2.1 x19.2 m1_0 m1_1 m1_2 m1_3 m1_4 m1_5) (hrc t0 t1 t2 t3 s0.1 x19.1 s0.2.2.1 x19.2 m1_0 m1_1 m1_2 m1_3 m1_4 m1_5) fun x20 hx20 => ?_
           conv => arg 3; whnf
           exact Ze (ih _)
          ·conv => arg 3; whnf
           refine Zf (Za t0 t1 t2 t3 s0.1 x19.1 s0.2.2.1 x19.2 m1_0 m1_1 m1_2 m1_3 m1_4 m1_5) (hrc t0 t1 t2 t3 s0.1 x19.1 s0.2.2.1 x19.2 m1_0 m1_1 m1_2 m1_3 m1_4 m1_5) fun x21 hx21 => ?_
           conv => arg 3; whnf
           exact Ze (ih _)
         ·conv => arg 3; whnf
          refine Zc rfl ?_ ?_
          ·conv => arg 3; whnf
           refine Zf (Za t0 t1 t2 t3 (w64 (x19.1 + 1)) s0.2.1 s0.2.2.1 x19.2 m1_0 m1_1 m1_2 m1_3 m1_4 m1_5) (hrc t0 t1 t2 t3 (w64 (x19.1 + 1)) s0.2.1 s0.2.2.1 x19.2 m1_0 m1_1 m1_2 m1_3 m1_4 m1_5) fun x22 hx22 => ?_
           conv => arg 3; whnf
           exact Ze (ih _)
          ·conv => arg 3; whnf
           refine Zf (Za t0 t1 t2 t3 (w64 (x19.1 + 1)) s0.2.1 s0.2.2.1 x19.2 m1_0 m1_1 m1_2 m1_3 m1_4 m1_5) (hrc t0 t1 t2 t3 (w64 (x19.1 + 1)) s0.2.1 s0.2.2.1 x19.2 m1_0 m1_1 m1_2 m1_3 m1_4 m1_5) fun x23 hx23 => ?_
           conv => arg 3; whnf
           exact Ze (ih _)
        ·conv => arg 3; whnf
         refine Z1 rfl ?_
         conv => arg 3; whnf
         refine Z1 rfl ?_
         conv => arg 3; whnf
         refine Zc rfl ?_ ?_
         ·conv => arg 3; whnf
          refine Zc rfl ?_ ?_
          ·conv => arg 3; whnf
           refine Zf (Za t0 t1 t2 t3 s0.1 x19.1 s0.2.2.1 x19.2 m1_0 m1_1 m1_2 m1_3 m1_4 m1_5) (hrc t0 t1 t2 t3 s0.1 x19.1 s0.2.2.1 x19.2 m1_0 m1_1 m1_2 m1_3 m1_4 m1_5) fun x24 hx24 => ?_
           conv => arg 3; whnf
           exact Ze (ih _)
          ·conv => arg 3; whnf
           refine Zf (Za t0 t1 t2 t3 s0.1 x19.1 s0.2.2.1 x19.2 m1_0 m1_1 m1_2 m1_3 m1_4 m1_5) (hrc t0 t1 t2 t3 s0.1 x19.1 s0.2.2.1 x19.2 m1_0 m1_1 m1_2 m1_3 m1_4 m1_5) fun x25 hx25 => ?_
           conv => arg 3; whnf
           exact Ze (ih _)
         ·conv => arg 3; whnf
          refine Zc rfl ?_ ?_
          ·conv => arg 3; whnf
           refine Zf (Za t0 t1 t2 t3 (w64 (x19.1 + 1)) s0.2.1 s0.2.2.1 x19.2 m1_0 m1_1 m1_2 m1_3 m1_4 m1_5) (hrc t0 t1 t2 t3 (w64 (x19.1 + 1)) s0.2.1 s0.2.2.1 x19.2 m1_0 m1_1 m1_2 m1_3 m1_4 m1_5) fun x26 hx26 => ?_
           conv => arg 3; whnf
           exact Ze (ih _)
          ·conv => arg 3; whnf
           refine Zf (Za t0 t1 t2 t3 (w64 (x19.1 + 1)) s0.2.1 s0.2.2.1 x19.2 m1_0 m1_1 m1_2 m1_3 m1_4 m1_5) (hrc t0 t1 t2 t3 (w64 (x19.1 + 1)) s0.2.1 s0.2.2.1 x19.2 m1_0 m1_1 m1_2 m1_3 m1_4 m1_5) fun x27 hx27 => ?_
           conv => arg 3; whnf
           exact Ze (ih _)
     ·conv => arg 3; whnf
      refine Zc rfl ?_ ?_
      ·conv => arg 3; whnf
       refine Zf _ Za4 fun x28 hx28 => ?_
       clear hx28
       rcases x28 with x28 | x28
       ·conv => arg 3; whnf
        exact Zb rfl
       ·conv => arg 3; whnf
        refine Zc rfl ?_ ?_
        ·conv => arg 3; whnf
         refine Zj rfl rfl fun x29 hx29 => ?_
         conv => arg 3; whnf
         refine Zg (Zv rfl hx29) ?_
         conv => arg 3; whnf
         refine Zj rfl rfl fun x30 hx30 => ?_
         conv => arg 3; whnf
         refine Zg (Zv rfl hx30) ?_
         conv => arg 3; whnf
         refine Zh _ ZB rfl fun x31 hx31 => ?_
         conv => arg 3; whnf
         refine Zc rfl ?_ ?_
         ·conv => arg 3; whnf
          refine Zf _ Zk fun x32 hx32 => ?_
          clear hx32
          rcases x32 with x32 | x32
          ·conv => arg 3; whnf
           refine Zbb rfl ?_
           conv => arg 3; whnf
           refine Z1 rfl ?_
           conv => arg 3; whnf
           refine Zc rfl ?_ ?_
           ·conv => arg 3; whnf
            refine Zc rfl ?_ ?_
            ·conv => arg 3; whnf
             refine Zf (Za t0 t1 t2 t3 s0.1 x32.1 s0.2.2.1 x32.2 m1_0 m1_1 m1_2 m1_3 m1_4 m1_5) (hrc t0 t1 t2 t3 s0.1 x32.1 s0.2.2.1 x32.2 m1_0 m1_1 m1_2 m1_3 m1_4 m1_5) fun x33 hx33 => ?_
             conv => arg 3; whnf
             exact Ze (ih _)
            ·conv => arg 3; whnf
             refine Zf (Za t0 t1 t2 t3 s0.1 x32.1 s0.2.2.1 x32.2 m1_0 m1_1 m1_2 m1_3 m1_4 m1_5) (hrc t0 t1 t2 t3 s0.1 x32.1 s0.2.2.1 x32.2 m1_0 m1_1 m1_2 m1_3 m1_4 m1_5) fun x34 hx34 => ?_
             conv => arg 3; whnf
             exact Ze (ih _)
           ·conv => arg 3; whnf
            refine Zc rfl ?_ ?_
            ·conv => arg 3; whnf
             refine Zf (Za t0 t1 t2 t3 (w64 (x32.1 + 1)) s0.2.1 s0.2.2.1 x32.2 m1_0 m1_1 m1_2 m1_3 m1_4 m1_5) (hrc t0 t1 t2 t3 (w64 (x32.1 + 1)) s0.2.1 s0.2.2.1 x32.2 m1_0 m1_1 m1_2 m1_3 m1_4 m1_5) fun x35 hx35 => ?_
             conv => arg 3; whnf
             exact Ze (ih _)
            ·conv => arg 3; whnf
             refine Zf (Za t0 t1 t2 t3 (w64 (x32.1 + 1)) s0.2.1 s0.2.2.1 x32.2 m1_0 m1_1 m1_2 m1_3 m1_4 m1_5) (hrc t0 t1 t2 t3 (w64 (x32.1 + 1)) s0.2.1 s0.2.2.1 x32.2 m1_0 m1_1 m1_2 m1_3 m1_4 m1_5) fun x36 hx36 => ?_
             conv => arg 3; whnf
             exact Ze (ih _)
          ·conv => arg 3; whnf
           refine Z1 rfl ?_
           conv => arg 3; whnf
           refine Z1 rfl ?_
           conv => arg 3; whnf
           refine Zc rfl ?_ ?_
           ·conv => arg 3; whnf
            refine Zc rfl ?_ ?_
            ·conv => arg 3; whnf
             refine Zf (Za t0 t1 t2 t3 s0.1 x32.1 s0.2.2.1 x32.2 m1_0 m1_1 m1_2 m1_3 m1_4 m1_5) (hrc t0 t1 t2 t3 s0.1 x32.1 s0.2.2.1 x32.2 m1_0 m1_1 m1_2 m1_3 m1_4 m1_5) fun x37 hx37 => ?_
             conv => arg 3; whnf
             exact Ze (ih _)
            ·conv => arg 3; whnf
             refine Zf (Za t0 t1 t2 t3 s0.1 x32.1 s0.2.2.1 x32.2 m1_0 m1_1 m1_2 m1_3 m1_4 m1_5) (hrc t0 t1 t2 t3 s0.1 x32.1 s0.2.2.1 x32.2 m1_0 m1_1 m1_2 m1_3 m1_4 m1_5) fun x38 hx38 => ?_
             conv => arg 3; whnf
             exact Ze (ih _)
           ·conv => arg 3; whnf
            refine Zc rfl ?_ ?_
            ·conv => arg 3; whnf
             refine Zf (Za t0 t1 t2 t3 (w64 (x32.1 + 1)) s0.2.1 s0.2.2.1 x32.2 m1_0 m1_1 m1_2 m1_3 m1_4 m1_5) (hrc t0 t1 t2 t3 (w64 (x32.1 + 1)) s0.2.1 s0.2.2.1 x32.2 m1_0 m1_1 m1_2 m1_3 m1_4 m1_5) fun x39 hx39 => ?_
             conv => arg 3; whnf
             exact Ze (ih _)
            ·conv => arg 3; whnf
             refine Zf (Za t0 t1 t2 t3 (w64 (x32.1 + 1)) s0.2.1 s0.2.2.1 x32.2 m1_0 m1_1 m1_2 m1_3 m1_4 m1_5) (hrc t0 t1 t2 t3 (w64 (x32.1 + 1)) s0.2.1 s0.2.2.1 x32.2 m1_0 m1_1 m1_2 m1_3 m1_4 m1_5) fun x40 hx40 => ?_
             conv => arg 3; whnf
             exact Ze (ih _)
         ·conv => arg 3; whnf
          refine Zf _ Zx fun x41 hx41 => ?_
          conv => arg 3; whnf
          exact Ze (ih _)
        ·conv => arg 3; whnf
         refine Zf _ Zk fun x42 hx42 => ?_
         clear hx42
         rcases x42 with x42 | x42
         ·conv => arg 3; whnf
          refine Zbb rfl ?_
          conv => arg 3; whnf
          refine Z1 rfl ?_
          conv => arg 3; whnf
          refine Zc rfl ?_ ?_
          ·conv => arg 3; whnf
           refine Zc rfl ?_ ?_
           ·conv => arg 3; whnf
            refine Zf (Za t0 t1 t2 t3 s0.1 x42.1 s0.2.2.1 x42.2 m1_0 m1_1 m1_2 m1_3 m1_4 m1_5) (hrc t0 t1 t2 t3 s0.1 x42.1 s0.2.2.1 x42.2 m1_0 m1_1 m1_2 m1_3 m1_4 m1_5) fun x43 hx43 => ?_
            conv => arg 3; whnf
            exact Ze (ih _)
           ·conv => arg 3; whnf
            refine Zf (Za t0 t1 t2 t3 s0.1 x42.1 s0.2.2.1 x42.2 m1_0 m1_1 m1_2 m1_3 m1_4 m1_5) (hrc t0 t1 t2 t3 s0.1 x42.1 s0.2.2.1 x42.2 m1_0 m1_1 m1_2 m1_3 m1_4 m1_5) fun x44 hx44 => ?_
            conv => arg 3; whnf
            exact Ze (ih _)
          ·conv => arg 3; whnf
           refine Zc rfl ?_ ?_
           ·conv => arg 3; whnf
            refine Zf (Za t0 t1 t2 t3 (w64 (x42.1 + 1)) s0.2.1 s0.2.2.1 x42.2 m1_0 m1_1 m1_2 m1_3 m1_4 m1_5) (hrc t0 t1 t2 t3 (w64 (x42.1 + 1)) s0.2.1 s0.2.2.1 x42.2 m1_0 m1_1 m1_2 m1_3 m1_4 m1_5) fun x45 hx45 => ?_
            conv => arg 3; whnf
            exact Ze (ih _)
           ·conv => arg 3; whnf
            refine Zf (Za t0 t1 t2 t3 (w64 (x42.1 + 1)) s0.2.1 s0.2.2.1 x42.2 m1_0 m1_1 m1_2 m1_3 m1_4 m1_5) (hrc t0 t1 t2 t3 (w64 (x42.1 + 1)) s0.2.1 s0.2.2.1 x42.2 m1_0 m1_1 m1_2 m1_3 m1_4 m1_5) fun x46 hx46 => ?_
            conv => arg 3; whnf
            exact Ze (ih _)
         ·conv => arg 3; whnf
          refine Z1 rfl ?_
          conv => arg 3; whnf
          refine Z1 rfl ?_
          conv => arg 3; whnf
          refine Zc rfl ?_ ?_
          ·conv => arg 3; whnf
           refine Zc rfl ?_ ?_
           ·conv => arg 3; whnf
            refine Zf (Za t0 t1 t2 t3 s0.1 x42.1 s0.2.2.1 x42.2 m1_0 m1_1 m1_2 m1_3 m1_4 m1_5) (hrc t0 t1 t2 t3 s0.1 x42.1 s0.2.2.1 x42.2 m1_0 m1_1 m1_2 m1_3 m1_4 m1_5) fun x47 hx47 => ?_
            conv => arg 3; whnf
            exact Ze (ih _)
           ·conv => arg 3; whnf
            refine Zf (Za t0 t1 t2 t3 s0.1 x42.1 s0.2.2.1 x42.2 m1_0 m1_1 m1_2 m1_3 m1_4 m1_5) (hrc t0 t1 t2 t3 s0.1 x42.1 s0.2.2.1 x42.2 m1_0 m1_1 m1_2 m1_3 m1_4 m1_5) fun x48 hx48 => ?_
            conv => arg 3; whnf
            exact Ze (ih _)
          ·conv => arg 3; whnf
           refine Zc rfl ?_ ?_
           ·conv => arg 3; whnf
            refine Zf (Za t0 t1 t2 t3 (w64 (x42.1 + 1)) s0.2.1 s0.2.2.1 x42.2 m1_0 m1_1 m1_2 m1_3 m1_4 m1_5) (hrc t0 t1 t2 t3 (w64 (x42.1 + 1)) s0.2.1 s0.2.2.1 x42.2 m1_0 m1_1 m1_2 m1_3 m1_4 m1_5) fun x49 hx49 => ?_
            conv => arg 3; whnf
            exact Ze (ih _)
           ·conv => arg 3; whnf
            refine Zf (Za t0 t1 t2 t3 (w64 (x42.1 + 1)) s0.2.1 s0.2.2.1 x42.2 m1_0 m1_1 m1_2 m1_3 m1_4 m1_5) (hrc t0 t1 t2 t3 (w64 (x42.1 + 1)) s0.2.1 s0.2.2.1 x42.2 m1_0 m1_1 m1_2 m1_3 m1_4 m1_5) fun x50 hx50 => ?_
            conv => arg 3; whnf
            exact Ze (ih _)
      ·conv => arg 3; whnf
       refine Zc rfl ?_ ?_
       ·conv => arg 3; whnf
        refine Zj rfl rfl fun x51 hx51 => ?_
        conv => arg 3; whnf
        refine Zg (Zv rfl hx51) ?_
        conv => arg 3; whnf
        refine Zj rfl rfl fun x52 hx52 => ?_
        conv => arg 3; whnf
        refine Zg (Zv rfl hx52) ?_
        conv => arg 3; whnf
        refine Zh _ ZB rfl fun x53 hx53 => ?_
        conv => arg 3; whnf
        refine Zc rfl ?_ ?_
        ·conv => arg 3; whnf
         refine Zf _ Zk fun x54 hx54 => ?_
         clear hx54
         rcases x54 with x54 | x54
         ·conv => arg 3; whnf
          refine Zbb rfl ?_
          conv => arg 3; whnf
          refine Z1 rfl ?_
          conv => arg 3; whnf
          refine Zc rfl ?_ ?_
          ·conv => arg 3; whnf
           refine Zc rfl ?_ ?_
           ·conv => arg 3; whnf
            refine Zf (Za t0 t1 t2 t3 s0.1 x54.1 s0.2.2.1 x54.2 m1_0 m1_1 m1_2 m1_3 m1_4 m1_5) (hrc t0 t1 t2 t3 s0.1 x54.1 s0.2.2.1 x54.2 m1_0 m1_1 m1_2 m1_3 m1_4 m1_5) fun x55 hx55 => ?_
            conv => arg 3; whnf
            exact Ze (ih _)
           ·conv => arg 3; whnf
            refine Zf (Za t0 t1 t2 t3 s0.1 x54.1 s0.2.2.1 x54.2 m1_0 m1_1 m1_2 m1_3 m1_4 m1_5) (hrc t0 t1 t2 t3 s0.1 x54.1 s0.2.2.1 x54.2 m1_0 m1_1 m1_2 m1_3 m1_4 m1_5) fun x56 hx56 => ?_
            conv => arg 3; whnf
            exact Ze (ih _)
          ·conv => arg 3; whnf
           refine Zc rfl ?_ ?_
           ·conv => arg 3; whnf
            refine Zf (Za t0 t1 t2 t3 (w64 (x54.1 + 1)) s0.2.1 s0.2.2.1 x54.2 m1_0 m1_1 m1_2 m1_3 m1_4 m1_5) (hrc t0 t1 t2 t3 (w64 (x54.1 + 1)) s0.2.1 s0.2.2.1 x54.2 m1_0 m1_1 m1_2 m1_3 m1_4 m1_5) fun x57 hx57 => ?_
            conv => arg 3; whnf
            exact Ze (ih _)
           ·conv => arg 3; whnf
            refine Zf (Za t0 t1 t2 t3 (w64 (x54.1 + 1)) s0.2.1 s0.2.2.1 x54.2 m1_0 m1_1 m1_2 m1_3 m1_4 m1_5) (hrc t0 t1 t2 t3 (w64 (x54.1 + 1)) s0.2.1 s0.2.2.1 x54.2 m1_0 m1_1 m1_2 m1_3 m1_4 m1_5) fun x58 hx58 => ?_
            conv => arg 3; whnf
            exact Ze (ih _)
         ·conv => arg 3; whnf
          refine Z1 rfl ?_
          conv => arg 3; whnf
          refine Z1 rfl ?_
          conv => arg 3; whnf
          refine Zc rfl ?_ ?_
          ·conv => arg 3; whnf
           refine Zc rfl ?_ ?_
           ·conv => arg 3; whnf
            refine Zf (Za t0 t1 t2 t3 s0.1 x54.1 s0.2.2.1 x54.2 m1_0 m1_1 m1_2 m1_3 m1_4 m1_5) (hrc t0 t1 t2 t3 s0.1 x54.1 s0.2.2.1 x54.2 m1_0 m1_1 m1_2 m1_3 m1_4 m1_5) fun x59 hx59 => ?_
            conv => arg 3; whnf
            exact Ze (ih _)
           ·conv => arg 3; whnf
            refine Zf (Za t0 t1 t2 t3 s0.1 x54.1 s0.2.2.1 x54.2 m1_0 m1_1 m1_2 m1_3 m1_4 m1_5) (hrc t0 t1 t2 t3 s0.1 x54.1 s0.2.2.1 x54.2 m1_0 m1_1 m1_2 m1_3 m1_4 m1_5) fun x60 hx60 => ?_
            conv => arg 3; whnf
            exact Ze (ih _)
          ·conv => arg 3; whnf
           refine Zc rfl ?_ ?_
           ·conv => arg 3; whnf
            refine Zf (Za t0 t1 t2 t3 (w64 (x54.1 + 1)) s0.2.1 s0.2.2.1 x54.2 m1_0 m1_1 m1_2 m1_3 m1_4 m1_5) (hrc t0 t1 t2 t3 (w64 (x54.1 + 1)) s0.2.1 s0.2.2.1 x54.2 m1_0 m1_1 m1_2 m1_3 m1_4 m1_5) fun x61 hx61 => ?_
            conv => arg 3; whnf
            exact Ze (ih _)
           ·conv => arg 3; whnf
            refine Zf (Za t0 t1 t2 t3 (w64 (x54.1 + 1)) s0.2.1 s0.2.2.1 x54.2 m1_0 m1_1 m1_2 m1_3 m1_4 m1_5) (hrc t0 t1 t2 t3 (w64 (x54.1 + 1)) s0.2.1 s0.2.2.1 x54.2 m1_0 m1_1 m1_2 m1_3 m1_4 m1_5) fun x62 hx62 => ?_
            conv => arg 3; whnf
            exact Ze (ih _)
        ·conv => arg 3; whnf
         refine Zf _ Zx fun x63 hx63 => ?_
         conv => arg 3; whnf
         exact Ze (ih _)
       ·conv => arg 3; whnf
        refine Zf _ Zk fun x64 hx64 => ?_
        clear hx64
        rcases x64 with x64 | x64
        ·conv => arg 3; whnf
         refine Zbb rfl ?_
         conv => arg 3; whnf
         refine Z1 rfl ?_
         conv => arg 3; whnf
         refine Zc rfl ?_ ?_
         ·conv => arg 3; whnf
          refine Zc rfl ?_ ?_
          ·conv => arg 3; whnf
           refine Zf (Za t0 t1 t2 t3 s0.1 x64.1 s0.2.2.1 x64.2 m1_0 m1_1 m1_2 m1_3 m1_4 m1_5) (hrc t0 t1 t2 t3 s0.1 x64.1 s0.2.2.1 x64.2 m1_0 m1_1 m1_2 m1_3 m1_4 m1_5) fun x65 hx65 => ?_
           conv => arg 3; whnf
           exact Ze (ih _)
          ·conv => arg 3; whnf
           refine Zf (Za t0 t1 t2 t3 s0.1 x64.1 s0.2.2.1 x64.2 m1_0 m1_1 m1_2 m1_3 m1_4 m1_5) (hrc t0 t1 t2 t3 s0.1 x64.1 s0.2.2.1 x64.2 m1_0 m1_1 m1_2 m1_3 m1_4 m1_5) fun x66 hx66 => ?_
           conv => arg 3; whnf
           exact Ze (ih _)
         ·conv => arg 3; whnf
          refine Zc rfl ?_ ?_
          ·conv => arg 3; whnf
           refine Zf (Za t0 t1 t2 t3 (w64 (x64.1 + 1)) s0.2.1 s0.2.2.1 x64.2 m1_0 m1_1 m1_2 m1_3 m1_4 m1_5) (hrc t0 t1 t2 t3 (w64 (x64.1 + 1)) s0.2.1 s0.2.2.1 x64.2 m1_0 m1_1 m1_2 m1_3 m1_4 m1_5) fun x67 hx67 => ?_
           conv => arg 3; whnf
           exact Ze (ih _)
          ·conv => arg 3; whnf
           refine Zf (Za t0 t1 t2 t3 (w64 (x64.1 + 1)) s0.2.1 s0.2.2.1 x64.2 m1_0 m1_1 m1_2 m1_3 m1_4 m1_5) (hrc t0 t1 t2 t3 (w64 (x64.1 + 1)) s0.2.1 s0.2.2.1 x64.2 m1_0 m1_1 m1_2 m1_3 m1_4 m1_5) fun x68 hx68 => ?_
           conv => arg 3; whnf
           exact Ze (ih _)
        ·conv => arg 3; whnf
         refine Z1 rfl ?_
         conv => arg 3; whnf
         refine Z1 rfl ?_
         conv => arg 3; whnf
         refine Zc rfl ?_ ?_
         ·conv => arg 3; whnf
          refine Zc rfl ?_ ?_
          ·conv => arg 3; whnf
           refine Zf (Za t0 t1 t2 t3 s0.1 x64.1 s0.2.2.1 x64.2 m1_0 m1_1 m1_2 m1_3 m1_4 m1_5) (hrc t0 t1 t2 t3 s0.1 x64.1 s0.2.2.1 x64.2 m1_0 m1_1 m1_2 m1_3 m1_4 m1_5) fun x69 hx69 => ?_
           conv => arg 3; whnf
           exact Ze (ih _)
          ·conv => arg 3; whnf
           refine Zf (Za t0 t1 t2 t3 s0.1 x64.1 s0.2.2.1 x64.2 m1_0 m1_1 m1_2 m1_3 m1_4 m1_5) (hrc t0 t1 t2 t3 s0.1 x64.1 s0.2.2.1 x64.2 m1_0 m1_1 m1_2 m1_3 m1_4 m1_5) fun x70 hx70 => ?_
           conv => arg 3; whnf
           exact Ze (ih _)
         ·conv => arg 3; whnf
          refine Zc rfl ?_ ?_
          ·conv => arg 3; whnf
           refine Zf (Za t0 t1 t2 t3 (w64 (x64.1 + 1)) s0.2.1 s0.2.2.1 x64.2 m1_0 m1_1 m1_2 m1_3 m1_4 m1_5) (hrc t0 t1 t2 t3 (w64 (x64.1 + 1)) s0.2.1 s0.2.2.1 x64.2 m1_0 m1_1 m1_2 m1_3 m1_4 m1_5) fun x71 hx71 => ?_
           conv => arg 3; whnf
           exact Ze (ih _)
          ·conv => arg 3; whnf
           refine Zf (Za t0 t1 t2 t3 (w64 (x64.1 + 1)) s0.2.1 s0.2.2.1 x64.2 m1_0 m1_1 m1_2 m1_3 m1_4 m1_5) (hrc t0 t1 t2 t3 (w64 (x64.1 + 1)) s0.2.1 s0.2.2.1 x64.2 m1_0 m1_1 m1_2 m1_3 m1_4 m1_5) fun x72 hx72 => ?_
           conv => arg 3; whnf
           exact Ze (ih _)
theorem ZdZ (rc : Int → Int → Int → (Int → Int → Option Int) → (List Int) → Option (List Int)) (hrc : ∀ (t0 : Bool) (t1 : Bool) (t2 : Bool) (t3 : Bool) (b : Int) (c : Int) (d : Int) (m0_0 : (List Int)) (m1_0 : Int) (m1_1 : Int) (m1_2 : (List ZF)) (m1_3 : (List ZK)) (m1_4 : (List Zp)) (m1_5 : (List Zo)) (r : (List Int)), rc b c d (fun z0 z1 => Zr z0 z1 m1_4) m0_0 = some r → evW ctx 124 [(.sl 0 1), (.d (Zd b)), (.d (Zd c)), (.d (Zd d)), (.fn 118 [(.ptr 1 0)])] [(.arr 1 (List.map Zd m0_0)), (.cells [(.d (Zd m1_0)), (.d (Zd m1_1)), (.d (D.list t0 (List.map ZW m1_2))), (.d (D.list t1 (List.map ZT m1_3))), (.d (D.list t2 (List.map Zw m1_4))), (.d (D.list t3 (List.map Zt m1_5)))])] = some ((Za t0 t1 t2 t3 b c d m0_0 m1_0 m1_1 m1_2 m1_3 m1_4 m1_5) r)) (t0 : Bool) (t1 : Bool) (t2 : Bool) (t3 : Bool) (b : Int) (c : Int) (d : Int) (m0_0 : (List Int)) (m1_0 : Int) (m1_1 : Int) (m1_2 : (List ZF)) (m1_3 : (List ZK)) (m1_4 : (List Zp)) (m1_5 : (List Zo)) : ∀ r, (Zaq rc b c d (fun z0 z1 => Zr z0 z1 m1_4) m0_0) = some r → evW ctx 124 [(.sl 0 1), (.d (Zd b)), (.d (Zd c)), (.d (Zd d)), (.fn 118 [(.ptr 1 0)])] [(.arr 1 (List.map Zd m0_0)), (.cells [(.d (Zd m1_0)), (.d (Zd m1_1)), (.d (D.list t0 (List.map ZW m1_2))), (.d (D.list t1 (List.map ZT m1_3))), (.d (D.list t2 (List.map Zw m1_4))), (.d (D.list t3 (List.map Zt m1_5)))])] = some ((Za t0 t1 t2 t3 b c d m0_0 m1_0 m1_1 m1_2 m1_3 m1_4 m1_5) r) := by
 show ZD _ (fun r rhs => rhs = some ((Za t0 t1 t2 t3 b c d m0_0 m1_0 m1_1 m1_2 m1_3 m1_4 m1_5) r)) _
 unfold Zaq
 rw [Zf1 ctx 124 Zws _ _ rfl rfl]
 conv => arg 3; whnf
 refine Zf _ (ZdV hrc _) fun r219 hr219 => ?_
 conv => arg 3; whnf
 exact Zb rfl
theorem ZbV : ∀ (n : Nat) (t0 : Bool) (t1 : Bool) (t2 : Bool) (t3 : Bool) (b : Int) (c : Int) (d : Int) (m0_0 : (List Int)) (m1_0 : Int) (m1_1 : Int) (m1_2 : (List ZF)) (m1_3 : (List ZK)) (m1_4 : (List Zp)) (m1_5 : (List Zo)) (r : (List Int)), ZV n b c d (fun z0 z1 => Zr z0 z1 m1_4) m0_0 = some r → evW ctx 124 [(.sl 0 1), (.d (Zd b)), (.d (Zd c)), (.d (Zd d)), (.fn 118 [(.ptr 1 0)])] [(.arr 1 (List.map Zd m0_0)), (.cells [(.d (Zd m1_0)), (.d (Zd m1_1)), (.d (D.list t0 (List.map ZW m1_2))), (.d (D.list t1 (List.map ZT m1_3))), (.d (D.list t2 (List.map Zw m1_4))), (.d (D.list t3 (List.map Zt m1_5)))])] = some ((Za t0 t1 t2 t3 b c d m0_0 m1_0 m1_1 m1_2 m1_3 m1_4 m1_5) r)
  | 0, t0, t1, t2, t3, b, c, d, m0_0, m1_0, m1_1, m1_2, m1_3, m1_4, m1_5, r, h => by cases h
  | n + 1, t0, t1, t2, t3, b, c, d, m0_0, m1_0, m1_1, m1_2, m1_3, m1_4, m1_5, r, h => ZdZ (ZV n) (ZbV n) t0 t1 t2 t3 b c d m0_0 m1_0 m1_1 m1_2 m1_3 m1_4 m1_5 r h
theorem Zek {t0 : Bool} {t1 : Bool} {t2 : Bool} {t3 : Bool} {b : Int} {c : Int} {d : Int} {m0_0 : (List Int)} {m1_0 : Int} {m1_1 : Int} {m1_2 : (List ZF)} {m1_3 : (List ZK)} {m1_4 : (List Zp)} {m1_5 : (List Zo)} : ∀ r, Zdo b c d (fun z0 z1 => Zr z0 z1 m1_4) m0_0 = some r → evW ctx 124 [(.sl 0 1), (.d (Zd b)), (.d (Zd c)), (.d (Zd d)), (.fn 118 [(.ptr 1 0)])] [(.arr 1 (List.map Zd m0_0)), (.cells [(.d (Zd m1_0)), (.d (Zd m1_1)), (.d (D.list t0 (List.map ZW m1_2))), (.d (D.list t1 (List.map ZT m1_3))), (.d (D.list t2 (List.map Zw m1_4))), (.d (D.list t3 (List.map Zt m1_5)))])] = some ((Za t0 t1 t2 t3 b c d m0_0 m1_0 m1_1 m1_2 m1_3 m1_4 m1_5) r) := fun r h => by
  obtain ⟨n, hn⟩ := Zyj h
  exact ZbV n t0 t1 t2 t3 b c d m0_0 m1_0 m1_1 m1_2 m1_3 m1_4 m1_5 r hn
def Zcc (t0 : Bool) (t1 : Bool) (t2 : Bool) (t3 : Bool) (m0_0 : (List Int)) (m1_0 : Int) (m1_1 : Int) (m1_2 : (List ZF)) (m1_3 : (List ZK)) (m1_4 : (List Zp)) (m1_5 : (List Zo)) : (List Int) → V × Zn
  | r => ((.d (D.tup [])), [(.arr 1 (List.map Zd r)), (.cells [(.d (Zd m1_0)), (.d (Zd m1_1)), (.d (D.list t0 (List.map ZW m1_2))), (.d (D.list t1 (List.map ZT m1_3))), (.d (D.list t2 (List.map Zw m1_4))), (.d (D.list t3 (List.map Zt m1_5)))])])
theorem Zei {t0 : Bool} {t1 : Bool} {t2 : Bool} {t3 : Bool} {m0_0 : (List Int)} {m1_0 : Int} {m1_1 : Int} {m1_2 : (List ZF)} {m1_3 : (List ZK)} {m1_4 : (List Zp)} {m1_5 : (List Zo)} : ∀ r, (ZaG (fun z0 z1 => Zr z0 z1 m1_4) m0_0) = some r → evW ctx 117 [(.sl 0 1), (.fn 118 [(.ptr 1 0)])] [(.arr 1 (List.map Zd m0_0)), (.cells [(.d (Zd m1_0)), (.d (Zd m1_1)), (.d (D.list t0 (List.map ZW m1_2))), (.d (D.list t1 (List.map ZT m1_3))), (.d (D.list t2 (List.map Zw m1_4))), (.d (D.list t3 (List.map Zt m1_5)))])] = some ((Zcc t0 t1 t2 t3 m0_0 m1_0 m1_1 m1_2 m1_3 m1_4 m1_5) r) := by
 show ZD _ (fun r rhs => rhs = some ((Zcc t0 t1 t2 t3 m0_0 m1_0 m1_1 m1_2 m1_3 m1_4 m1_5) r)) _
 unfold ZaG
 rw [Zf1 ctx 117 Zxk _ _ rfl rfl]
 conv => arg 3; whnf
 refine Zl (Zy _ _) ?_
 conv => arg 3; whnf
 refine Zh _ Zhs rfl fun x0 hx0 => ?_
 conv => arg 3; whnf
 refine Zf _ Zek fun x1 hx1 => ?_
 conv => arg 3; whnf
 exact Zb rfl
def ZiF (r : (List Int)) : D := (D.list true (List.map Zd r))
def Zg7 (t0 : Bool) (t1 : Bool) (t2 : Bool) (t3 : Bool) (a : Zi) (b : Int) : (List Int) → Ex × List V × Zn
  | r => (.exit 0, [(.ptr 0 0), (.sl 1 1)], [(.cells (dV t0 t1 t2 t3 a)), (.arr 1 (List.map Zd r))])
theorem Zkz {t0 : Bool} {t1 : Bool} {t2 : Bool} {t3 : Bool} {a : Zi} {b : Int} : ∀ (s1 : Int × (List Int)) (r : (List Int)), lp (Zc2 a b) s1 = some r → lpW ctx 0 [1, 2, 5, 12, 13, 14] [2, 5] ZtN [(.d (Zd b)), (.ptr 0 0), (.sl 1 1), (.d (D.list t2 (List.map Zw a.futures))), (.d (Zd (a.futures.length : Int))), (.d (Zd s1.1))] [(.cells (dV t0 t1 t2 t3 a)), (.arr 1 (List.map Zd s1.2))] = some ((Zg7 t0 t1 t2 t3 a b) r) := by
 refine Zaf (Zg7 t0 t1 t2 t3 a b) ?_
 intro s1 rcl ih
 show ZD _ _ (lpW _ _ _ _ _ _ _)
 unfold Zc2
 rw [Zag]
 conv => arg 3; whnf
 refine Zc rfl ?_ ?_
 ·conv => arg 3; whnf
  refine Zj rfl rfl fun x2 hx2 => ?_
  conv => arg 3; whnf
  refine Zc rfl ?_ ?_
  ·conv => arg 3; whnf
   refine Zbb rfl ?_
   conv => arg 3; whnf
   refine Zc (ZfO Zd s1.2 1) ?_ ?_
   ·conv => arg 3; whnf
    refine Zl (Zft Zd s1.2 [s1.1]) ?_
    conv => arg 3; whnf
    exact Ze (ih _)
   ·exact Z8
  ·conv => arg 3; whnf
   exact Ze (ih _)
 ·conv => arg 3; whnf
  exact Zb rfl
theorem Zm5 {t0 : Bool} {t1 : Bool} {t2 : Bool} {t3 : Bool} {a : Zi} {b : Int} : ∀ r, (Zfc a b) = some r → evD ctx 101 [(.d (D.agg (dA t0 t1 t2 t3 a))), (.d (Zd b))] = some (ZiF r) := by
 show ZD _ (fun r rhs => rhs = some (ZiF r)) _
 unfold Zfc
 rw [Zak ctx 101 Zv2 _ rfl rfl]
 conv => arg 3; whnf
 refine Zh _ Zg0 rfl fun x0 hx0 => ?_
 conv => arg 3; whnf
 refine Zc rfl ?_ ?_
 ·conv => arg 3; whnf
  exact Zb rfl
 ·conv => arg 3; whnf
  refine Zl (Zy _ _) ?_
  conv => arg 3; whnf
  refine Zf _ (Zkz _) fun r3 hr3 => ?_
  conv => arg 3; whnf
  refine Zf _ Zei fun x4 hx4 => ?_
  conv => arg 3; whnf
  exact Zb rfl
def Zkm (r : (List Int)) : D := (D.list true (List.map Zd r))
def ZhU (t0 : Bool) (t1 : Bool) (t2 : Bool) (t3 : Bool) (a : Zi) (b : Int) : (List Int) → Ex × List V × Zn
  | r => (.exit 0, [(.d (Zd b)), (.ptr 0 0), (.sl 1 1)], [(.cells (dV t0 t1 t2 t3 a)), (.arr 1 (List.map Zd r))])
theorem ZlR {t0 : Bool} {t1 : Bool} {t2 : Bool} {t3 : Bool} {a : Zi} {b : Int} : ∀ (s1 : Int × (List Int)) (r : (List Int)), lp (ZfK a b) s1 = some r → lpW ctx 0 [1, 2, 5, 14, 15, 16] [1, 2, 5] Zvv [(.d (Zd b)), (.ptr 0 0), (.sl 1 1), (.d (D.list t1 (List.map ZT a.edges))), (.d (Zd (a.edges.length : Int))), (.d (Zd s1.1))] [(.cells (dV t0 t1 t2 t3 a)), (.arr 1 (List.map Zd s1.2))] = some ((ZhU t0 t1 t2 t3 a b) r) := by
 refine Zaf (ZhU t0 t1 t2 t3 a b) ?_
 intro s1 rcl ih
 show ZD _ _ (lpW _ _ _ _ _ _ _)
 unfold ZfK
 rw [Zag]
 conv => arg 3; whnf
 refine Zc rfl ?_ ?_
 ·conv => arg 3; whnf
  refine Zj rfl rfl fun x2 hx2 => ?_
  conv => arg 3; whnf
  refine Zc rfl ?_ ?_
  ·conv => arg 3; whnf
   refine Zbb rfl ?_
   conv => arg 3; whnf
   refine Zc (ZfO Zd s1.2 1) ?_ ?_
   ·conv => arg 3; whnf
    refine Zl (Zft Zd s1.2 [x2.src]) ?_
    conv => arg 3; whnf
    exact Ze (ih _)
   ·exact Z8
  ·conv => arg 3; whnf
   exact Ze (ih _)
 ·conv => arg 3; whnf
  exact Zb rfl
def Zie (t0 : Bool) (t1 : Bool) (t2 : Bool) (t3 : Bool) (a : Zi) (x4 : (List Int)) : (List Int) → Ex × List V × Zn
  | r => (.exit 2, [(.sl 0 1)], [(.arr 1 (List.map Zd r))])
theorem Zl3 {t0 : Bool} {t1 : Bool} {t2 : Bool} {t3 : Bool} {a : Zi} {x4 : (List Int)} : ∀ (s5 : Int × (List Int)) (r : (List Int)), lp (ZfL a x4) s5 = some r → lpW ctx 0 [2, 5, 32, 33, 34] [5] Zv6 [(.ptr 0 0), (.sl 1 1), (.d (D.list true (List.map Zd x4))), (.d (Zd (x4.length : Int))), (.d (Zd s5.1))] [(.cells (dV t0 t1 t2 t3 a)), (.arr 1 (List.map Zd s5.2))] = some ((Zie t0 t1 t2 t3 a x4) r) := by
 refine Zaf (Zie t0 t1 t2 t3 a x4) ?_
 intro s5 rcl ih
 show ZD _ _ (lpW _ _ _ _ _ _ _)
 unfold ZfL
 rw [Zag]
 conv => arg 3; whnf
 refine Zc rfl ?_ ?_
 ·conv => arg 3; whnf
  refine Zj rfl rfl fun x6 hx6 => ?_
  conv => arg 3; whnf
  refine Zj rfl rfl fun x7 hx7 => ?_
  conv => arg 3; whnf
  refine Zbb rfl ?_
  conv => arg 3; whnf
  refine Zc (ZfO Zd s5.2 1) ?_ ?_
  ·conv => arg 3; whnf
   refine Zl (Zft Zd s5.2 [x7.maker]) ?_
   conv => arg 3; whnf
   exact Ze (ih _)
  ·exact Z8
 ·conv => arg 3; whnf
  exact Zb rfl
theorem Zn3 {t0 : Bool} {t1 : Bool} {t2 : Bool} {t3 : Bool} {a : Zi} {b : Int} : ∀ r, (Zfu a b) = some r → evD ctx 76 [(.d (D.agg (dA t0 t1 t2 t3 a))), (.d (Zd b))] = some (Zkm r) := by
 show ZD _ (fun r rhs => rhs = some (Zkm r)) _
 unfold Zfu
 rw [Zak ctx 76 ZzO _ rfl rfl]
 conv => arg 3; whnf
 refine Zh _ Zg0 rfl fun x0 hx0 => ?_
 conv => arg 3; whnf
 refine Zc rfl ?_ ?_
 ·conv => arg 3; whnf
  exact Zb rfl
 ·conv => arg 3; whnf
  refine Zl (Zy _ _) ?_
  conv => arg 3; whnf
  refine Zf _ (ZlR _) fun r3 hr3 => ?_
  conv => arg 3; whnf
  refine Zh _ Zm5 rfl fun x4 hx4 => ?_
  conv => arg 3; whnf
  refine Zl (Zy _ _) ?_
  conv => arg 3; whnf
  refine Zf _ (Zl3 _) fun r8 hr8 => ?_
  conv => arg 3; whnf
  exact Zb rfl
def ZkV (r : Int) : D := (D.int .u32 r)
theorem Zd5 {a : Int} : ∀ r, (ZcN a) = some r → evD ctx 64 [(.d (Zd a))] = some (ZkV r) := by
 show ZD _ (fun r rhs => rhs = some (ZkV r)) _
 unfold ZcN
 rw [Zak ctx 64 ZzI _ rfl rfl]
 conv => arg 3; whnf
 exact Zb rfl
def Zlt : Unit → D
  | r => (D.agg [(D.int .u32 0), (D.fn 97 []), (D.int .u32 1), (D.fn 98 []), (D.int .u32 0), (D.fn 99 []), (D.int .u32 7), (D.fn 100 [])])
theorem Zou : ∀ r, Zh0 = some r → evD ctx 65 [] = some (Zlt r) := by
 show ZD _ (fun r rhs => rhs = some (Zlt r)) _
 unfold Zh0
 rw [Zak ctx 65 ZyW _ rfl rfl]
 conv => arg 3; whnf
 exact Zb rfl
def ZjK (r : Int) : D := (D.int .u32 r)
theorem Znz {a : Int} {b : Int} : ∀ r, (ZfC a b) = some r → evD ctx 97 [(.d (D.int .u32 a)), (.d (D.int .u32 b))] = some (ZjK r) := by
 show ZD _ (fun r rhs => rhs = some (ZjK r)) _
 unfold ZfC
 rw [Zak ctx 97 ZzR _ rfl rfl]
 conv => arg 3; whnf
 exact Zb rfl
def ZjT (r : Int) : D := (D.int .u32 r)
theorem Znp {a : Int} {b : Int} : ∀ r, (ZfJ a b) = some r → evD ctx 98 [(.d (D.int .u32 a)), (.d (D.int .u32 b))] = some (ZjT r) := by
 show ZD _ (fun r rhs => rhs = some (ZjT r)) _
 unfold ZfJ
 rw [Zak ctx 98 ZyR _ rfl rfl]
 conv => arg 3; whnf
 exact Zb rfl
def Zj0 (r : Int) : D := (D.int .u32 r)
theorem Zm9 {a : Int} {b : Int} : ∀ r, (ZfB a b) = some r → evD ctx 99 [(.d (D.int .u32 a)), (.d (D.int .u32 b))] = some (Zj0 r) := by
 show ZD _ (fun r rhs => rhs = some (Zj0 r)) _
 unfold ZfB
 rw [Zak ctx 99 ZyU _ rfl rfl]
 conv => arg 3; whnf
 exact Zb rfl
def ZjO (r : Int) : D := (D.int .u32 r)
theorem Znv {a : Int} {b : Int} : ∀ r, (ZfF a b) = some r → evD ctx 100 [(.d (D.int .u32 a)), (.d (D.int .u32 b))] = some (ZjO r) := by
 show ZD _ (fun r rhs => rhs = some (ZjO r)) _
 unfold ZfF
 rw [Zak ctx 100 ZvL _ rfl rfl]
 conv => arg 3; whnf
 exact Zb rfl
def ZnN (r : Int) : D := (Zd r)
def ZkL (t0 : Bool) (a : ZF) (b : (List Int)) : (List (Int × Int)) → Ex × List V × Zn
  | r => (.exit 1, [(.ptr 0 0), (.mp 1)], [(.cells [(.d (Zd a.op)), (.d (Zd a.arg)), (.d (Zd a.work))]), (.mp (mpD Zd Zd r))])
theorem Zn4 {t0 : Bool} {a : ZF} {b : (List Int)} : ∀ (s0 : Int × (List (Int × Int))) (r : (List (Int × Int))), lp (ZeL b) s0 = some r → lpW ctx 0 [3, 7, 19, 20, 21] [3, 7] ZvT [(.ptr 0 0), (.mp 1), (.d (D.list t0 (List.map Zd b))), (.d (Zd (b.length : Int))), (.d (Zd s0.1))] [(.cells [(.d (Zd a.op)), (.d (Zd a.arg)), (.d (Zd a.work))]), (.mp (mpD Zd Zd s0.2))] = some ((ZkL t0 a b) r) := by
 refine Zaf (ZkL t0 a b) ?_
 intro s0 rcl ih
 show ZD _ _ (lpW _ _ _ _ _ _ _)
 unfold ZeL
 rw [Zag]
 conv => arg 3; whnf
 refine Zc rfl ?_ ?_
 ·conv => arg 3; whnf
  refine Zj rfl rfl fun x1 hx1 => ?_
  conv => arg 3; whnf
  refine Zg (ZvN (f := Zd) (g := Zd) (fun ka kb : Int => (ka == kb)) (fun _ _ => rfl) s0.2 s0.1 x1) ?_
  conv => arg 3; whnf
  exact Ze (ih _)
 ·conv => arg 3; whnf
  exact Zb rfl
def Zkg (t1 : Bool) (c : (List Int)) : Int → Ex × List V × Zn
  | r => (.exit 3, [(.d (D.int .u32 r))], [])
theorem Zn1 {t1 : Bool} {c : (List Int)} : ∀ (s6 : Int × Int) (r : Int), lp (ZeN c) s6 = some r → lpW ctx 0 [10, 11, 60, 61, 62] [11] Zpz [(.ptr 0 0), (.d (D.int .u32 s6.1)), (.d (D.list t1 (List.map Zd c))), (.d (Zd (c.length : Int))), (.d (Zd s6.2))] [(.cells [(.d (D.int .u32 0)), (.d (D.fn 97 []))])] = some ((Zkg t1 c) r) := by
 refine Zaf (Zkg t1 c) ?_
 intro s6 rcl ih
 show ZD _ _ (lpW _ _ _ _ _ _ _)
 unfold ZeN
 rw [Zag]
 conv => arg 3; whnf
 refine Zc rfl ?_ ?_
 ·conv => arg 3; whnf
  refine Zj rfl rfl fun x7 hx7 => ?_
  conv => arg 3; whnf
  refine Zh _ Zd5 rfl fun x8 hx8 => ?_
  conv => arg 3; whnf
  refine Zh _ Znz rfl fun x9 hx9 => ?_
  conv => arg 3; whnf
  exact Ze (ih _)
 ·conv => arg 3; whnf
  exact Zb rfl
def Zi7 (t1 : Bool) (c : (List Int)) : Int → Ex × List V × Zn
  | r => (.exit 3, [(.d (D.int .u32 r))], [])
theorem ZmS {t1 : Bool} {c : (List Int)} : ∀ (s11 : Int × Int) (r : Int), lp (ZdM c) s11 = some r → lpW ctx 0 [10, 11, 60, 61, 62] [11] Zpz [(.ptr 0 0), (.d (D.int .u32 s11.1)), (.d (D.list t1 (List.map Zd c))), (.d (Zd (c.length : Int))), (.d (Zd s11.2))] [(.cells [(.d (D.int .u32 1)), (.d (D.fn 98 []))])] = some ((Zi7 t1 c) r) := by
 refine Zaf (Zi7 t1 c) ?_
 intro s11 rcl ih
 show ZD _ _ (lpW _ _ _ _ _ _ _)
 unfold ZdM
 rw [Zag]
 conv => arg 3; whnf
 refine Zc rfl ?_ ?_
 ·conv => arg 3; whnf
  refine Zj rfl rfl fun x12 hx12 => ?_
  conv => arg 3; whnf
  refine Zh _ Zd5 rfl fun x13 hx13 => ?_
  conv => arg 3; whnf
  refine Zh _ Znp rfl fun x14 hx14 => ?_
  conv => arg 3; whnf
  exact Ze (ih _)
 ·conv => arg 3; whnf
  exact Zb rfl
def Zi1 (t1 : Bool) (c : (List Int)) : Int → Ex × List V × Zn
  | r => (.exit 3, [(.d (D.int .u32 r))], [])
theorem Zmk {t1 : Bool} {c : (List Int)} : ∀ (s16 : Int × Int) (r : Int), lp (ZdL c) s16 = some r → lpW ctx 0 [10, 11, 60, 61, 62] [11] Zpz [(.ptr 0 0), (.d (D.int .u32 s16.1)), (.d (D.list t1 (List.map Zd c))), (.d (Zd (c.length : Int))), (.d (Zd s16.2))] [(.cells [(.d (D.int .u32 0)), (.d (D.fn 99 []))])] = some ((Zi1 t1 c) r) := by
 refine Zaf (Zi1 t1 c) ?_
 intro s16 rcl ih
 show ZD _ _ (lpW _ _ _ _ _ _ _)
 unfold ZdL
 rw [Zag]
 conv => arg 3; whnf
 refine Zc rfl ?_ ?_
 ·conv => arg 3; whnf
  refine Zj rfl rfl fun x17 hx17 => ?_
  conv => arg 3; whnf
  refine Zh _ Zd5 rfl fun x18 hx18 => ?_
  conv => arg 3; whnf
  refine Zh _ Zm9 rfl fun x19 hx19 => ?_
  conv => arg 3; whnf
  exact Ze (ih _)
 ·conv => arg 3; whnf
  exact Zb rfl
def ZiV (t1 : Bool) (c : (List Int)) : Int → Ex × List V × Zn
  | r => (.exit 3, [(.d (D.int .u32 r))], [])
theorem Zmn {t1 : Bool} {c : (List Int)} : ∀ (s21 : Int × Int) (r : Int), lp (ZdK c) s21 = some r → lpW ctx 0 [10, 11, 60, 61, 62] [11] Zpz [(.ptr 0 0), (.d (D.int .u32 s21.1)), (.d (D.list t1 (List.map Zd c))), (.d (Zd (c.length : Int))), (.d (Zd s21.2))] [(.cells [(.d (D.int .u32 7)), (.d (D.fn 100 []))])] = some ((ZiV t1 c) r) := by
 refine Zaf (ZiV t1 c) ?_
 intro s21 rcl ih
 show ZD _ _ (lpW _ _ _ _ _ _ _)
 unfold ZdK
 rw [Zag]
 conv => arg 3; whnf
 refine Zc rfl ?_ ?_
 ·conv => arg 3; whnf
  refine Zj rfl rfl fun x22 hx22 => ?_
  conv => arg 3; whnf
  refine Zh _ Zd5 rfl fun x23 hx23 => ?_
  conv => arg 3; whnf
  refine Zh _ Znv rfl fun x24 hx24 => ?_
  conv => arg 3; whnf
  exact Ze (ih _)
 ·conv => arg 3; whnf
  exact Zb rfl
theorem ZqW {t0 : Bool} {t1 : Bool} {a : ZF} {b : (List Int)} {c : (List Int)} : ∀ r, (ZiS a b c) = some r → evD ctx 39 [(.d (D.agg [(Zd a.op), (Zd a.arg), (Zd a.work)])), (.d (D.list t0 (List.map Zd b))), (.d (D.list t1 (List.map Zd c)))] = some (ZnN r) := by
 show ZD _ (fun r rhs => rhs = some (ZnN r)) _
 unfold ZiS
 rw [Zak ctx 39 Zzw _ rfl rfl]
 conv => arg 3; whnf
 refine Zc rfl ?_ ?_
 ·conv => arg 3; whnf
  refine Zl (Zy _ _) ?_
  conv => arg 3; whnf
  refine Zf _ (Zn4 _) fun r2 hr2 => ?_
  conv => arg 3; whnf
  refine Zg (ZwA (f := Zd) (g := Zd) (fun ka kb : Int => (ka == kb)) (fun _ _ => rfl) r2 a.arg 0) ?_
  conv => arg 3; whnf
  refine Zh _ Zd5 rfl fun x3 hx3 => ?_
  conv => arg 3; whnf
  exact Zb rfl
 ·conv => arg 3; whnf
  refine Zc rfl ?_ ?_
  ·conv => arg 3; whnf
   refine Zh _ Zd5 rfl fun x4 hx4 => ?_
   conv => arg 3; whnf
   exact Zb rfl
  ·conv => arg 3; whnf
   refine Zc rfl ?_ ?_
   ·conv => arg 3; whnf
    exact Zb rfl
   ·conv => arg 3; whnf
    refine Zc rfl ?_ ?_
    ·conv => arg 3; whnf
     exact Zb rfl
    ·conv => arg 3; whnf
     refine Zh _ Zou rfl fun x5 hx5 => ?_
     conv => arg 3; whnf
     refine Zc rfl ?_ ?_
     ·conv => arg 3; whnf
      refine ZsP rfl ?_ ?_ ?_ ?_
      ·conv => arg 3; whnf
       refine Zg rfl ?_
       conv => arg 3; whnf
       refine Zl (Zy _ _) ?_
       conv => arg 3; whnf
       refine Zf _ (Zn1 _) fun r10 hr10 => ?_
       conv => arg 3; whnf
       exact Zb rfl
      ·conv => arg 3; whnf
       refine Zg rfl ?_
       conv => arg 3; whnf
       refine Zl (Zy _ _) ?_
       conv => arg 3; whnf
       refine Zf _ (ZmS _) fun r15 hr15 => ?_
       conv => arg 3; whnf
       exact Zb rfl
      ·conv => arg 3; whnf
       refine Zg rfl ?_
       conv => arg 3; whnf
       refine Zl (Zy _ _) ?_
       conv => arg 3; whnf
       refine Zf _ (Zmk _) fun r20 hr20 => ?_
       conv => arg 3; whnf
       exact Zb rfl
      ·conv => arg 3; whnf
       refine Zg rfl ?_
       conv => arg 3; whnf
       refine Zl (Zy _ _) ?_
       conv => arg 3; whnf
       refine Zf _ (Zmn _) fun r25 hr25 => ?_
       conv => arg 3; whnf
       exact Zb rfl
     ·exact Z8
def ZjJ (r : Zm) : D := (D.agg [(D.list true (List.map Zd r.work)), (D.list true (List.map Zd r.vals))])
def Zhp (t0 : Bool) (t1 : Bool) (t2 : Bool) (t3 : Bool) (t4 : Bool) (a : Zi) (b : (List Int)) (c : Zm) (d : Int) (x2 : Int) (x4 : (List Int)) : (List Int) → Ex × List V × Zn
  | r => (.exit 0, [(.d (D.list t4 (List.map Zd b))), (.d (Zd d)), (.ptr 0 0), (.ptr 1 0), (.ptr 2 0), (.sl 3 1)], [(.cells (dV t0 t1 t2 t3 a)), (.cells [(.sl 4 1), (.sl 5 1)]), (.cells [(.sl 6 1), (.sl 7 1)]), (.arr 1 (List.map Zd r)), (.arr 1 (List.map Zd (List.set c.work d.toNat (w64 (x2 + 1))))), (.arr 1 (List.map Zd c.vals)), (.arr 1 []), (.arr 1 [])])
theorem Zli {t0 : Bool} {t1 : Bool} {t2 : Bool} {t3 : Bool} {t4 : Bool} {a : Zi} {b : (List Int)} {c : Zm} {d : Int} {x2 : Int} {x4 : (List Int)} : ∀ (s5 : Int × (List Int)) (r : (List Int)), lp (Zfs c x4) s5 = some r → lpW ctx 0 [1, 3, 4, 6, 8, 9, 32, 33, 34] [1, 3, 4, 6, 8, 9] Zxb [(.d (D.list t4 (List.map Zd b))), (.d (Zd d)), (.ptr 0 0), (.ptr 1 0), (.ptr 2 0), (.sl 3 1), (.d (D.list true (List.map Zd x4))), (.d (Zd (x4.length : Int))), (.d (Zd s5.1))] [(.cells (dV t0 t1 t2 t3 a)), (.cells [(.sl 4 1), (.sl 5 1)]), (.cells [(.sl 6 1), (.sl 7 1)]), (.arr 1 (List.map Zd s5.2)), (.arr 1 (List.map Zd (List.set c.work d.toNat (w64 (x2 + 1))))), (.arr 1 (List.map Zd c.vals)), (.arr 1 []), (.arr 1 [])] = some ((Zhp t0 t1 t2 t3 t4 a b c d x2 x4) r) := by
 refine Zaf (Zhp t0 t1 t2 t3 t4 a b c d x2 x4) ?_
 intro s5 rcl ih
 show ZD _ _ (lpW _ _ _ _ _ _ _)
 unfold Zfs
 rw [Zag]
 conv => arg 3; whnf
 refine Zc rfl ?_ ?_
 ·conv => arg 3; whnf
  refine Zj rfl rfl fun x6 hx6 => ?_
  conv => arg 3; whnf
  refine Zj rfl rfl fun x7 hx7 => ?_
  conv => arg 3; whnf
  refine Zg (Zv rfl hx7) ?_
  conv => arg 3; whnf
  refine Zbb rfl ?_
  conv => arg 3; whnf
  refine Zc (ZfO Zd s5.2 1) ?_ ?_
  ·conv => arg 3; whnf
   refine Zl (Zft Zd s5.2 [x7]) ?_
   conv => arg 3; whnf
   exact Ze (ih _)
  ·exact Z8
 ·conv => arg 3; whnf
  exact Zb rfl
theorem Zja {t0 : Bool} {t1 : Bool} {t2 : Bool} {t3 : Bool} {t4 : Bool} {t5 : Bool} {t6 : Bool} {a : Zi} {b : (List Int)} {c : Zm} {d : Int} : ∀ r, (ZeZ a b c d) = some r → evD ctx 48 [(.d (D.agg (dA t0 t1 t2 t3 a))), (.d (D.list t4 (List.map Zd b))), (.d (D.agg [(D.list t5 (List.map Zd c.work)), (D.list t6 (List.map Zd c.vals))])), (.d (Zd d))] = some (ZjJ r) := by
 show ZD _ (fun r rhs => rhs = some (ZjJ r)) _
 unfold ZeZ
 rw [Zak ctx 48 Zz9 _ rfl rfl]
 conv => arg 3; whnf
 refine Zf _ Ze2 fun x0 hx0 => ?_
 conv => arg 3; whnf
 refine Zf _ Ze2 fun x1 hx1 => ?_
 conv => arg 3; whnf
 refine Zj rfl rfl fun x2 hx2 => ?_
 conv => arg 3; whnf
 refine Zg (Zv rfl hx2) ?_
 conv => arg 3; whnf
 refine Zg (ZaI rfl hx2) ?_
 conv => arg 3; whnf
 refine Zg (Zv rfl hx2) ?_
 conv => arg 3; whnf
 refine Zl (Zar Zd c.work d.toNat (w64 (x2 + 1))) ?_
 conv => arg 3; whnf
 refine Zh _ ZbQ rfl fun x3 hx3 => ?_
 conv => arg 3; whnf
 refine Zc rfl ?_ ?_
 ·conv => arg 3; whnf
  refine Zh _ Zn3 rfl fun x4 hx4 => ?_
  conv => arg 3; whnf
  refine Zl (Zy _ _) ?_
  conv => arg 3; whnf
  refine Zf _ (Zli _) fun r8 hr8 => ?_
  conv => arg 3; whnf
  refine Zj rfl rfl fun x9 hx9 => ?_
  conv => arg 3; whnf
  refine Zh _ ZqW rfl fun x10 hx10 => ?_
  conv => arg 3; whnf
  refine Zj rfl rfl fun x11 hx11 => ?_
  conv => arg 3; whnf
  refine Zg (Zv rfl hx11) ?_
  conv => arg 3; whnf
  refine Zl (Zar Zd c.vals d.toNat x10) ?_
  conv => arg 3; whnf
  exact Zb rfl
 ·conv => arg 3; whnf
  exact Zb rfl
def Zlw (r : (Zm × Int)) : D := (D.tup [(D.agg [(D.list true (List.map Zd r.1.work)), (D.list true (List.map Zd r.1.vals))]), (Zd r.2)])
theorem ZoL {t0 : Bool} {t1 : Bool} {t2 : Bool} {t3 : Bool} {t4 : Bool} {t5 : Bool} {t6 : Bool} {a : Zi} {b : (List Int)} {c : Zm} {d : Int} : ∀ r, (ZgH a b c d) = some r → evD ctx 24 [(.d (D.agg (dA t0 t1 t2 t3 a))), (.d (D.list t4 (List.map Zd b))), (.d (D.agg [(D.list t5 (List.map Zd c.work)), (D.list t6 (List.map Zd c.vals))])), (.d (Zd d))] = some (Zlw r) := by
 show ZD _ (fun r rhs => rhs = some (Zlw r)) _
 unfold ZgH
 rw [Zak ctx 24 Zz8 _ rfl rfl]
 conv => arg 3; whnf
 refine Zh _ Zc6 rfl fun x0 hx0 => ?_
 conv => arg 3; whnf
 refine Zc rfl ?_ ?_
 ·conv => arg 3; whnf
  refine Zc rfl ?_ ?_
  ·conv => arg 3; whnf
   exact Zb rfl
  ·conv => arg 3; whnf
   refine Zl (Zy _ _) ?_
   conv => arg 3; whnf
   refine Zc rfl ?_ ?_
   ·conv => arg 3; whnf
    exact Zb rfl
   ·conv => arg 3; whnf
    refine Zc rfl ?_ ?_
    ·conv => arg 3; whnf
     exact Zb rfl
    ·conv => arg 3; whnf
     refine Zh _ ZbQ rfl fun x1 hx1 => ?_
     conv => arg 3; whnf
     refine Zc rfl ?_ ?_
     ·conv => arg 3; whnf
      exact Zb rfl
     ·conv => arg 3; whnf
      refine Zh _ Zgl rfl fun x2 hx2 => ?_
      conv => arg 3; whnf
      refine Zc rfl ?_ ?_
      ·conv => arg 3; whnf
       refine Zh _ Zja rfl fun x3 hx3 => ?_
       conv => arg 3; whnf
       exact Zb rfl
      ·conv => arg 3; whnf
       exact Zb rfl
 ·conv => arg 3; whnf
  refine Zc rfl ?_ ?_
  ·conv => arg 3; whnf
   exact Zb rfl
  ·conv => arg 3; whnf
   refine Zh _ ZbQ rfl fun x4 hx4 => ?_
   conv => arg 3; whnf
   refine Zc rfl ?_ ?_
   ·conv => arg 3; whnf
    exact Zb rfl
   ·conv => arg 3; whnf
    refine Zh _ Zgl rfl fun x5 hx5 => ?_
    conv => arg 3; whnf
    refine Zc rfl ?_ ?_
    ·conv => arg 3; whnf
     refine Zh _ Zja rfl fun x6 hx6 => ?_
     conv => arg 3; whnf
     exact Zb rfl
    ·conv => arg 3; whnf
     exact Zb rfl
def ZlM (r : (Int × Bool)) : D := (D.tup [(Zd r.1), (D.bool r.2)])
def ZiP (a : Int) : (Int ⊕ Unit) → Ex × List V × Zn
  | (.inl r) => (.ret, [(.d (Zd r)), (.d (D.bool true))], [])
  | (.inr r) => (.exit 0, [.bad, .bad], [])
theorem ZmM {a : Int} : ∀ (s0 : Int × Int) (r : (Int ⊕ Unit)), lp (Zcv a) s0 = some r → lpW ctx 0 [0, 4, 5] [2, 3] ZuZ [(.d (Zd a)), (.d (Zd s0.1)), (.d (Zd s0.2))] [] = some ((ZiP a) r) := by
 refine Zaf (ZiP a) ?_
 intro s0 rcl ih
 show ZD _ _ (lpW _ _ _ _ _ _ _)
 unfold Zcv
 rw [Zag]
 conv => arg 3; whnf
 refine Zc rfl ?_ ?_
 ·conv => arg 3; whnf
  refine Zc rfl ?_ ?_
  ·conv => arg 3; whnf
   exact Zb rfl
  ·conv => arg 3; whnf
   exact Ze (ih _)
 ·conv => arg 3; whnf
  exact Zb rfl
theorem Zok {a : Int} : ∀ r, (ZgY a) = some r → evD ctx 95 [(.d (Zd a))] = some (ZlM r) := by
 show ZD _ (fun r rhs => rhs = some (ZlM r)) _
 unfold ZgY
 rw [Zak ctx 95 Zzq _ rfl rfl]
 conv => arg 3; whnf
 refine Zf _ (ZmM _) fun r1 hr1 => ?_
 clear hr1
 rcases r1 with r1 | r1
 ·conv => arg 3; whnf
  exact Zb rfl
 ·conv => arg 3; whnf
  exact Zb rfl
def ZkG (r : Bool) : D := (D.bool r)
theorem Zn2 {t0 : Bool} {t1 : Bool} {t2 : Bool} {t3 : Bool} {a : Zi} : ∀ r, (Zge a) = some r → evD ctx 58 [(.d (D.agg (dA t0 t1 t2 t3 a)))] = some (ZkG r) := by
 show ZD _ (fun r rhs => rhs = some (ZkG r)) _
 unfold Zge
 rw [Zak ctx 58 Zzg _ rfl rfl]
 conv => arg 3; whnf
 refine Zh _ Zok rfl fun x0 hx0 => ?_
 conv => arg 3; whnf
 refine Zc rfl ?_ ?_
 ·conv => arg 3; whnf
  refine Zc rfl ?_ ?_
  ·conv => arg 3; whnf
   refine Zc rfl ?_ ?_
   ·conv => arg 3; whnf
    refine Zc rfl ?_ ?_
    ·conv => arg 3; whnf
     exact Zb rfl
    ·conv => arg 3; whnf
     exact Zb rfl
   ·conv => arg 3; whnf
    exact Zb rfl
  ·conv => arg 3; whnf
   exact Zb rfl
 ·conv => arg 3; whnf
  exact Zb rfl
def ZjR (r : Bool) : D := (D.bool r)
def ZhR (t0 : Bool) (t1 : Bool) (t2 : Bool) (t3 : Bool) (a : Zi) : (Unit ⊕ Unit) → Ex × List V × Zn
  | (.inl r) => (.ret, [(.d (D.bool false))], [])
  | (.inr r) => (.exit 0, [.bad], [])
theorem Zlo {t0 : Bool} {t1 : Bool} {t2 : Bool} {t3 : Bool} {a : Zi} : ∀ (s0 : Int) (r : (Unit ⊕ Unit)), lp (ZdG a) s0 = some r → lpW ctx 0 [1, 3] [2] ZwF [(.ptr 0 0), (.d (Zd s0))] [(.cells (dV t0 t1 t2 t3 a))] = some ((ZhR t0 t1 t2 t3 a) r) := by
 refine Zaf (ZhR t0 t1 t2 t3 a) ?_
 intro s0 rcl ih
 show ZD _ _ (lpW _ _ _ _ _ _ _)
 unfold ZdG
 rw [Zag]
 conv => arg 3; whnf
 refine Zl (Zy _ _) ?_
 conv => arg 3; whnf
 refine Zc rfl ?_ ?_
 ·conv => arg 3; whnf
  refine Zj rfl rfl fun x1 hx1 => ?_
  conv => arg 3; whnf
  refine Zc rfl ?_ ?_
  ·conv => arg 3; whnf
   exact Zb rfl
  ·conv => arg 3; whnf
   refine Zc rfl ?_ ?_
   ·conv => arg 3; whnf
    exact Zb rfl
   ·conv => arg 3; whnf
    refine Zc rfl ?_ ?_
    ·conv => arg 3; whnf
     exact Zb rfl
    ·conv => arg 3; whnf
     refine Zc rfl ?_ ?_
     ·conv => arg 3; whnf
      exact Zb rfl
     ·conv => arg 3; whnf
      refine Zc rfl ?_ ?_
      ·conv => arg 3; whnf
       exact Zb rfl
      ·conv => arg 3; whnf
       refine Zc rfl ?_ ?_
       ·conv => arg 3; whnf
        exact Zb rfl
       ·conv => arg 3; whnf
        exact Ze (ih _)
 ·conv => arg 3; whnf
  exact Zb rfl
theorem Znt {t0 : Bool} {t1 : Bool} {t2 : Bool} {t3 : Bool} {a : Zi} : ∀ r, (ZfI a) = some r → evD ctx 59 [(.d (D.agg (dA t0 t1 t2 t3 a)))] = some (ZjR r) := by
 show ZD _ (fun r rhs => rhs = some (ZjR r)) _
 unfold ZfI
 rw [Zak ctx 59 ZyT _ rfl rfl]
 conv => arg 3; whnf
 refine Zf _ (Zlo _) fun r2 hr2 => ?_
 clear hr2
 rcases r2 with r2 | r2
 ·conv => arg 3; whnf
  exact Zb rfl
 ·conv => arg 3; whnf
  exact Zb rfl
def ZkN (r : Bool) : D := (D.bool r)
theorem Zd8 {t0 : Bool} {t1 : Bool} {t2 : Bool} {t3 : Bool} {a : Zi} {b : Int} : ∀ r, (ZcP a b) = some r → evD ctx 49 [(.d (D.agg (dA t0 t1 t2 t3 a))), (.d (Zd b))] = some (ZkN r) := by
 show ZD _ (fun r rhs => rhs = some (ZkN r)) _
 unfold ZcP
 rw [Zak ctx 49 ZzV _ rfl rfl]
 conv => arg 3; whnf
 refine Zc rfl ?_ ?_
 ·conv => arg 3; whnf
  refine Zl (Zy _ _) ?_
  conv => arg 3; whnf
  refine Zc rfl ?_ ?_
  ·conv => arg 3; whnf
   exact Zb rfl
  ·conv => arg 3; whnf
   exact Zb rfl
 ·conv => arg 3; whnf
  exact Zb rfl
def ZjN (r : Bool) : D := (D.bool r)
def Zhu (t0 : Bool) (t1 : Bool) (t2 : Bool) (t3 : Bool) (a : Zi) (s0 : Int) (x1 : ZK) : (Unit ⊕ Unit) → Ex × List V × Zn
  | (.inl r) => (.ret, [(.ptr 0 0), (.d (D.bool false)), (.d (Zd s0))], [(.cells (dV t0 t1 t2 t3 a))])
  | (.inr r) => (.exit 2, [(.ptr 0 0), .bad, (.d (Zd s0))], [(.cells (dV t0 t1 t2 t3 a))])
theorem Zll {t0 : Bool} {t1 : Bool} {t2 : Bool} {t3 : Bool} {a : Zi} {s0 : Int} {x1 : ZK} : ∀ (s4 : Int) (r : (Unit ⊕ Unit)), lp (ZdD a s0 x1) s4 = some r → lpW ctx 0 [1, 3, 4, 5] [1, 2, 3] Zwm [(.ptr 0 0), (.d (Zd s0)), (.ptr 1 0), (.d (Zd s4))] [(.cells (dV t0 t1 t2 t3 a)), (.cells [(.d (Zd x1.src)), (.d (Zd x1.dst))])] = some ((Zhu t0 t1 t2 t3 a s0 x1) r) := by
 refine Zaf (Zhu t0 t1 t2 t3 a s0 x1) ?_
 intro s4 rcl ih
 show ZD _ _ (lpW _ _ _ _ _ _ _)
 unfold ZdD
 rw [Zag]
 conv => arg 3; whnf
 refine Zc rfl ?_ ?_
 ·conv => arg 3; whnf
  refine Zj rfl rfl fun x5 hx5 => ?_
  conv => arg 3; whnf
  refine Zc rfl ?_ ?_
  ·conv => arg 3; whnf
   refine Zg (ZaI rfl hx5) ?_
   conv => arg 3; whnf
   refine Zc rfl ?_ ?_
   ·conv => arg 3; whnf
    exact Zb rfl
   ·conv => arg 3; whnf
    exact Ze (ih _)
  ·conv => arg 3; whnf
   exact Ze (ih _)
 ·conv => arg 3; whnf
  exact Zb rfl
def ZhS (t0 : Bool) (t1 : Bool) (t2 : Bool) (t3 : Bool) (a : Zi) : (Unit ⊕ Unit) → Ex × List V × Zn
  | (.inl r) => (.ret, [(.d (D.bool false))], [])
  | (.inr r) => (.exit 0, [.bad], [])
theorem Zlk {t0 : Bool} {t1 : Bool} {t2 : Bool} {t3 : Bool} {a : Zi} : ∀ (s0 : Int) (r : (Unit ⊕ Unit)), lp (ZdF a) s0 = some r → lpW ctx 0 [1, 3] [2] Zxn [(.ptr 0 0), (.d (Zd s0))] [(.cells (dV t0 t1 t2 t3 a))] = some ((ZhS t0 t1 t2 t3 a) r) := by
 refine Zaf (ZhS t0 t1 t2 t3 a) ?_
 intro s0 rcl ih
 show ZD _ _ (lpW _ _ _ _ _ _ _)
 unfold ZdF
 rw [Zag]
 conv => arg 3; whnf
 refine Zl (Zy _ _) ?_
 conv => arg 3; whnf
 refine Zc rfl ?_ ?_
 ·conv => arg 3; whnf
  refine Zj rfl rfl fun x1 hx1 => ?_
  conv => arg 3; whnf
  refine Zh _ Zd8 rfl fun x2 hx2 => ?_
  conv => arg 3; whnf
  refine Zc rfl ?_ ?_
  ·conv => arg 3; whnf
   refine Zh _ Zd8 rfl fun x3 hx3 => ?_
   conv => arg 3; whnf
   refine Zc rfl ?_ ?_
   ·conv => arg 3; whnf
    refine Zc rfl ?_ ?_
    ·conv => arg 3; whnf
     exact Zb rfl
    ·conv => arg 3; whnf
     refine Zf _ (Zll _) fun r6 hr6 => ?_
     clear hr6
     rcases r6 with r6 | r6
     ·conv => arg 3; whnf
      exact Zb rfl
     ·conv => arg 3; whnf
      exact Ze (ih _)
   ·conv => arg 3; whnf
    exact Zb rfl
  ·conv => arg 3; whnf
   exact Zb rfl
 ·conv => arg 3; whnf
  exact Zb rfl
theorem Zno {t0 : Bool} {t1 : Bool} {t2 : Bool} {t3 : Bool} {a : Zi} : ∀ r, (ZfH a) = some r → evD ctx 60 [(.d (D.agg (dA t0 t1 t2 t3 a)))] = some (ZjN r) := by
 show ZD _ (fun r rhs => rhs = some (ZjN r)) _
 unfold ZfH
 rw [Zak ctx 60 ZyS _ rfl rfl]
 conv => arg 3; whnf
 refine Zf _ (Zlk _) fun r7 hr7 => ?_
 clear hr7
 rcases r7 with r7 | r7
 ·conv => arg 3; whnf
  exact Zb rfl
 ·conv => arg 3; whnf
  exact Zb rfl
def Zib (r : Bool) : D := (D.bool r)
def ZgG (t0 : Bool) (t1 : Bool) (t2 : Bool) (t3 : Bool) (a : Zi) (s0 : Int) (x1 : Zp) : (Unit ⊕ Unit) → Ex × List V × Zn
  | (.inl r) => (.ret, [(.ptr 0 0), (.d (D.bool false)), (.d (Zd s0))], [(.cells (dV t0 t1 t2 t3 a))])
  | (.inr r) => (.exit 2, [(.ptr 0 0), .bad, (.d (Zd s0))], [(.cells (dV t0 t1 t2 t3 a))])
theorem Zka {t0 : Bool} {t1 : Bool} {t2 : Bool} {t3 : Bool} {a : Zi} {s0 : Int} {x1 : Zp} : ∀ (s5 : Int) (r : (Unit ⊕ Unit)), lp (ZcM a s0 x1) s5 = some r → lpW ctx 0 [1, 3, 4, 5] [1, 2, 3] ZvF [(.ptr 0 0), (.d (Zd s0)), (.ptr 1 0), (.d (Zd s5))] [(.cells (dV t0 t1 t2 t3 a)), (.cells [(.d (Zd x1.maker)), (.d (Zd x1.user)), (.d (Zd x1.pos))])] = some ((ZgG t0 t1 t2 t3 a s0 x1) r) := by
 refine Zaf (ZgG t0 t1 t2 t3 a s0 x1) ?_
 intro s5 rcl ih
 show ZD _ _ (lpW _ _ _ _ _ _ _)
 unfold ZcM
 rw [Zag]
 conv => arg 3; whnf
 refine Zc rfl ?_ ?_
 ·conv => arg 3; whnf
  refine Zj rfl rfl fun x6 hx6 => ?_
  conv => arg 3; whnf
  refine Zc rfl ?_ ?_
  ·conv => arg 3; whnf
   refine Zg (ZaI rfl hx6) ?_
   conv => arg 3; whnf
   refine Zc rfl ?_ ?_
   ·conv => arg 3; whnf
    exact Zb rfl
   ·conv => arg 3; whnf
    exact Ze (ih _)
  ·conv => arg 3; whnf
   exact Ze (ih _)
 ·conv => arg 3; whnf
  exact Zb rfl
def Zgy (t0 : Bool) (t1 : Bool) (t2 : Bool) (t3 : Bool) (a : Zi) : (Unit ⊕ Unit) → Ex × List V × Zn
  | (.inl r) => (.ret, [(.d (D.bool false))], [])
  | (.inr r) => (.exit 0, [.bad], [])
theorem Zj9 {t0 : Bool} {t1 : Bool} {t2 : Bool} {t3 : Bool} {a : Zi} : ∀ (s0 : Int) (r : (Unit ⊕ Unit)), lp (ZcI a) s0 = some r → lpW ctx 0 [1, 3] [2] Zvk [(.ptr 0 0), (.d (Zd s0))] [(.cells (dV t0 t1 t2 t3 a))] = some ((Zgy t0 t1 t2 t3 a) r) := by
 refine Zaf (Zgy t0 t1 t2 t3 a) ?_
 intro s0 rcl ih
 show ZD _ _ (lpW _ _ _ _ _ _ _)
 unfold ZcI
 rw [Zag]
 conv => arg 3; whnf
 refine Zl (Zy _ _) ?_
 conv => arg 3; whnf
 refine Zc rfl ?_ ?_
 ·conv => arg 3; whnf
  refine Zj rfl rfl fun x1 hx1 => ?_
  conv => arg 3; whnf
  refine Zh _ Zd8 rfl fun x2 hx2 => ?_
  conv => arg 3; whnf
  refine Zc rfl ?_ ?_
  ·conv => arg 3; whnf
   refine Zh _ Zd8 rfl fun x3 hx3 => ?_
   conv => arg 3; whnf
   refine Zc rfl ?_ ?_
   ·conv => arg 3; whnf
    refine Zc rfl ?_ ?_
    ·conv => arg 3; whnf
     exact Zb rfl
    ·conv => arg 3; whnf
     refine Zc rfl ?_ ?_
     ·conv => arg 3; whnf
      exact Zb rfl
     ·conv => arg 3; whnf
      refine Zj rfl rfl fun x4 hx4 => ?_
      conv => arg 3; whnf
      refine Zc rfl ?_ ?_
      ·conv => arg 3; whnf
       exact Zb rfl
      ·conv => arg 3; whnf
       refine Zf _ (Zka _) fun r7 hr7 => ?_
       clear hr7
       rcases r7 with r7 | r7
       ·conv => arg 3; whnf
        exact Zb rfl
       ·conv => arg 3; whnf
        exact Ze (ih _)
   ·conv => arg 3; whnf
    exact Zb rfl
  ·conv => arg 3; whnf
   exact Zb rfl
 ·conv => arg 3; whnf
  exact Zb rfl
theorem ZlX {t0 : Bool} {t1 : Bool} {t2 : Bool} {t3 : Bool} {a : Zi} : ∀ r, (ZeR a) = some r → evD ctx 61 [(.d (D.agg (dA t0 t1 t2 t3 a)))] = some (Zib r) := by
 show ZD _ (fun r rhs => rhs = some (Zib r)) _
 unfold ZeR
 rw [Zak ctx 61 ZzP _ rfl rfl]
 conv => arg 3; whnf
 refine Zf _ (Zj9 _) fun r8 hr8 => ?_
 clear hr8
 rcases r8 with r8 | r8
 ·conv => arg 3; whnf
  exact Zb rfl
 ·conv => arg 3; whnf
  exact Zb rfl
def ZlF (r : Bool) : D := (D.bool r)
def ZiI (t0 : Bool) (t1 : Bool) (t2 : Bool) (t3 : Bool) (t4 : Bool) (a : Zi) (b : (List Int)) : (Unit ⊕ Unit) → Ex × List V × Zn
  | (.inl r) => (.ret, [(.d (D.list t4 (List.map Zd b))), (.d (D.bool false))], [])
  | (.inr r) => (.exit 0, [(.d (D.list t4 (List.map Zd b))), .bad], [])
theorem ZmV {t0 : Bool} {t1 : Bool} {t2 : Bool} {t3 : Bool} {t4 : Bool} {a : Zi} {b : (List Int)} : ∀ (s0 : Int) (r : (Unit ⊕ Unit)), lp (Zer a b) s0 = some r → lpW ctx 0 [1, 2, 5] [1, 4] ZwT [(.d (D.list t4 (List.map Zd b))), (.ptr 0 0), (.d (Zd s0))] [(.cells (dV t0 t1 t2 t3 a))] = some ((ZiI t0 t1 t2 t3 t4 a b) r) := by
 refine Zaf (ZiI t0 t1 t2 t3 t4 a b) ?_
 intro s0 rcl ih
 show ZD _ _ (lpW _ _ _ _ _ _ _)
 unfold Zer
 rw [Zag]
 conv => arg 3; whnf
 refine Zl (Zy _ _) ?_
 conv => arg 3; whnf
 refine Zc rfl ?_ ?_
 ·conv => arg 3; whnf
  refine Zj rfl rfl fun x1 hx1 => ?_
  conv => arg 3; whnf
  refine Zh _ Zd8 rfl fun x2 hx2 => ?_
  conv => arg 3; whnf
  refine Zc rfl ?_ ?_
  ·conv => arg 3; whnf
   refine Zc rfl ?_ ?_
   ·conv => arg 3; whnf
    refine Zj rfl rfl fun x3 hx3 => ?_
    conv => arg 3; whnf
    refine Zg (ZaI rfl hx1) ?_
    conv => arg 3; whnf
    refine Zc rfl ?_ ?_
    ·conv => arg 3; whnf
     exact Zb rfl
    ·conv => arg 3; whnf
     exact Ze (ih _)
   ·conv => arg 3; whnf
    exact Ze (ih _)
  ·conv => arg 3; whnf
   exact Zb rfl
 ·conv => arg 3; whnf
  exact Zb rfl
theorem ZkE {t0 : Bool} {t1 : Bool} {t2 : Bool} {t3 : Bool} {t4 : Bool} {a : Zi} {b : (List Int)} : ∀ r, (ZfU a b) = some r → evD ctx 96 [(.d (D.agg (dA t0 t1 t2 t3 a))), (.d (D.list t4 (List.map Zd b)))] = some (ZlF r) := by
 show ZD _ (fun r rhs => rhs = some (ZlF r)) _
 unfold ZfU
 rw [Zak ctx 96 ZyX _ rfl rfl]
 conv => arg 3; whnf
 refine Zf _ (ZmV _) fun r4 hr4 => ?_
 clear hr4
 rcases r4 with r4 | r4
 ·conv => arg 3; whnf
  exact Zb rfl
 ·conv => arg 3; whnf
  refine Zl (Zy _ _) ?_
  conv => arg 3; whnf
  refine Zc rfl ?_ ?_
  ·conv => arg 3; whnf
   exact Zb rfl
  ·conv => arg 3; whnf
   exact Zb rfl
def ZlE (r : Bool) : D := (D.bool r)
def ZiX (t0 : Bool) (a : (List Int)) (b : Int) : (Unit ⊕ Unit) → Ex × List V × Zn
  | (.inl r) => (.ret, [(.d (D.bool true))], [])
  | (.inr r) => (.exit 0, [.bad], [])
theorem Zmi {t0 : Bool} {a : (List Int)} {b : Int} : ∀ (s0 : Int) (r : (Unit ⊕ Unit)), lp (Zet a b) s0 = some r → lpW ctx 0 [0, 1, 5] [4] Zvh [(.d (D.list t0 (List.map Zd a))), (.d (Zd b)), (.d (Zd s0))] [] = some ((ZiX t0 a b) r) := by
 refine Zaf (ZiX t0 a b) ?_
 intro s0 rcl ih
 show ZD _ _ (lpW _ _ _ _ _ _ _)
 unfold Zet
 rw [Zag]
 conv => arg 3; whnf
 refine Zl (Zy _ _) ?_
 conv => arg 3; whnf
 refine Zc rfl ?_ ?_
 ·conv => arg 3; whnf
  refine Zj rfl rfl fun x1 hx1 => ?_
  conv => arg 3; whnf
  refine Zc rfl ?_ ?_
  ·conv => arg 3; whnf
   exact Zb rfl
  ·conv => arg 3; whnf
   exact Ze (ih _)
 ·conv => arg 3; whnf
  exact Zb rfl
theorem Zkf {t0 : Bool} {a : (List Int)} {b : Int} : ∀ r, (ZfW a b) = some r → evD ctx 81 [(.d (D.list t0 (List.map Zd a))), (.d (Zd b))] = some (ZlE r) := by
 show ZD _ (fun r rhs => rhs = some (ZlE r)) _
 unfold ZfW
 rw [Zak ctx 81 Zy7 _ rfl rfl]
 conv => arg 3; whnf
 refine Zf _ (Zmi _) fun r2 hr2 => ?_
 clear hr2
 rcases r2 with r2 | r2
 ·conv => arg 3; whnf
  exact Zb rfl
 ·conv => arg 3; whnf
  exact Zb rfl
def Zhv (r : Bool) : D := (D.bool r)
def Zgj (t0 : Bool) (t1 : Bool) (t2 : Bool) (t3 : Bool) (a : Zi) (s0 : Int) (x1 : Zo) : (Unit ⊕ Unit) → Ex × List V × Zn
  | (.inl r) => (.ret, [(.ptr 0 0), (.d (D.bool false)), (.d (Zd s0))], [(.cells (dV t0 t1 t2 t3 a))])
  | (.inr r) => (.exit 2, [(.ptr 0 0), .bad, (.d (Zd s0))], [(.cells (dV t0 t1 t2 t3 a))])
theorem Zji {t0 : Bool} {t1 : Bool} {t2 : Bool} {t3 : Bool} {a : Zi} {s0 : Int} {x1 : Zo} : ∀ (s4 : Int) (r : (Unit ⊕ Unit)), lp (Zcy x1) s4 = some r → lpW ctx 0 [1, 3, 4, 5] [1, 2, 3] Zwc [(.ptr 0 0), (.d (Zd s0)), (.ptr 1 0), (.d (Zd s4))] [(.cells (dV t0 t1 t2 t3 a)), (.cells [(.d (D.list true (List.map Zd x1.ins))), (.d (D.list true (List.map Zd x1.outs)))])] = some ((Zgj t0 t1 t2 t3 a s0 x1) r) := by
 refine Zaf (Zgj t0 t1 t2 t3 a s0 x1) ?_
 intro s4 rcl ih
 show ZD _ _ (lpW _ _ _ _ _ _ _)
 unfold Zcy
 rw [Zag]
 conv => arg 3; whnf
 refine Zl (Zy _ _) ?_
 conv => arg 3; whnf
 refine Zc rfl ?_ ?_
 ·conv => arg 3; whnf
  refine Zj rfl rfl fun x5 hx5 => ?_
  conv => arg 3; whnf
  refine Zh _ Zkf rfl fun x6 hx6 => ?_
  conv => arg 3; whnf
  refine Zc rfl ?_ ?_
  ·conv => arg 3; whnf
   exact Zb rfl
  ·conv => arg 3; whnf
   exact Ze (ih _)
 ·conv => arg 3; whnf
  exact Zb rfl
def Zgi (t0 : Bool) (t1 : Bool) (t2 : Bool) (t3 : Bool) (a : Zi) : (Unit ⊕ Unit) → Ex × List V × Zn
  | (.inl r) => (.ret, [(.d (D.bool false))], [])
  | (.inr r) => (.exit 0, [.bad], [])
theorem Zjq {t0 : Bool} {t1 : Bool} {t2 : Bool} {t3 : Bool} {a : Zi} : ∀ (s0 : Int) (r : (Unit ⊕ Unit)), lp (Zcz a) s0 = some r → lpW ctx 0 [1, 3] [2] Zwd [(.ptr 0 0), (.d (Zd s0))] [(.cells (dV t0 t1 t2 t3 a))] = some ((Zgi t0 t1 t2 t3 a) r) := by
 refine Zaf (Zgi t0 t1 t2 t3 a) ?_
 intro s0 rcl ih
 show ZD _ _ (lpW _ _ _ _ _ _ _)
 unfold Zcz
 rw [Zag]
 conv => arg 3; whnf
 refine Zl (Zy _ _) ?_
 conv => arg 3; whnf
 refine Zc rfl ?_ ?_
 ·conv => arg 3; whnf
  refine Zj rfl rfl fun x1 hx1 => ?_
  conv => arg 3; whnf
  refine Zh _ ZkE rfl fun x2 hx2 => ?_
  conv => arg 3; whnf
  refine Zc rfl ?_ ?_
  ·conv => arg 3; whnf
   refine Zh _ ZkE rfl fun x3 hx3 => ?_
   conv => arg 3; whnf
   refine Zc rfl ?_ ?_
   ·conv => arg 3; whnf
    refine Zf _ (Zji _) fun r7 hr7 => ?_
    clear hr7
    rcases r7 with r7 | r7
    ·conv => arg 3; whnf
     exact Zb rfl
    ·conv => arg 3; whnf
     exact Ze (ih _)
   ·conv => arg 3; whnf
    exact Zb rfl
  ·conv => arg 3; whnf
   exact Zb rfl
 ·conv => arg 3; whnf
  exact Zb rfl
theorem Zld {t0 : Bool} {t1 : Bool} {t2 : Bool} {t3 : Bool} {a : Zi} : ∀ r, (Zey a) = some r → evD ctx 62 [(.d (D.agg (dA t0 t1 t2 t3 a)))] = some (Zhv r) := by
 show ZD _ (fun r rhs => rhs = some (Zhv r)) _
 unfold Zey
 rw [Zak ctx 62 ZAf _ rfl rfl]
 conv => arg 3; whnf
 refine Zf _ (Zjq _) fun r8 hr8 => ?_
 clear hr8
 rcases r8 with r8 | r8
 ·conv => arg 3; whnf
  exact Zb rfl
 ·conv => arg 3; whnf
  exact Zb rfl
def ZjL (r : Int) : D := (Zd r)
theorem ZnC {t0 : Bool} {t1 : Bool} {t2 : Bool} {t3 : Bool} {a : Zi} : ∀ r, (ZfA a) = some r → evD ctx 36 [(.d (D.agg (dA t0 t1 t2 t3 a)))] = some (ZjL r) := by
 show ZD _ (fun r rhs => rhs = some (ZjL r)) _
 unfold ZfA
 rw [Zak ctx 36 Zzt _ rfl rfl]
 conv => arg 3; whnf
 refine Zl (Zy _ _) ?_
 conv => arg 3; whnf
 refine Zc rfl ?_ ?_
 ·conv => arg 3; whnf
  exact Zb rfl
 ·conv => arg 3; whnf
  refine Zl (Zy _ _) ?_
  conv => arg 3; whnf
  refine Zc rfl ?_ ?_
  ·conv => arg 3; whnf
   exact Zb rfl
  ·conv => arg 3; whnf
   refine Zl (Zy _ _) ?_
   conv => arg 3; whnf
   refine Zc rfl ?_ ?_
   ·conv => arg 3; whnf
    exact Zb rfl
   ·conv => arg 3; whnf
    refine Zl (Zy _ _) ?_
    conv => arg 3; whnf
    refine Zc rfl ?_ ?_
    ·conv => arg 3; whnf
     exact Zb rfl
    ·conv => arg 3; whnf
     refine Zl (Zy _ _) ?_
     conv => arg 3; whnf
     refine Zc rfl ?_ ?_
     ·conv => arg 3; whnf
      exact Zb rfl
     ·conv => arg 3; whnf
      refine Zh _ Zn2 rfl fun x0 hx0 => ?_
      conv => arg 3; whnf
      refine Zc rfl ?_ ?_
      ·conv => arg 3; whnf
       refine Zh _ Znt rfl fun x1 hx1 => ?_
       conv => arg 3; whnf
       refine Zc rfl ?_ ?_
       ·conv => arg 3; whnf
        refine Zh _ Zno rfl fun x2 hx2 => ?_
        conv => arg 3; whnf
        refine Zc rfl ?_ ?_
        ·conv => arg 3; whnf
         refine Zh _ ZlX rfl fun x3 hx3 => ?_
         conv => arg 3; whnf
         refine Zc rfl ?_ ?_
         ·conv => arg 3; whnf
          refine Zh _ Zld rfl fun x4 hx4 => ?_
          conv => arg 3; whnf
          refine Zc rfl ?_ ?_
          ·conv => arg 3; whnf
           exact Zb rfl
          ·conv => arg 3; whnf
           exact Zb rfl
         ·conv => arg 3; whnf
          exact Zb rfl
        ·conv => arg 3; whnf
         exact Zb rfl
       ·conv => arg 3; whnf
        exact Zb rfl
      ·conv => arg 3; whnf
       exact Zb rfl
def Zkq (r : Bool) : D := (D.bool r)
theorem Zd0 {t0 : Bool} {t1 : Bool} {t2 : Bool} {t3 : Bool} {t4 : Bool} {t5 : Bool} {a : Zi} {b : Zm} {c : Int} : ∀ r, (ZcQ a b c) = some r → evD ctx 50 [(.d (D.agg (dA t0 t1 t2 t3 a))), (.d (D.agg [(D.list t4 (List.map Zd b.work)), (D.list t5 (List.map Zd b.vals))])), (.d (Zd c))] = some (Zkq r) := by
 show ZD _ (fun r rhs => rhs = some (Zkq r)) _
 unfold ZcQ
 rw [Zak ctx 50 ZzM _ rfl rfl]
 conv => arg 3; whnf
 refine Zj rfl rfl fun x0 hx0 => ?_
 conv => arg 3; whnf
 refine Zj rfl rfl fun x1 hx1 => ?_
 conv => arg 3; whnf
 refine Zc rfl ?_ ?_
 ·conv => arg 3; whnf
  exact Zb rfl
 ·conv => arg 3; whnf
  exact Zb rfl
def ZiZ (r : Bool) : D := (D.bool r)
def Zhd (t0 : Bool) (t1 : Bool) (t2 : Bool) (t3 : Bool) (t4 : Bool) (t5 : Bool) (a : Zi) (b : Zm) (c : Int) : (List Int) → Ex × List V × Zn
  | r => (.exit 0, [(.d (Zd c)), (.ptr 0 0), (.ptr 1 0), (.sl 2 1)], [(.cells (dV t0 t1 t2 t3 a)), (.cells [(.d (D.list t4 (List.map Zd b.work))), (.d (D.list t5 (List.map Zd b.vals)))]), (.arr 1 (List.map Zd r))])
theorem ZkA {t0 : Bool} {t1 : Bool} {t2 : Bool} {t3 : Bool} {t4 : Bool} {t5 : Bool} {a : Zi} {b : Zm} {c : Int} : ∀ (s0 : Int × (List Int)) (r : (List Int)), lp (Ze6 a c) s0 = some r → lpW ctx 0 [2, 3, 4, 7, 8] [2, 3, 4, 7] Zvn [(.d (Zd c)), (.ptr 0 0), (.ptr 1 0), (.sl 2 1), (.d (Zd s0.1))] [(.cells (dV t0 t1 t2 t3 a)), (.cells [(.d (D.list t4 (List.map Zd b.work))), (.d (D.list t5 (List.map Zd b.vals)))]), (.arr 1 (List.map Zd s0.2))] = some ((Zhd t0 t1 t2 t3 t4 t5 a b c) r) := by
 refine Zaf (Zhd t0 t1 t2 t3 t4 t5 a b c) ?_
 intro s0 rcl ih
 show ZD _ _ (lpW _ _ _ _ _ _ _)
 unfold Ze6
 rw [Zag]
 conv => arg 3; whnf
 refine Zl (Zy _ _) ?_
 conv => arg 3; whnf
 refine Zc rfl ?_ ?_
 ·conv => arg 3; whnf
  refine Zj rfl rfl fun x1 hx1 => ?_
  conv => arg 3; whnf
  refine Zc rfl ?_ ?_
  ·conv => arg 3; whnf
   refine Zg (ZaI rfl hx1) ?_
   conv => arg 3; whnf
   refine Zbb rfl ?_
   conv => arg 3; whnf
   refine Zc (ZfO Zd s0.2 1) ?_ ?_
   ·conv => arg 3; whnf
    refine Zl (Zft Zd s0.2 [x1.src]) ?_
    conv => arg 3; whnf
    exact Ze (ih _)
   ·exact Z8
  ·conv => arg 3; whnf
   exact Ze (ih _)
 ·conv => arg 3; whnf
  exact Zb rfl
def Zg5 (t0 : Bool) (t1 : Bool) (t2 : Bool) (t3 : Bool) (t4 : Bool) (t5 : Bool) (a : Zi) (b : Zm) (c : Int) : (List Int) → Ex × List V × Zn
  | r => (.exit 2, [(.ptr 0 0), (.ptr 1 0), (.sl 2 1)], [(.cells (dV t0 t1 t2 t3 a)), (.cells [(.d (D.list t4 (List.map Zd b.work))), (.d (D.list t5 (List.map Zd b.vals)))]), (.arr 1 (List.map Zd r))])
theorem Zkn {t0 : Bool} {t1 : Bool} {t2 : Bool} {t3 : Bool} {t4 : Bool} {t5 : Bool} {a : Zi} {b : Zm} {c : Int} : ∀ (s3 : Int × (List Int)) (r : (List Int)), lp (ZbX a c) s3 = some r → lpW ctx 0 [2, 3, 4, 7, 9] [3, 4, 7] Zxl [(.d (Zd c)), (.ptr 0 0), (.ptr 1 0), (.sl 2 1), (.d (Zd s3.1))] [(.cells (dV t0 t1 t2 t3 a)), (.cells [(.d (D.list t4 (List.map Zd b.work))), (.d (D.list t5 (List.map Zd b.vals)))]), (.arr 1 (List.map Zd s3.2))] = some ((Zg5 t0 t1 t2 t3 t4 t5 a b c) r) := by
 refine Zaf (Zg5 t0 t1 t2 t3 t4 t5 a b c) ?_
 intro s3 rcl ih
 show ZD _ _ (lpW _ _ _ _ _ _ _)
 unfold ZbX
 rw [Zag]
 conv => arg 3; whnf
 refine Zl (Zy _ _) ?_
 conv => arg 3; whnf
 refine Zc rfl ?_ ?_
 ·conv => arg 3; whnf
  refine Zj rfl rfl fun x4 hx4 => ?_
  conv => arg 3; whnf
  refine Zh _ Zkf rfl fun x5 hx5 => ?_
  conv => arg 3; whnf
  refine Zc rfl ?_ ?_
  ·conv => arg 3; whnf
   refine Zg (ZaI rfl hx4) ?_
   conv => arg 3; whnf
   refine Zbb (ZeQ (f := Zd) (fun _ => ⟨rfl, rfl⟩) x4.ins 0) ?_
   conv => arg 3; whnf
   refine Zc (ZvS Zd s3.2 x4.ins) ?_ ?_
   ·conv => arg 3; whnf
    refine Zl (Zft Zd s3.2 x4.ins) ?_
    conv => arg 3; whnf
    exact Ze (ih _)
   ·exact Z8
  ·conv => arg 3; whnf
   exact Ze (ih _)
 ·conv => arg 3; whnf
  exact Zb rfl
def Zg9 (t0 : Bool) (t1 : Bool) (t2 : Bool) (t3 : Bool) (t4 : Bool) (t5 : Bool) (a : Zi) (b : Zm) (r6 : (List Int)) : (Unit ⊕ Unit) → Ex × List V × Zn
  | (.inl r) => (.ret, [(.d (D.bool false))], [])
  | (.inr r) => (.exit 4, [.bad], [])
theorem ZkR {t0 : Bool} {t1 : Bool} {t2 : Bool} {t3 : Bool} {t4 : Bool} {t5 : Bool} {a : Zi} {b : Zm} {r6 : (List Int)} : ∀ (s7 : Int) (r : (Unit ⊕ Unit)), lp (Zc7 a b r6) s7 = some r → lpW ctx 0 [3, 4, 7, 10] [6] Zxp [(.ptr 0 0), (.ptr 1 0), (.sl 2 1), (.d (Zd s7))] [(.cells (dV t0 t1 t2 t3 a)), (.cells [(.d (D.list t4 (List.map Zd b.work))), (.d (D.list t5 (List.map Zd b.vals)))]), (.arr 1 (List.map Zd r6))] = some ((Zg9 t0 t1 t2 t3 t4 t5 a b r6) r) := by
 refine Zaf (Zg9 t0 t1 t2 t3 t4 t5 a b r6) ?_
 intro s7 rcl ih
 show ZD _ _ (lpW _ _ _ _ _ _ _)
 unfold Zc7
 rw [Zag]
 conv => arg 3; whnf
 refine Zl (Zy _ _) ?_
 conv => arg 3; whnf
 refine Zc rfl ?_ ?_
 ·conv => arg 3; whnf
  refine Zj rfl rfl fun x8 hx8 => ?_
  conv => arg 3; whnf
  refine Zg (Zv rfl hx8) ?_
  conv => arg 3; whnf
  refine Zh _ Zd0 rfl fun x9 hx9 => ?_
  conv => arg 3; whnf
  refine Zc rfl ?_ ?_
  ·conv => arg 3; whnf
   exact Ze (ih _)
  ·conv => arg 3; whnf
   exact Zb rfl
 ·conv => arg 3; whnf
  exact Zb rfl
theorem Zim {t0 : Bool} {t1 : Bool} {t2 : Bool} {t3 : Bool} {t4 : Bool} {t5 : Bool} {a : Zi} {b : Zm} {c : Int} : ∀ r, (Zex a b c) = some r → evD ctx 53 [(.d (D.agg (dA t0 t1 t2 t3 a))), (.d (D.agg [(D.list t4 (List.map Zd b.work)), (D.list t5 (List.map Zd b.vals))])), (.d (Zd c))] = some (ZiZ r) := by
 show ZD _ (fun r rhs => rhs = some (ZiZ r)) _
 unfold Zex
 rw [Zak ctx 53 ZyN _ rfl rfl]
 conv => arg 3; whnf
 refine Zf _ (ZkA _) fun r2 hr2 => ?_
 conv => arg 3; whnf
 refine Zf _ (Zkn _) fun r6 hr6 => ?_
 conv => arg 3; whnf
 refine Zf _ (ZkR _) fun r10 hr10 => ?_
 clear hr10
 rcases r10 with r10 | r10
 ·conv => arg 3; whnf
  exact Zb rfl
 ·conv => arg 3; whnf
  exact Zb rfl
def ZjV (r : Int) : D := (Zd r)
def ZhC (t0 : Bool) (t1 : Bool) (t2 : Bool) (t3 : Bool) (t4 : Bool) (t5 : Bool) (a : Zi) (b : Zm) : (Unit ⊕ Unit) → Ex × List V × Zn
  | (.inl r) => (.ret, [(.ptr 0 0), (.ptr 1 0), (.d (Zd 90))], [(.cells (dV t0 t1 t2 t3 a)), (.cells [(.d (D.list t4 (List.map Zd b.work))), (.d (D.list t5 (List.map Zd b.vals)))])])
  | (.inr r) => (.exit 0, [(.ptr 0 0), (.ptr 1 0), .bad], [(.cells (dV t0 t1 t2 t3 a)), (.cells [(.d (D.list t4 (List.map Zd b.work))), (.d (D.list t5 (List.map Zd b.vals)))])])
theorem Zlh {t0 : Bool} {t1 : Bool} {t2 : Bool} {t3 : Bool} {t4 : Bool} {t5 : Bool} {a : Zi} {b : Zm} : ∀ (s1 : Int) (r : (Unit ⊕ Unit)), lp (ZdE a b) s1 = some r → lpW ctx 0 [2, 3, 6] [2, 3, 4] ZwJ [(.ptr 0 0), (.ptr 1 0), (.d (Zd s1))] [(.cells (dV t0 t1 t2 t3 a)), (.cells [(.d (D.list t4 (List.map Zd b.work))), (.d (D.list t5 (List.map Zd b.vals)))])] = some ((ZhC t0 t1 t2 t3 t4 t5 a b) r) := by
 refine Zaf (ZhC t0 t1 t2 t3 t4 t5 a b) ?_
 intro s1 rcl ih
 show ZD _ _ (lpW _ _ _ _ _ _ _)
 unfold ZdE
 rw [Zag]
 conv => arg 3; whnf
 refine Zl (Zy _ _) ?_
 conv => arg 3; whnf
 refine Zc rfl ?_ ?_
 ·conv => arg 3; whnf
  refine Zj rfl rfl fun x2 hx2 => ?_
  conv => arg 3; whnf
  refine Zc rfl ?_ ?_
  ·conv => arg 3; whnf
   exact Zb rfl
  ·conv => arg 3; whnf
   refine Zg (ZaI rfl hx2) ?_
   conv => arg 3; whnf
   refine Zj rfl rfl fun x3 hx3 => ?_
   conv => arg 3; whnf
   refine Zc rfl ?_ ?_
   ·conv => arg 3; whnf
    exact Zb rfl
   ·conv => arg 3; whnf
    exact Ze (ih _)
 ·conv => arg 3; whnf
  exact Zb rfl
def Zhx (t0 : Bool) (t1 : Bool) (t2 : Bool) (t3 : Bool) (t4 : Bool) (t5 : Bool) (a : Zi) (b : Zm) : (Unit ⊕ Unit) → Ex × List V × Zn
  | (.inl r) => (.ret, [(.ptr 0 0), (.ptr 1 0), (.d (Zd 90))], [(.cells (dV t0 t1 t2 t3 a)), (.cells [(.d (D.list t4 (List.map Zd b.work))), (.d (D.list t5 (List.map Zd b.vals)))])])
  | (.inr r) => (.exit 2, [(.ptr 0 0), (.ptr 1 0), .bad], [(.cells (dV t0 t1 t2 t3 a)), (.cells [(.d (D.list t4 (List.map Zd b.work))), (.d (D.list t5 (List.map Zd b.vals)))])])
theorem Zlg {t0 : Bool} {t1 : Bool} {t2 : Bool} {t3 : Bool} {t4 : Bool} {t5 : Bool} {a : Zi} {b : Zm} : ∀ (s5 : Int) (r : (Unit ⊕ Unit)), lp (ZdC a b) s5 = some r → lpW ctx 0 [2, 3, 7] [2, 3, 4] Zv9 [(.ptr 0 0), (.ptr 1 0), (.d (Zd s5))] [(.cells (dV t0 t1 t2 t3 a)), (.cells [(.d (D.list t4 (List.map Zd b.work))), (.d (D.list t5 (List.map Zd b.vals)))])] = some ((Zhx t0 t1 t2 t3 t4 t5 a b) r) := by
 refine Zaf (Zhx t0 t1 t2 t3 t4 t5 a b) ?_
 intro s5 rcl ih
 show ZD _ _ (lpW _ _ _ _ _ _ _)
 unfold ZdC
 rw [Zag]
 conv => arg 3; whnf
 refine Zl (Zy _ _) ?_
 conv => arg 3; whnf
 refine Zc rfl ?_ ?_
 ·conv => arg 3; whnf
  refine Zj rfl rfl fun x6 hx6 => ?_
  conv => arg 3; whnf
  refine Zc rfl ?_ ?_
  ·conv => arg 3; whnf
   refine Zh _ Zim rfl fun x7 hx7 => ?_
   conv => arg 3; whnf
   refine Zc rfl ?_ ?_
   ·conv => arg 3; whnf
    exact Ze (ih _)
   ·conv => arg 3; whnf
    exact Zb rfl
  ·conv => arg 3; whnf
   exact Ze (ih _)
 ·conv => arg 3; whnf
  exact Zb rfl
def ZhI (t0 : Bool) (t1 : Bool) (t2 : Bool) (t3 : Bool) (t4 : Bool) (t5 : Bool) (a : Zi) (b : Zm) : (Unit ⊕ Unit) → Ex × List V × Zn
  | (.inl r) => (.ret, [(.d (Zd 90))], [])
  | (.inr r) => (.exit 4, [.bad], [])
theorem Zlp {t0 : Bool} {t1 : Bool} {t2 : Bool} {t3 : Bool} {t4 : Bool} {t5 : Bool} {a : Zi} {b : Zm} : ∀ (s9 : Int) (r : (Unit ⊕ Unit)), lp (ZdI a b) s9 = some r → lpW ctx 0 [2, 3, 8] [4] Zww [(.ptr 0 0), (.ptr 1 0), (.d (Zd s9))] [(.cells (dV t0 t1 t2 t3 a)), (.cells [(.d (D.list t4 (List.map Zd b.work))), (.d (D.list t5 (List.map Zd b.vals)))])] = some ((ZhI t0 t1 t2 t3 t4 t5 a b) r) := by
 refine Zaf (ZhI t0 t1 t2 t3 t4 t5 a b) ?_
 intro s9 rcl ih
 show ZD _ _ (lpW _ _ _ _ _ _ _)
 unfold ZdI
 rw [Zag]
 conv => arg 3; whnf
 refine Zl (Zy _ _) ?_
 conv => arg 3; whnf
 refine Zc rfl ?_ ?_
 ·conv => arg 3; whnf
  refine Zj rfl rfl fun x10 hx10 => ?_
  conv => arg 3; whnf
  refine Zj rfl rfl fun x11 hx11 => ?_
  conv => arg 3; whnf
  refine Zg (ZaI rfl hx10) ?_
  conv => arg 3; whnf
  refine Zc rfl ?_ ?_
  ·conv => arg 3; whnf
   refine Zg (ZaI rfl hx10) ?_
   conv => arg 3; whnf
   refine Zh _ Zd0 rfl fun x12 hx12 => ?_
   conv => arg 3; whnf
   refine Zc rfl ?_ ?_
   ·conv => arg 3; whnf
    exact Ze (ih _)
   ·conv => arg 3; whnf
    exact Zb rfl
  ·conv => arg 3; whnf
   exact Ze (ih _)
 ·conv => arg 3; whnf
  exact Zb rfl
theorem ZiE {t0 : Bool} {t1 : Bool} {t2 : Bool} {t3 : Bool} {t4 : Bool} {t5 : Bool} {a : Zi} {b : Zm} : ∀ r, (ZeV a b) = some r → evD ctx 27 [(.d (D.agg (dA t0 t1 t2 t3 a))), (.d (D.agg [(D.list t4 (List.map Zd b.work)), (D.list t5 (List.map Zd b.vals))]))] = some (ZjV r) := by
 show ZD _ (fun r rhs => rhs = some (ZjV r)) _
 unfold ZeV
 rw [Zak ctx 27 Zy6 _ rfl rfl]
 conv => arg 3; whnf
 refine Zh _ ZnC rfl fun x0 hx0 => ?_
 conv => arg 3; whnf
 refine Zc rfl ?_ ?_
 ·conv => arg 3; whnf
  exact Zb rfl
 ·conv => arg 3; whnf
  refine Zl (Zy _ _) ?_
  conv => arg 3; whnf
  refine Zl (Zy _ _) ?_
  conv => arg 3; whnf
  refine Zc rfl ?_ ?_
  ·conv => arg 3; whnf
   exact Zb rfl
  ·conv => arg 3; whnf
   refine Zl (Zy _ _) ?_
   conv => arg 3; whnf
   refine Zl (Zy _ _) ?_
   conv => arg 3; whnf
   refine Zc rfl ?_ ?_
   ·conv => arg 3; whnf
    exact Zb rfl
   ·conv => arg 3; whnf
    refine Zf _ (Zlh _) fun r4 hr4 => ?_
    clear hr4
    rcases r4 with r4 | r4
    ·conv => arg 3; whnf
     exact Zb rfl
    ·conv => arg 3; whnf
     refine Zf _ (Zlg _) fun r8 hr8 => ?_
     clear hr8
     rcases r8 with r8 | r8
     ·conv => arg 3; whnf
      exact Zb rfl
     ·conv => arg 3; whnf
      refine Zf _ (Zlp _) fun r13 hr13 => ?_
      clear hr13
      rcases r13 with r13 | r13
      ·conv => arg 3; whnf
       exact Zb rfl
      ·conv => arg 3; whnf
       exact Zb rfl
def ZkH (r : Bool) : D := (D.bool r)
def Zia (t0 : Bool) (t1 : Bool) (t2 : Bool) (t3 : Bool) (t4 : Bool) (t5 : Bool) (a : Zi) (b : Zm) (c : Int) : (Unit ⊕ Unit) → Ex × List V × Zn
  | (.inl r) => (.ret, [(.d (Zd c)), (.ptr 0 0), (.ptr 1 0), (.d (D.bool false))], [(.cells (dV t0 t1 t2 t3 a)), (.cells [(.d (D.list t4 (List.map Zd b.work))), (.d (D.list t5 (List.map Zd b.vals)))])])
  | (.inr r) => (.exit 0, [(.d (Zd c)), (.ptr 0 0), (.ptr 1 0), .bad], [(.cells (dV t0 t1 t2 t3 a)), (.cells [(.d (D.list t4 (List.map Zd b.work))), (.d (D.list t5 (List.map Zd b.vals)))])])
theorem Zmb {t0 : Bool} {t1 : Bool} {t2 : Bool} {t3 : Bool} {t4 : Bool} {t5 : Bool} {a : Zi} {b : Zm} {c : Int} : ∀ (s0 : Int) (r : (Unit ⊕ Unit)), lp (Zd2 a b c) s0 = some r → lpW ctx 0 [2, 3, 4, 7] [2, 3, 4, 6] Zu3 [(.d (Zd c)), (.ptr 0 0), (.ptr 1 0), (.d (Zd s0))] [(.cells (dV t0 t1 t2 t3 a)), (.cells [(.d (D.list t4 (List.map Zd b.work))), (.d (D.list t5 (List.map Zd b.vals)))])] = some ((Zia t0 t1 t2 t3 t4 t5 a b c) r) := by
 refine Zaf (Zia t0 t1 t2 t3 t4 t5 a b c) ?_
 intro s0 rcl ih
 show ZD _ _ (lpW _ _ _ _ _ _ _)
 unfold Zd2
 rw [Zag]
 conv => arg 3; whnf
 refine Zl (Zy _ _) ?_
 conv => arg 3; whnf
 refine Zc rfl ?_ ?_
 ·conv => arg 3; whnf
  refine Zj rfl rfl fun x1 hx1 => ?_
  conv => arg 3; whnf
  refine Zc rfl ?_ ?_
  ·conv => arg 3; whnf
   refine Zj rfl rfl fun x2 hx2 => ?_
   conv => arg 3; whnf
   refine Zc rfl ?_ ?_
   ·conv => arg 3; whnf
    refine Zh _ Zd0 rfl fun x3 hx3 => ?_
    conv => arg 3; whnf
    refine Zc rfl ?_ ?_
    ·conv => arg 3; whnf
     exact Ze (ih _)
    ·conv => arg 3; whnf
     exact Zb rfl
   ·conv => arg 3; whnf
    exact Ze (ih _)
  ·conv => arg 3; whnf
   exact Ze (ih _)
 ·conv => arg 3; whnf
  exact Zb rfl
theorem ZjU {t0 : Bool} {t1 : Bool} {t2 : Bool} {t3 : Bool} {t4 : Bool} {t5 : Bool} {a : Zi} {b : Zm} {c : Int} : ∀ r, (Zfp a b c) = some r → evD ctx 51 [(.d (D.agg (dA t0 t1 t2 t3 a))), (.d (D.agg [(D.list t4 (List.map Zd b.work)), (D.list t5 (List.map Zd b.vals))])), (.d (Zd c))] = some (ZkH r) := by
 show ZD _ (fun r rhs => rhs = some (ZkH r)) _
 unfold Zfp
 rw [Zak ctx 51 Zzx _ rfl rfl]
 conv => arg 3; whnf
 refine Zf _ (Zmb _) fun r4 hr4 => ?_
 clear hr4
 rcases r4 with r4 | r4
 ·conv => arg 3; whnf
  exact Zb rfl
 ·conv => arg 3; whnf
  refine Zh _ Zd0 rfl fun x5 hx5 => ?_
  conv => arg 3; whnf
  refine Zc rfl ?_ ?_
  ·conv => arg 3; whnf
   exact Zb rfl
  ·conv => arg 3; whnf
   refine Zj rfl rfl fun x6 hx6 => ?_
   conv => arg 3; whnf
   refine Zc rfl ?_ ?_
   ·conv => arg 3; whnf
    exact Zb rfl
   ·conv => arg 3; whnf
    refine Zh _ Zim rfl fun x7 hx7 => ?_
    conv => arg 3; whnf
    refine Zc rfl ?_ ?_
    ·conv => arg 3; whnf
     exact Zb rfl
    ·conv => arg 3; whnf
     exact Zb rfl
def ZhX (r : (List Int)) : D := (D.list true (List.map Zd r))
def ZgC (t0 : Bool) (t1 : Bool) (t2 : Bool) (t3 : Bool) (a : Zi) (b : Int) (s0 : Int × (List Int)) : (List Int) → Ex × List V × Zn
  | r => (.exit 2, [(.d (Zd b)), (.ptr 0 0), (.sl 1 1), (.d (Zd s0.1))], [(.cells (dV t0 t1 t2 t3 a)), (.arr 1 (List.map Zd r))])
theorem Zj3 {t0 : Bool} {t1 : Bool} {t2 : Bool} {t3 : Bool} {a : Zi} {b : Int} {s0 : Int × (List Int)} : ∀ (s1 : Int × (List Int)) (r : (List Int)), lp (Zcd a b s0) s1 = some r → lpW ctx 0 [1, 2, 5, 6, 7] [1, 2, 5, 6] Zt6 [(.d (Zd b)), (.ptr 0 0), (.sl 1 1), (.d (Zd s0.1)), (.d (Zd s1.1))] [(.cells (dV t0 t1 t2 t3 a)), (.arr 1 (List.map Zd s1.2))] = some ((ZgC t0 t1 t2 t3 a b s0) r) := by
 refine Zaf (ZgC t0 t1 t2 t3 a b s0) ?_
 intro s1 rcl ih
 show ZD _ _ (lpW _ _ _ _ _ _ _)
 unfold Zcd
 rw [Zag]
 conv => arg 3; whnf
 refine Zl (Zy _ _) ?_
 conv => arg 3; whnf
 refine Zc rfl ?_ ?_
 ·conv => arg 3; whnf
  refine Zj rfl rfl fun x2 hx2 => ?_
  conv => arg 3; whnf
  refine Zc rfl ?_ ?_
  ·conv => arg 3; whnf
   refine Zg (ZaI rfl hx2) ?_
   conv => arg 3; whnf
   refine Zc rfl ?_ ?_
   ·conv => arg 3; whnf
    refine Zbb rfl ?_
    conv => arg 3; whnf
    refine Zc (ZfO Zd s1.2 1) ?_ ?_
    ·conv => arg 3; whnf
     refine Zl (Zft Zd s1.2 [s1.1]) ?_
     conv => arg 3; whnf
     exact Ze (ih _)
    ·exact Z8
   ·conv => arg 3; whnf
    exact Ze (ih _)
  ·conv => arg 3; whnf
   exact Ze (ih _)
 ·conv => arg 3; whnf
  exact Zb rfl
def ZgB (t0 : Bool) (t1 : Bool) (t2 : Bool) (t3 : Bool) (a : Zi) (b : Int) : (List Int) → Ex × List V × Zn
  | r => (.exit 0, [(.sl 0 1)], [(.arr 1 (List.map Zd r))])
theorem Zj5 {t0 : Bool} {t1 : Bool} {t2 : Bool} {t3 : Bool} {a : Zi} {b : Int} : ∀ (s0 : Int × (List Int)) (r : (List Int)), lp (ZdU a b) s0 = some r → lpW ctx 0 [1, 2, 5, 6] [5] ZtE [(.d (Zd b)), (.ptr 0 0), (.sl 1 1), (.d (Zd s0.1))] [(.cells (dV t0 t1 t2 t3 a)), (.arr 1 (List.map Zd s0.2))] = some ((ZgB t0 t1 t2 t3 a b) r) := by
 refine Zaf (ZgB t0 t1 t2 t3 a b) ?_
 intro s0 rcl ih
 show ZD _ _ (lpW _ _ _ _ _ _ _)
 unfold ZdU
 rw [Zag]
 conv => arg 3; whnf
 refine Zc rfl ?_ ?_
 ·conv => arg 3; whnf
  refine Zf _ (Zj3 _) fun r3 hr3 => ?_
  conv => arg 3; whnf
  exact Ze (ih _)
 ·conv => arg 3; whnf
  exact Zb rfl
theorem Zmf {t0 : Bool} {t1 : Bool} {t2 : Bool} {t3 : Bool} {a : Zi} {b : Int} : ∀ r, (ZeS a b) = some r → evD ctx 106 [(.d (D.agg (dA t0 t1 t2 t3 a))), (.d (Zd b))] = some (ZhX r) := by
 show ZD _ (fun r rhs => rhs = some (ZhX r)) _
 unfold ZeS
 rw [Zak ctx 106 ZvY _ rfl rfl]
 conv => arg 3; whnf
 refine Zf _ (Zj5 _) fun r4 hr4 => ?_
 conv => arg 3; whnf
 exact Zb rfl
def ZjS (r : (List Int)) : D := (D.list true (List.map Zd r))
def Zhy (t0 : Bool) (t1 : Bool) (t2 : Bool) (t3 : Bool) (a : Zi) (b : Int) : (List Int) → Ex × List V × Zn
  | r => (.exit 0, [(.d (Zd b)), (.ptr 0 0), (.sl 1 1)], [(.cells (dV t0 t1 t2 t3 a)), (.arr 1 (List.map Zd r))])
theorem Zlc {t0 : Bool} {t1 : Bool} {t2 : Bool} {t3 : Bool} {a : Zi} {b : Int} : ∀ (s0 : Int × (List Int)) (r : (List Int)), lp (Zfq a b) s0 = some r → lpW ctx 0 [1, 2, 5, 6] [1, 2, 5] Zvi [(.d (Zd b)), (.ptr 0 0), (.sl 1 1), (.d (Zd s0.1))] [(.cells (dV t0 t1 t2 t3 a)), (.arr 1 (List.map Zd s0.2))] = some ((Zhy t0 t1 t2 t3 a b) r) := by
 refine Zaf (Zhy t0 t1 t2 t3 a b) ?_
 intro s0 rcl ih
 show ZD _ _ (lpW _ _ _ _ _ _ _)
 unfold Zfq
 rw [Zag]
 conv => arg 3; whnf
 refine Zl (Zy _ _) ?_
 conv => arg 3; whnf
 refine Zc rfl ?_ ?_
 ·conv => arg 3; whnf
  refine Zj rfl rfl fun x1 hx1 => ?_
  conv => arg 3; whnf
  refine Zc rfl ?_ ?_
  ·conv => arg 3; whnf
   refine Zg (ZaI rfl hx1) ?_
   conv => arg 3; whnf
   refine Zbb rfl ?_
   conv => arg 3; whnf
   refine Zc (ZfO Zd s0.2 1) ?_ ?_
   ·conv => arg 3; whnf
    refine Zl (Zft Zd s0.2 [x1.src]) ?_
    conv => arg 3; whnf
    exact Ze (ih _)
   ·exact Z8
  ·conv => arg 3; whnf
   exact Ze (ih _)
 ·conv => arg 3; whnf
  exact Zb rfl
def ZhH (t0 : Bool) (t1 : Bool) (t2 : Bool) (t3 : Bool) (a : Zi) (x3 : (List Int)) : (List Int) → Ex × List V × Zn
  | r => (.exit 2, [(.sl 0 1)], [(.arr 1 (List.map Zd r))])
theorem Zlj {t0 : Bool} {t1 : Bool} {t2 : Bool} {t3 : Bool} {a : Zi} {x3 : (List Int)} : ∀ (s4 : Int × (List Int)) (r : (List Int)), lp (Zfk a x3) s4 = some r → lpW ctx 0 [2, 5, 7, 8] [5] ZwG [(.ptr 0 0), (.sl 1 1), (.d (D.list true (List.map Zd x3))), (.d (Zd s4.1))] [(.cells (dV t0 t1 t2 t3 a)), (.arr 1 (List.map Zd s4.2))] = some ((ZhH t0 t1 t2 t3 a x3) r) := by
 refine Zaf (ZhH t0 t1 t2 t3 a x3) ?_
 intro s4 rcl ih
 show ZD _ _ (lpW _ _ _ _ _ _ _)
 unfold Zfk
 rw [Zag]
 conv => arg 3; whnf
 refine Zl (Zy _ _) ?_
 conv => arg 3; whnf
 refine Zc rfl ?_ ?_
 ·conv => arg 3; whnf
  refine Zj rfl rfl fun x5 hx5 => ?_
  conv => arg 3; whnf
  refine Zj rfl rfl fun x6 hx6 => ?_
  conv => arg 3; whnf
  refine Zbb rfl ?_
  conv => arg 3; whnf
  refine Zc (ZfO Zd s4.2 1) ?_ ?_
  ·conv => arg 3; whnf
   refine Zl (Zft Zd s4.2 [x6.maker]) ?_
   conv => arg 3; whnf
   exact Ze (ih _)
  ·exact Z8
 ·conv => arg 3; whnf
  exact Zb rfl
theorem ZnA {t0 : Bool} {t1 : Bool} {t2 : Bool} {t3 : Bool} {a : Zi} {b : Int} : ∀ r, (ZeW a b) = some r → evD ctx 79 [(.d (D.agg (dA t0 t1 t2 t3 a))), (.d (Zd b))] = some (ZjS r) := by
 show ZD _ (fun r rhs => rhs = some (ZjS r)) _
 unfold ZeW
 rw [Zak ctx 79 ZzK _ rfl rfl]
 conv => arg 3; whnf
 refine Zf _ (Zlc _) fun r2 hr2 => ?_
 conv => arg 3; whnf
 refine Zh _ Zmf rfl fun x3 hx3 => ?_
 conv => arg 3; whnf
 refine Zf _ (Zlj _) fun r7 hr7 => ?_
 conv => arg 3; whnf
 exact Zb rfl
def ZjW (r : Int) : D := (Zd r)
theorem Zaj {a : Int} : ∀ r, (Zad a) = some r → evD ctx 107 [(.d (Zd a))] = some (ZjW r) := by
 show ZD _ (fun r rhs => rhs = some (ZjW r)) _
 unfold Zad
 rw [Zak ctx 107 ZwI _ rfl rfl]
 conv => arg 3; whnf
 refine Z1 rfl ?_
 conv => arg 3; whnf
 refine Zc rfl ?_ ?_
 ·conv => arg 3; whnf
  exact Zb rfl
 ·conv => arg 3; whnf
  exact Zb rfl
def ZjM (r : Int) : D := (Zd r)
theorem Zfm {a : Int} {b : Int} : ∀ r, (Zdx a b) = some r → evD ctx 108 [(.d (Zd a)), (.d (Zd b))] = some (ZjM r) := by
 show ZD _ (fun r rhs => rhs = some (ZjM r)) _
 unfold Zdx
 rw [Zak ctx 108 ZvH _ rfl rfl]
 conv => arg 3; whnf
 refine Z1 rfl ?_
 conv => arg 3; whnf
 refine Z1 rfl ?_
 conv => arg 3; whnf
 refine Zh _ Zaj rfl fun x0 hx0 => ?_
 conv => arg 3; whnf
 refine Z1 rfl ?_
 conv => arg 3; whnf
 refine Zh _ Zaj rfl fun x1 hx1 => ?_
 conv => arg 3; whnf
 exact Zb rfl
def ZmP (r : Int) : D := (Zd r)
def ZjY (t1 : Bool) (a : ZF) (c : (List Int)) : Int → Ex × List V × Zn
  | r => (.exit 1, [(.d (Zd r))], [])
theorem Znm {t1 : Bool} {a : ZF} {c : (List Int)} : ∀ (s3 : Int × Int) (r : Int), lp (Zit a c) s3 = some r → lpW ctx 0 [2, 3, 7, 8] [7] Zor [(.d (D.list t1 (List.map Zd c))), (.ptr 0 0), (.d (Zd s3.1)), (.d (Zd s3.2))] [(.cells [(.d (Zd a.op)), (.d (Zd a.arg)), (.d (Zd a.work))])] = some ((ZjY t1 a c) r) := by
 refine Zaf (ZjY t1 a c) ?_
 intro s3 rcl ih
 show ZD _ _ (lpW _ _ _ _ _ _ _)
 unfold Zit
 rw [Zag]
 conv => arg 3; whnf
 refine Zl (Zy _ _) ?_
 conv => arg 3; whnf
 refine Zc rfl ?_ ?_
 ·conv => arg 3; whnf
  refine Zj rfl rfl fun x4 hx4 => ?_
  conv => arg 3; whnf
  refine Zh _ Zaj rfl fun x5 hx5 => ?_
  conv => arg 3; whnf
  refine Zc rfl ?_ ?_
  ·conv => arg 3; whnf
   refine Zh _ Zaj rfl fun x6 hx6 => ?_
   conv => arg 3; whnf
   exact Ze (ih _)
  ·conv => arg 3; whnf
   refine Zc rfl ?_ ?_
   ·conv => arg 3; whnf
    refine Zh _ Zfm rfl fun x7 hx7 => ?_
    conv => arg 3; whnf
    exact Ze (ih _)
   ·conv => arg 3; whnf
    refine Zc rfl ?_ ?_
    ·conv => arg 3; whnf
     exact Ze (ih _)
    ·conv => arg 3; whnf
     refine Zc rfl ?_ ?_
     ·conv => arg 3; whnf
      refine Zh _ Zaj rfl fun x8 hx8 => ?_
      conv => arg 3; whnf
      exact Ze (ih _)
     ·conv => arg 3; whnf
      exact Ze (ih _)
 ·conv => arg 3; whnf
  exact Zb rfl
def Zio (t1 : Bool) (a : ZF) (c : (List Int)) : Int → Ex × List V × Zn
  | r => (.exit 1, [(.d (Zd r))], [])
theorem ZlV {t1 : Bool} {a : ZF} {c : (List Int)} : ∀ (s10 : Int × Int) (r : Int), lp (Zc9 a c) s10 = some r → lpW ctx 0 [2, 3, 7, 8] [7] Zor [(.d (D.list t1 (List.map Zd c))), (.ptr 0 0), (.d (Zd s10.1)), (.d (Zd s10.2))] [(.cells [(.d (Zd a.op)), (.d (Zd a.arg)), (.d (Zd a.work))])] = some ((Zio t1 a c) r) := by
 refine Zaf (Zio t1 a c) ?_
 intro s10 rcl ih
 show ZD _ _ (lpW _ _ _ _ _ _ _)
 unfold Zc9
 rw [Zag]
 conv => arg 3; whnf
 refine Zl (Zy _ _) ?_
 conv => arg 3; whnf
 refine Zc rfl ?_ ?_
 ·conv => arg 3; whnf
  refine Zj rfl rfl fun x11 hx11 => ?_
  conv => arg 3; whnf
  refine Zh _ Zaj rfl fun x12 hx12 => ?_
  conv => arg 3; whnf
  refine Zc rfl ?_ ?_
  ·conv => arg 3; whnf
   refine Zh _ Zaj rfl fun x13 hx13 => ?_
   conv => arg 3; whnf
   exact Ze (ih _)
  ·conv => arg 3; whnf
   refine Zc rfl ?_ ?_
   ·conv => arg 3; whnf
    refine Zh _ Zfm rfl fun x14 hx14 => ?_
    conv => arg 3; whnf
    exact Ze (ih _)
   ·conv => arg 3; whnf
    refine Zc rfl ?_ ?_
    ·conv => arg 3; whnf
     exact Ze (ih _)
    ·conv => arg 3; whnf
     refine Zc rfl ?_ ?_
     ·conv => arg 3; whnf
      refine Zh _ Zaj rfl fun x15 hx15 => ?_
      conv => arg 3; whnf
      exact Ze (ih _)
     ·conv => arg 3; whnf
      exact Ze (ih _)
 ·conv => arg 3; whnf
  exact Zb rfl
def ZhV (t1 : Bool) (a : ZF) (c : (List Int)) : Int → Ex × List V × Zn
  | r => (.exit 1, [(.d (Zd r))], [])
theorem Zl6 {t1 : Bool} {a : ZF} {c : (List Int)} : ∀ (s17 : Int × Int) (r : Int), lp (Zda a c) s17 = some r → lpW ctx 0 [2, 3, 7, 8] [7] Zor [(.d (D.list t1 (List.map Zd c))), (.ptr 0 0), (.d (Zd s17.1)), (.d (Zd s17.2))] [(.cells [(.d (Zd a.op)), (.d (Zd a.arg)), (.d (Zd a.work))])] = some ((ZhV t1 a c) r) := by
 refine Zaf (ZhV t1 a c) ?_
 intro s17 rcl ih
 show ZD _ _ (lpW _ _ _ _ _ _ _)
 unfold Zda
 rw [Zag]
 conv => arg 3; whnf
 refine Zl (Zy _ _) ?_
 conv => arg 3; whnf
 refine Zc rfl ?_ ?_
 ·conv => arg 3; whnf
  refine Zj rfl rfl fun x18 hx18 => ?_
  conv => arg 3; whnf
  refine Zh _ Zaj rfl fun x19 hx19 => ?_
  conv => arg 3; whnf
  refine Zc rfl ?_ ?_
  ·conv => arg 3; whnf
   refine Zh _ Zaj rfl fun x20 hx20 => ?_
   conv => arg 3; whnf
   exact Ze (ih _)
  ·conv => arg 3; whnf
   refine Zc rfl ?_ ?_
   ·conv => arg 3; whnf
    refine Zh _ Zfm rfl fun x21 hx21 => ?_
    conv => arg 3; whnf
    exact Ze (ih _)
   ·conv => arg 3; whnf
    refine Zc rfl ?_ ?_
    ·conv => arg 3; whnf
     exact Ze (ih _)
    ·conv => arg 3; whnf
     refine Zc rfl ?_ ?_
     ·conv => arg 3; whnf
      refine Zh _ Zaj rfl fun x22 hx22 => ?_
      conv => arg 3; whnf
      exact Ze (ih _)
     ·conv => arg 3; whnf
      exact Ze (ih _)
 ·conv => arg 3; whnf
  exact Zb rfl
def Zij (t1 : Bool) (a : ZF) (c : (List Int)) : Int → Ex × List V × Zn
  | r => (.exit 1, [(.d (Zd r))], [])
theorem Zme {t1 : Bool} {a : ZF} {c : (List Int)} : ∀ (s24 : Int × Int) (r : Int), lp (Zbk a c) s24 = some r → lpW ctx 0 [2, 3, 7, 8] [7] Zor [(.d (D.list t1 (List.map Zd c))), (.ptr 0 0), (.d (Zd s24.1)), (.d (Zd s24.2))] [(.cells [(.d (Zd a.op)), (.d (Zd a.arg)), (.d (Zd a.work))])] = some ((Zij t1 a c) r) := by
 refine Zaf (Zij t1 a c) ?_
 intro s24 rcl ih
 show ZD _ _ (lpW _ _ _ _ _ _ _)
 unfold Zbk
 rw [Zag]
 conv => arg 3; whnf
 refine Zl (Zy _ _) ?_
 conv => arg 3; whnf
 refine Zc rfl ?_ ?_
 ·conv => arg 3; whnf
  refine Zj rfl rfl fun x25 hx25 => ?_
  conv => arg 3; whnf
  refine Zh _ Zaj rfl fun x26 hx26 => ?_
  conv => arg 3; whnf
  refine Zc rfl ?_ ?_
  ·conv => arg 3; whnf
   refine Zh _ Zaj rfl fun x27 hx27 => ?_
   conv => arg 3; whnf
   exact Ze (ih _)
  ·conv => arg 3; whnf
   refine Zc rfl ?_ ?_
   ·conv => arg 3; whnf
    refine Zh _ Zfm rfl fun x28 hx28 => ?_
    conv => arg 3; whnf
    exact Ze (ih _)
   ·conv => arg 3; whnf
    refine Zc rfl ?_ ?_
    ·conv => arg 3; whnf
     exact Ze (ih _)
    ·conv => arg 3; whnf
     refine Zc rfl ?_ ?_
     ·conv => arg 3; whnf
      refine Zh _ Zaj rfl fun x29 hx29 => ?_
      conv => arg 3; whnf
      exact Ze (ih _)
     ·conv => arg 3; whnf
      exact Ze (ih _)
 ·conv => arg 3; whnf
  exact Zb rfl
theorem ZpT {t0 : Bool} {t1 : Bool} {a : ZF} {b : (List Int)} {c : (List Int)} : ∀ r, (ZhA a b c) = some r → evD ctx 80 [(.d (D.agg [(Zd a.op), (Zd a.arg), (Zd a.work)])), (.d (D.list t0 (List.map Zd b))), (.d (D.list t1 (List.map Zd c)))] = some (ZmP r) := by
 show ZD _ (fun r rhs => rhs = some (ZmP r)) _
 unfold ZhA
 rw [Zak ctx 80 Zzy _ rfl rfl]
 conv => arg 3; whnf
 refine Zc rfl ?_ ?_
 ·conv => arg 3; whnf
  refine Zc rfl ?_ ?_
  ·conv => arg 3; whnf
   exact Zb rfl
  ·conv => arg 3; whnf
   refine Zl (Zy _ _) ?_
   conv => arg 3; whnf
   refine Zc rfl ?_ ?_
   ·conv => arg 3; whnf
    exact Zb rfl
   ·conv => arg 3; whnf
    refine Zj rfl rfl fun x0 hx0 => ?_
    conv => arg 3; whnf
    refine Zh _ Zaj rfl fun x1 hx1 => ?_
    conv => arg 3; whnf
    exact Zb rfl
 ·conv => arg 3; whnf
  refine Zc rfl ?_ ?_
  ·conv => arg 3; whnf
   refine Zh _ Zaj rfl fun x2 hx2 => ?_
   conv => arg 3; whnf
   exact Zb rfl
  ·conv => arg 3; whnf
   refine Zc rfl ?_ ?_
   ·conv => arg 3; whnf
    exact Zb rfl
   ·conv => arg 3; whnf
    refine Zc rfl ?_ ?_
    ·conv => arg 3; whnf
     exact Zb rfl
    ·conv => arg 3; whnf
     refine Zc rfl ?_ ?_
     ·conv => arg 3; whnf
      refine Zc rfl ?_ ?_
      ·conv => arg 3; whnf
       refine Zf _ (Znm _) fun r9 hr9 => ?_
       conv => arg 3; whnf
       exact Zb rfl
      ·conv => arg 3; whnf
       refine Zf _ (ZlV _) fun r16 hr16 => ?_
       conv => arg 3; whnf
       exact Zb rfl
     ·conv => arg 3; whnf
      refine Zc rfl ?_ ?_
      ·conv => arg 3; whnf
       refine Zf _ (Zl6 _) fun r23 hr23 => ?_
       conv => arg 3; whnf
       exact Zb rfl
      ·conv => arg 3; whnf
       refine Zf _ (Zme _) fun r30 hr30 => ?_
       conv => arg 3; whnf
       exact Zb rfl
def Zkk (r : Zm) : D := (D.agg [(D.list true (List.map Zd r.work)), (D.list true (List.map Zd r.vals))])
def Zh9 (t0 : Bool) (t1 : Bool) (t2 : Bool) (t3 : Bool) (t4 : Bool) (a : Zi) (b : (List Int)) (c : Zm) (d : Int) (x0 : Int) (x2 : (List Int)) : (List Int) → Ex × List V × Zn
  | r => (.exit 0, [(.d (D.list t4 (List.map Zd b))), (.d (Zd d)), (.ptr 0 0), (.ptr 1 0), (.ptr 2 0), (.sl 3 1)], [(.cells (dV t0 t1 t2 t3 a)), (.cells [(.sl 4 1), (.sl 5 1)]), (.cells [(.sl 6 1), (.sl 7 1)]), (.arr 1 (List.map Zd r)), (.arr 1 []), (.arr 1 []), (.arr 1 (List.map Zd (List.set c.work d.toNat (w64 (x0 + 1))))), (.arr 1 (List.map Zd c.vals))])
theorem ZlO {t0 : Bool} {t1 : Bool} {t2 : Bool} {t3 : Bool} {t4 : Bool} {a : Zi} {b : (List Int)} {c : Zm} {d : Int} {x0 : Int} {x2 : (List Int)} : ∀ (s3 : Int × (List Int)) (r : (List Int)), lp (ZfM c x2) s3 = some r → lpW ctx 0 [1, 3, 4, 8, 9, 10, 11, 12] [1, 3, 4, 8, 9, 10] Zvt [(.d (D.list t4 (List.map Zd b))), (.d (Zd d)), (.ptr 0 0), (.ptr 1 0), (.ptr 2 0), (.sl 3 1), (.d (D.list true (List.map Zd x2))), (.d (Zd s3.1))] [(.cells (dV t0 t1 t2 t3 a)), (.cells [(.sl 4 1), (.sl 5 1)]), (.cells [(.sl 6 1), (.sl 7 1)]), (.arr 1 (List.map Zd s3.2)), (.arr 1 []), (.arr 1 []), (.arr 1 (List.map Zd (List.set c.work d.toNat (w64 (x0 + 1))))), (.arr 1 (List.map Zd c.vals))] = some ((Zh9 t0 t1 t2 t3 t4 a b c d x0 x2) r) := by
 refine Zaf (Zh9 t0 t1 t2 t3 t4 a b c d x0 x2) ?_
 intro s3 rcl ih
 show ZD _ _ (lpW _ _ _ _ _ _ _)
 unfold ZfM
 rw [Zag]
 conv => arg 3; whnf
 refine Zl (Zy _ _) ?_
 conv => arg 3; whnf
 refine Zc rfl ?_ ?_
 ·conv => arg 3; whnf
  refine Zj rfl rfl fun x4 hx4 => ?_
  conv => arg 3; whnf
  refine Zj rfl rfl fun x5 hx5 => ?_
  conv => arg 3; whnf
  refine Zg (Zv rfl hx5) ?_
  conv => arg 3; whnf
  refine Zbb rfl ?_
  conv => arg 3; whnf
  refine Zc (ZfO Zd s3.2 1) ?_ ?_
  ·conv => arg 3; whnf
   refine Zl (Zft Zd s3.2 [x5]) ?_
   conv => arg 3; whnf
   exact Ze (ih _)
  ·exact Z8
 ·conv => arg 3; whnf
  exact Zb rfl
theorem ZnW {t0 : Bool} {t1 : Bool} {t2 : Bool} {t3 : Bool} {t4 : Bool} {t5 : Bool} {t6 : Bool} {a : Zi} {b : (List Int)} {c : Zm} {d : Int} : ∀ r, (Zf4 a b c d) = some r → evD ctx 52 [(.d (D.agg (dA t0 t1 t2 t3 a))), (.d (D.list t4 (List.map Zd b))), (.d (D.agg [(D.list t5 (List.map Zd c.work)), (D.list t6 (List.map Zd c.vals))])), (.d (Zd d))] = some (Zkk r) := by
 show ZD _ (fun r rhs => rhs = some (Zkk r)) _
 unfold Zf4
 rw [Zak ctx 52 ZzG _ rfl rfl]
 conv => arg 3; whnf
 refine Zbb (ZeQ (f := Zd) (fun _ => ⟨rfl, rfl⟩) c.work 0) ?_
 conv => arg 3; whnf
 refine Zc (Zff Zd c.work) ?_ ?_
 ·conv => arg 3; whnf
  refine Zl (rfl : _ = List.map Zd c.work) ?_
  conv => arg 3; whnf
  refine Zbb (ZeQ (f := Zd) (fun _ => ⟨rfl, rfl⟩) c.vals 0) ?_
  conv => arg 3; whnf
  refine Zc (Zff Zd c.vals) ?_ ?_
  ·conv => arg 3; whnf
   refine Zl (rfl : _ = List.map Zd c.vals) ?_
   conv => arg 3; whnf
   refine Zj rfl rfl fun x0 hx0 => ?_
   conv => arg 3; whnf
   refine Zg (Zv rfl hx0) ?_
   conv => arg 3; whnf
   refine Zg (ZaI rfl hx0) ?_
   conv => arg 3; whnf
   refine Zg (Zv rfl hx0) ?_
   conv => arg 3; whnf
   refine Zl (Zar Zd c.work d.toNat (w64 (x0 + 1))) ?_
   conv => arg 3; whnf
   refine Zh _ Zd0 rfl fun x1 hx1 => ?_
   conv => arg 3; whnf
   refine Zc rfl ?_ ?_
   ·conv => arg 3; whnf
    refine Zh _ ZnA rfl fun x2 hx2 => ?_
    conv => arg 3; whnf
    refine Zf _ (ZlO _) fun r6 hr6 => ?_
    conv => arg 3; whnf
    refine Zj rfl rfl fun x7 hx7 => ?_
    conv => arg 3; whnf
    refine Zh _ ZpT rfl fun x8 hx8 => ?_
    conv => arg 3; whnf
    refine Zj rfl rfl fun x9 hx9 => ?_
    conv => arg 3; whnf
    refine Zg (Zv rfl hx9) ?_
    conv => arg 3; whnf
    refine Zl (Zar Zd c.vals d.toNat x8) ?_
    conv => arg 3; whnf
    exact Zb rfl
   ·conv => arg 3; whnf
    exact Zb rfl
  ·exact Z8
 ·exact Z8
def ZmB (r : (Zm × Int)) : D := (D.tup [(D.agg [(D.list true (List.map Zd r.1.work)), (D.list true (List.map Zd r.1.vals))]), (Zd r.2)])
theorem ZpU {t0 : Bool} {t1 : Bool} {t2 : Bool} {t3 : Bool} {t4 : Bool} {t5 : Bool} {t6 : Bool} {a : Zi} {b : (List Int)} {c : Zm} {d : Int} : ∀ r, (ZhD a b c d) = some r → evD ctx 26 [(.d (D.agg (dA t0 t1 t2 t3 a))), (.d (D.list t4 (List.map Zd b))), (.d (D.agg [(D.list t5 (List.map Zd c.work)), (D.list t6 (List.map Zd c.vals))])), (.d (Zd d))] = some (ZmB r) := by
 show ZD _ (fun r rhs => rhs = some (ZmB r)) _
 unfold ZhD
 rw [Zak ctx 26 ZzN _ rfl rfl]
 conv => arg 3; whnf
 refine Zh _ ZiE rfl fun x0 hx0 => ?_
 conv => arg 3; whnf
 refine Zc rfl ?_ ?_
 ·conv => arg 3; whnf
  exact Zb rfl
 ·conv => arg 3; whnf
  refine Zh _ Zd8 rfl fun x1 hx1 => ?_
  conv => arg 3; whnf
  refine Zc rfl ?_ ?_
  ·conv => arg 3; whnf
   refine Zh _ Zd0 rfl fun x2 hx2 => ?_
   conv => arg 3; whnf
   refine Zc rfl ?_ ?_
   ·conv => arg 3; whnf
    exact Zb rfl
   ·conv => arg 3; whnf
    refine Zh _ ZjU rfl fun x3 hx3 => ?_
    conv => arg 3; whnf
    refine Zc rfl ?_ ?_
    ·conv => arg 3; whnf
     refine Zh _ ZnW rfl fun x4 hx4 => ?_
     conv => arg 3; whnf
     exact Zb rfl
    ·conv => arg 3; whnf
     exact Zb rfl
  ·conv => arg 3; whnf
   exact Zb rfl
def Zke (r : (List Int)) : D := (D.list true (List.map Zd r))
def Zic (t0 : Bool) (t1 : Bool) (t2 : Bool) (t3 : Bool) (t4 : Bool) (t5 : Bool) (a : Zi) (b : Zm) : (List Int) → Ex × List V × Zn
  | r => (.exit 0, [(.sl 0 1)], [(.arr 1 (List.map Zd r))])
theorem Zl2 {t0 : Bool} {t1 : Bool} {t2 : Bool} {t3 : Bool} {t4 : Bool} {t5 : Bool} {a : Zi} {b : Zm} : ∀ (s0 : Int × (List Int)) (r : (List Int)), lp (Zd9 a b) s0 = some r → lpW ctx 0 [2, 3, 5, 9, 10] [5] Zxf [(.ptr 0 0), (.ptr 1 0), (.sl 2 1), (.d (Zd (a.parts.length : Int))), (.d (Zd s0.1))] [(.cells (dV t0 t1 t2 t3 a)), (.cells [(.d (D.list t4 (List.map Zd b.work))), (.d (D.list t5 (List.map Zd b.vals)))]), (.arr 1 (List.map Zd s0.2))] = some ((Zic t0 t1 t2 t3 t4 t5 a b) r) := by
 refine Zaf (Zic t0 t1 t2 t3 t4 t5 a b) ?_
 intro s0 rcl ih
 show ZD _ _ (lpW _ _ _ _ _ _ _)
 unfold Zd9
 rw [Zag]
 conv => arg 3; whnf
 refine Zc rfl ?_ ?_
 ·conv => arg 3; whnf
  refine Zh _ Zgl rfl fun x1 hx1 => ?_
  conv => arg 3; whnf
  refine Zc rfl ?_ ?_
  ·conv => arg 3; whnf
   refine Zbb rfl ?_
   conv => arg 3; whnf
   refine Zc (ZfO Zd s0.2 1) ?_ ?_
   ·conv => arg 3; whnf
    refine Zl (Zft Zd s0.2 [s0.1]) ?_
    conv => arg 3; whnf
    exact Ze (ih _)
   ·exact Z8
  ·conv => arg 3; whnf
   exact Ze (ih _)
 ·conv => arg 3; whnf
  exact Zb rfl
theorem Zn0 {t0 : Bool} {t1 : Bool} {t2 : Bool} {t3 : Bool} {t4 : Bool} {t5 : Bool} {a : Zi} {b : Zm} : ∀ r, (Zgh a b) = some r → evD ctx 54 [(.d (D.agg (dA t0 t1 t2 t3 a))), (.d (D.agg [(D.list t4 (List.map Zd b.work)), (D.list t5 (List.map Zd b.vals))]))] = some (Zke r) := by
 show ZD _ (fun r rhs => rhs = some (Zke r)) _
 unfold Zgh
 rw [Zak ctx 54 ZyV _ rfl rfl]
 conv => arg 3; whnf
 refine Zl (Zy _ _) ?_
 conv => arg 3; whnf
 refine Zf _ (Zl2 _) fun r2 hr2 => ?_
 conv => arg 3; whnf
 exact Zb rfl
def ZkJ (r : (List Int)) : D := (D.list true (List.map Zd r))
theorem ZnY {t0 : Bool} {t1 : Bool} {t2 : Bool} {t3 : Bool} {t4 : Bool} {t5 : Bool} {a : Zi} {b : Zm} : ∀ r, (Zf6 a b) = some r → evD ctx 28 [(.d (D.agg (dA t0 t1 t2 t3 a))), (.d (D.agg [(D.list t4 (List.map Zd b.work)), (D.list t5 (List.map Zd b.vals))]))] = some (ZkJ r) := by
 show ZD _ (fun r rhs => rhs = some (ZkJ r)) _
 unfold Zf6
 rw [Zak ctx 28 ZzX _ rfl rfl]
 conv => arg 3; whnf
 refine Zh _ Zc6 rfl fun x0 hx0 => ?_
 conv => arg 3; whnf
 refine Zc rfl ?_ ?_
 ·conv => arg 3; whnf
  exact Zb rfl
 ·conv => arg 3; whnf
  refine Zh _ Zn0 rfl fun x1 hx1 => ?_
  conv => arg 3; whnf
  exact Zb rfl
def Zls (r : (List Int)) : D := (D.list true (List.map Zd r))
def Ziy (t0 : Bool) (t1 : Bool) (t2 : Bool) (t3 : Bool) (t4 : Bool) (t5 : Bool) (a : Zi) (b : Zm) : (List Int) → Ex × List V × Zn
  | r => (.exit 0, [(.sl 0 1)], [(.arr 1 (List.map Zd r))])
theorem Zmx {t0 : Bool} {t1 : Bool} {t2 : Bool} {t3 : Bool} {t4 : Bool} {t5 : Bool} {a : Zi} {b : Zm} : ∀ (s0 : Int × (List Int)) (r : (List Int)), lp (Zeu a b) s0 = some r → lpW ctx 0 [2, 3, 5, 6] [5] ZwU [(.ptr 0 0), (.ptr 1 0), (.sl 2 1), (.d (Zd s0.1))] [(.cells (dV t0 t1 t2 t3 a)), (.cells [(.d (D.list t4 (List.map Zd b.work))), (.d (D.list t5 (List.map Zd b.vals)))]), (.arr 1 (List.map Zd s0.2))] = some ((Ziy t0 t1 t2 t3 t4 t5 a b) r) := by
 refine Zaf (Ziy t0 t1 t2 t3 t4 t5 a b) ?_
 intro s0 rcl ih
 show ZD _ _ (lpW _ _ _ _ _ _ _)
 unfold Zeu
 rw [Zag]
 conv => arg 3; whnf
 refine Zl (Zy _ _) ?_
 conv => arg 3; whnf
 refine Zc rfl ?_ ?_
 ·conv => arg 3; whnf
  refine Zh _ ZjU rfl fun x1 hx1 => ?_
  conv => arg 3; whnf
  refine Zc rfl ?_ ?_
  ·conv => arg 3; whnf
   refine Zbb rfl ?_
   conv => arg 3; whnf
   refine Zc (ZfO Zd s0.2 1) ?_ ?_
   ·conv => arg 3; whnf
    refine Zl (Zft Zd s0.2 [s0.1]) ?_
    conv => arg 3; whnf
    exact Ze (ih _)
   ·exact Z8
  ·conv => arg 3; whnf
   exact Ze (ih _)
 ·conv => arg 3; whnf
  exact Zb rfl
theorem ZoO {t0 : Bool} {t1 : Bool} {t2 : Bool} {t3 : Bool} {t4 : Bool} {t5 : Bool} {a : Zi} {b : Zm} : ∀ r, (ZgN a b) = some r → evD ctx 29 [(.d (D.agg (dA t0 t1 t2 t3 a))), (.d (D.agg [(D.list t4 (List.map Zd b.work)), (D.list t5 (List.map Zd b.vals))]))] = some (Zls r) := by
 show ZD _ (fun r rhs => rhs = some (Zls r)) _
 unfold ZgN
 rw [Zak ctx 29 Zy1 _ rfl rfl]
 conv => arg 3; whnf
 refine Zf _ (Zmx _) fun r2 hr2 => ?_
 conv => arg 3; whnf
 exact Zb rfl
def Zkh (r : Bool) : D := (D.bool r)
def Zh5 (t0 : Bool) (t1 : Bool) (a : (List Int)) (b : (List Int)) : (Unit ⊕ Unit) → Ex × List V × Zn
  | (.inl r) => (.ret, [(.d (D.bool false))], [])
  | (.inr r) => (.exit 0, [.bad], [])
theorem Zl5 {t0 : Bool} {t1 : Bool} {a : (List Int)} {b : (List Int)} : ∀ (s0 : Int) (r : (Unit ⊕ Unit)), lp (Zd6 a b) s0 = some r → lpW ctx 0 [0, 1, 5] [4] Zv3 [(.d (D.list t0 (List.map Zd a))), (.d (D.list t1 (List.map Zd b))), (.d (Zd s0))] [] = some ((Zh5 t0 t1 a b) r) := by
 refine Zaf (Zh5 t0 t1 a b) ?_
 intro s0 rcl ih
 show ZD _ _ (lpW _ _ _ _ _ _ _)
 unfold Zd6
 rw [Zag]
 conv => arg 3; whnf
 refine Zl (Zy _ _) ?_
 conv => arg 3; whnf
 refine Zc rfl ?_ ?_
 ·conv => arg 3; whnf
  refine Zj rfl rfl fun x1 hx1 => ?_
  conv => arg 3; whnf
  refine Zj rfl rfl fun x2 hx2 => ?_
  conv => arg 3; whnf
  refine Zc rfl ?_ ?_
  ·conv => arg 3; whnf
   exact Zb rfl
  ·conv => arg 3; whnf
   exact Ze (ih _)
 ·conv => arg 3; whnf
  exact Zb rfl
theorem Zg1 {t0 : Bool} {t1 : Bool} {a : (List Int)} {b : (List Int)} : ∀ r, (ZeM a b) = some r → evD ctx 20 [(.d (D.list t0 (List.map Zd a))), (.d (D.list t1 (List.map Zd b)))] = some (Zkh r) := by
 show ZD _ (fun r rhs => rhs = some (Zkh r)) _
 unfold ZeM
 rw [Zak ctx 20 Zzh _ rfl rfl]
 conv => arg 3; whnf
 refine Zl (Zy _ _) ?_
 conv => arg 3; whnf
 refine Zl (Zy _ _) ?_
 conv => arg 3; whnf
 refine Zc rfl ?_ ?_
 ·conv => arg 3; whnf
  exact Zb rfl
 ·conv => arg 3; whnf
  refine Zf _ (Zl5 _) fun r3 hr3 => ?_
  clear hr3
  rcases r3 with r3 | r3
  ·conv => arg 3; whnf
   exact Zb rfl
  ·conv => arg 3; whnf
   exact Zb rfl
def Zku (r : Bool) : D := (D.bool r)
theorem Za7 {t0 : Bool} {t1 : Bool} {t2 : Bool} {t3 : Bool} {a : Zm} {b : Zm} : ∀ r, (Za6 a b) = some r → evD ctx 30 [(.d (D.agg [(D.list t0 (List.map Zd a.work)), (D.list t1 (List.map Zd a.vals))])), (.d (D.agg [(D.list t2 (List.map Zd b.work)), (D.list t3 (List.map Zd b.vals))]))] = some (Zku r) := by
 show ZD _ (fun r rhs => rhs = some (Zku r)) _
 unfold Za6
 rw [Zak ctx 30 Zzl _ rfl rfl]
 conv => arg 3; whnf
 refine Zh _ Zg1 rfl fun x0 hx0 => ?_
 conv => arg 3; whnf
 refine Zc rfl ?_ ?_
 ·conv => arg 3; whnf
  refine Zh _ Zg1 rfl fun x1 hx1 => ?_
  conv => arg 3; whnf
  refine Zc rfl ?_ ?_
  ·conv => arg 3; whnf
   exact Zb rfl
  ·conv => arg 3; whnf
   exact Zb rfl
 ·conv => arg 3; whnf
  exact Zb rfl
def Zfa (r : Bool) : D := (D.bool r)
def ZeE (t0 : Bool) (t1 : Bool) (a : (List Int)) (b : (List Int)) : (Unit ⊕ Unit) → Ex × List V × Zn
  | (.inl r) => (.ret, [(.d (D.bool false))], [])
  | (.inr r) => (.exit 0, [.bad], [])
theorem Zgs {t0 : Bool} {t1 : Bool} {a : (List Int)} {b : (List Int)} : ∀ (s0 : Int) (r : (Unit ⊕ Unit)), lp (ZaX a b) s0 = some r → lpW ctx 0 [0, 1, 12, 13] [4] Zvb [(.d (D.list t0 (List.map Zd a))), (.d (D.list t1 (List.map Zd b))), (.d (Zd (a.length : Int))), (.d (Zd s0))] [] = some ((ZeE t0 t1 a b) r) := by
 refine Zaf (ZeE t0 t1 a b) ?_
 intro s0 rcl ih
 show ZD _ _ (lpW _ _ _ _ _ _ _)
 unfold ZaX
 rw [Zag]
 conv => arg 3; whnf
 refine Zc rfl ?_ ?_
 ·conv => arg 3; whnf
  refine Zj rfl rfl fun x1 hx1 => ?_
  conv => arg 3; whnf
  refine Zj rfl rfl fun x2 hx2 => ?_
  conv => arg 3; whnf
  refine Zc rfl ?_ ?_
  ·conv => arg 3; whnf
   exact Zb rfl
  ·conv => arg 3; whnf
   exact Ze (ih _)
 ·conv => arg 3; whnf
  exact Zb rfl
theorem Ze5 {t0 : Bool} {t1 : Bool} {a : (List Int)} {b : (List Int)} : ∀ r, (Zbo a b) = some r → evD ctx 57 [(.d (D.list t0 (List.map Zd a))), (.d (D.list t1 (List.map Zd b)))] = some (Zfa r) := by
 show ZD _ (fun r rhs => rhs = some (Zfa r)) _
 unfold Zbo
 rw [Zak ctx 57 Zz1 _ rfl rfl]
 conv => arg 3; whnf
 refine Zl (Zy _ _) ?_
 conv => arg 3; whnf
 refine Zl (Zy _ _) ?_
 conv => arg 3; whnf
 refine Zc rfl ?_ ?_
 ·conv => arg 3; whnf
  exact Zb rfl
 ·conv => arg 3; whnf
  refine Zl (Zy _ _) ?_
  conv => arg 3; whnf
  refine Zf _ (Zgs _) fun r3 hr3 => ?_
  clear hr3
  rcases r3 with r3 | r3
  ·conv => arg 3; whnf
   exact Zb rfl
  ·conv => arg 3; whnf
   exact Zb rfl
def ZjH (r : Bool) : D := (D.bool r)
theorem Zfl {t0 : Bool} {t1 : Bool} {t2 : Bool} {t3 : Bool} {a : Zm} {b : Zm} : ∀ r, (Zdw a b) = some r → evD ctx 32 [(.d (D.agg [(D.list t0 (List.map Zd a.work)), (D.list t1 (List.map Zd a.vals))])), (.d (D.agg [(D.list t2 (List.map Zd b.work)), (D.list t3 (List.map Zd b.vals))]))] = some (ZjH r) := by
 show ZD _ (fun r rhs => rhs = some (ZjH r)) _
 unfold Zdw
 rw [Zak ctx 32 Zz6 _ rfl rfl]
 conv => arg 3; whnf
 refine Zh _ Ze5 rfl fun x0 hx0 => ?_
 conv => arg 3; whnf
 refine Zc rfl ?_ ?_
 ·conv => arg 3; whnf
  refine Zh _ Ze5 rfl fun x1 hx1 => ?_
  conv => arg 3; whnf
  refine Zc rfl ?_ ?_
  ·conv => arg 3; whnf
   exact Zb rfl
  ·conv => arg 3; whnf
   exact Zb rfl
 ·conv => arg 3; whnf
  exact Zb rfl
def Zgk (r : Bool) : D := (D.bool r)
theorem ZjC {t0 : Bool} {t1 : Bool} {t2 : Bool} {t3 : Bool} {t4 : Bool} {t5 : Bool} {t6 : Bool} {t7 : Bool} {t8 : Bool} {a : Zi} {b : (List Int)} {c : Zm} {d : Zm} {e : Int} : ∀ r, (Zep a b c d e) = some r → evD ctx 6 [(.d (D.agg (dA t0 t1 t2 t3 a))), (.d (D.list t4 (List.map Zd b))), (.d (D.agg [(D.list t5 (List.map Zd c.work)), (D.list t6 (List.map Zd c.vals))])), (.d (D.agg [(D.list t7 (List.map Zd d.work)), (D.list t8 (List.map Zd d.vals))])), (.d (Zd e))] = some (Zgk r) := by
 show ZD _ (fun r rhs => rhs = some (Zgk r)) _
 unfold Zep
 rw [Zak ctx 6 fn6 _ rfl rfl]
 conv => arg 3; whnf
 refine Zh _ Zfo rfl fun x0 hx0 => ?_
 conv => arg 3; whnf
 refine Zc rfl ?_ ?_
 ·conv => arg 3; whnf
  refine Zh _ Zkp rfl fun x1 hx1 => ?_
  conv => arg 3; whnf
  refine Zc rfl ?_ ?_
  ·conv => arg 3; whnf
   refine Zh _ Zkp rfl fun x2 hx2 => ?_
   conv => arg 3; whnf
   refine Zc rfl ?_ ?_
   ·conv => arg 3; whnf
    refine Zf _ Zev fun x3 hx3 => ?_
    conv => arg 3; whnf
    refine Zbb (ZeQ (f := Zd) (fun _ => ⟨rfl, rfl⟩) b 0) ?_
    conv => arg 3; whnf
    refine Zc (Zff Zd b) ?_ ?_
    ·conv => arg 3; whnf
     refine Zl (rfl : _ = List.map Zd b) ?_
     conv => arg 3; whnf
     refine Zf _ ZaS fun x4 hx4 => ?_
     conv => arg 3; whnf
     refine Zh _ ZoL rfl fun x5 hx5 => ?_
     conv => arg 3; whnf
     refine Zh _ ZpU rfl fun x6 hx6 => ?_
     conv => arg 3; whnf
     refine Zh _ ZiE rfl fun x7 hx7 => ?_
     conv => arg 3; whnf
     refine Zf _ Zev fun x8 hx8 => ?_
     conv => arg 3; whnf
     refine Zf _ ZaS fun x9 hx9 => ?_
     conv => arg 3; whnf
     refine Zh _ ZnY rfl fun x10 hx10 => ?_
     conv => arg 3; whnf
     refine Zc rfl ?_ ?_
     ·conv => arg 3; whnf
      refine Zh _ ZoO rfl fun x11 hx11 => ?_
      conv => arg 3; whnf
      refine Zh _ Zg1 rfl fun x12 hx12 => ?_
      conv => arg 3; whnf
      refine Zc rfl ?_ ?_
      ·conv => arg 3; whnf
       refine Zc rfl ?_ ?_
       ·conv => arg 3; whnf
        refine Zl (Zy _ _) ?_
        conv => arg 3; whnf
        refine Zc rfl ?_ ?_
        ·conv => arg 3; whnf
         exact Zb rfl
        ·conv => arg 3; whnf
         refine Zh _ Za7 rfl fun x13 hx13 => ?_
         conv => arg 3; whnf
         refine Zc rfl ?_ ?_
         ·conv => arg 3; whnf
          refine Zc rfl ?_ ?_
          ·conv => arg 3; whnf
           refine Zf _ Zev fun x14 hx14 => ?_
           conv => arg 3; whnf
           refine Zf _ ZaS fun x15 hx15 => ?_
           conv => arg 3; whnf
           refine Zh _ Zc6 rfl fun x16 hx16 => ?_
           conv => arg 3; whnf
           refine Zc rfl ?_ ?_
           ·conv => arg 3; whnf
            refine Zf _ ZaS fun x17 hx17 => ?_
            conv => arg 3; whnf
            refine Zf _ ZaS fun x18 hx18 => ?_
            conv => arg 3; whnf
            refine Zh _ Zfl rfl fun x19 hx19 => ?_
            conv => arg 3; whnf
            refine Zc rfl ?_ ?_
            ·conv => arg 3; whnf
             refine Zh _ Za7 rfl fun x20 hx20 => ?_
             conv => arg 3; whnf
             refine Zc rfl ?_ ?_
             ·conv => arg 3; whnf
              refine Zbb rfl ?_
              conv => arg 3; whnf
              exact Zb rfl
             ·conv => arg 3; whnf
              refine Z1 rfl ?_
              conv => arg 3; whnf
              exact Zb rfl
            ·conv => arg 3; whnf
             refine Zh _ Za7 rfl fun x21 hx21 => ?_
             conv => arg 3; whnf
             refine Zc rfl ?_ ?_
             ·conv => arg 3; whnf
              refine Z1 rfl ?_
              conv => arg 3; whnf
              exact Zb rfl
             ·conv => arg 3; whnf
              refine Zbb rfl ?_
              conv => arg 3; whnf
              exact Zb rfl
           ·conv => arg 3; whnf
            exact Zb rfl
          ·conv => arg 3; whnf
           exact Zb rfl
         ·conv => arg 3; whnf
          exact Zb rfl
       ·conv => arg 3; whnf
        refine Zh _ Za7 rfl fun x22 hx22 => ?_
        conv => arg 3; whnf
        refine Zc rfl ?_ ?_
        ·conv => arg 3; whnf
         refine Zc rfl ?_ ?_
         ·conv => arg 3; whnf
          refine Zf _ Zev fun x23 hx23 => ?_
          conv => arg 3; whnf
          refine Zf _ ZaS fun x24 hx24 => ?_
          conv => arg 3; whnf
          refine Zh _ Zc6 rfl fun x25 hx25 => ?_
          conv => arg 3; whnf
          refine Zc rfl ?_ ?_
          ·conv => arg 3; whnf
           refine Zf _ ZaS fun x26 hx26 => ?_
           conv => arg 3; whnf
           refine Zf _ ZaS fun x27 hx27 => ?_
           conv => arg 3; whnf
           refine Zh _ Zfl rfl fun x28 hx28 => ?_
           conv => arg 3; whnf
           refine Zc rfl ?_ ?_
           ·conv => arg 3; whnf
            refine Zh _ Za7 rfl fun x29 hx29 => ?_
            conv => arg 3; whnf
            refine Zc rfl ?_ ?_
            ·conv => arg 3; whnf
             refine Zbb rfl ?_
             conv => arg 3; whnf
             exact Zb rfl
            ·conv => arg 3; whnf
             refine Z1 rfl ?_
             conv => arg 3; whnf
             exact Zb rfl
           ·conv => arg 3; whnf
            refine Zh _ Za7 rfl fun x30 hx30 => ?_
            conv => arg 3; whnf
            refine Zc rfl ?_ ?_
            ·conv => arg 3; whnf
             refine Z1 rfl ?_
             conv => arg 3; whnf
             exact Zb rfl
            ·conv => arg 3; whnf
             refine Zbb rfl ?_
             conv => arg 3; whnf
             exact Zb rfl
          ·conv => arg 3; whnf
           exact Zb rfl
         ·conv => arg 3; whnf
          exact Zb rfl
        ·conv => arg 3; whnf
         exact Zb rfl
      ·conv => arg 3; whnf
       exact Zb rfl
     ·conv => arg 3; whnf
      refine Zc rfl ?_ ?_
      ·conv => arg 3; whnf
       refine Zl (Zy _ _) ?_
       conv => arg 3; whnf
       refine Zc rfl ?_ ?_
       ·conv => arg 3; whnf
        exact Zb rfl
       ·conv => arg 3; whnf
        refine Zh _ Za7 rfl fun x31 hx31 => ?_
        conv => arg 3; whnf
        refine Zc rfl ?_ ?_
        ·conv => arg 3; whnf
         refine Zc rfl ?_ ?_
         ·conv => arg 3; whnf
          refine Zf _ Zev fun x32 hx32 => ?_
          conv => arg 3; whnf
          refine Zf _ ZaS fun x33 hx33 => ?_
          conv => arg 3; whnf
          refine Zh _ Zc6 rfl fun x34 hx34 => ?_
          conv => arg 3; whnf
          refine Zc rfl ?_ ?_
          ·conv => arg 3; whnf
           refine Zf _ ZaS fun x35 hx35 => ?_
           conv => arg 3; whnf
           refine Zf _ ZaS fun x36 hx36 => ?_
           conv => arg 3; whnf
           refine Zh _ Zfl rfl fun x37 hx37 => ?_
           conv => arg 3; whnf
           refine Zc rfl ?_ ?_
           ·conv => arg 3; whnf
            refine Zh _ Za7 rfl fun x38 hx38 => ?_
            conv => arg 3; whnf
            refine Zc rfl ?_ ?_
            ·conv => arg 3; whnf
             refine Zbb rfl ?_
             conv => arg 3; whnf
             exact Zb rfl
            ·conv => arg 3; whnf
             refine Z1 rfl ?_
             conv => arg 3; whnf
             exact Zb rfl
           ·conv => arg 3; whnf
            refine Zh _ Za7 rfl fun x39 hx39 => ?_
            conv => arg 3; whnf
            refine Zc rfl ?_ ?_
            ·conv => arg 3; whnf
             refine Z1 rfl ?_
             conv => arg 3; whnf
             exact Zb rfl
            ·conv => arg 3; whnf
             refine Zbb rfl ?_
             conv => arg 3; whnf
             exact Zb rfl
          ·conv => arg 3; whnf
           exact Zb rfl
         ·conv => arg 3; whnf
          exact Zb rfl
        ·conv => arg 3; whnf
         exact Zb rfl
      ·conv => arg 3; whnf
       refine Zh _ Za7 rfl fun x40 hx40 => ?_
       conv => arg 3; whnf
       refine Zc rfl ?_ ?_
       ·conv => arg 3; whnf
        refine Zc rfl ?_ ?_
        ·conv => arg 3; whnf
         refine Zf _ Zev fun x41 hx41 => ?_
         conv => arg 3; whnf
         refine Zf _ ZaS fun x42 hx42 => ?_
         conv => arg 3; whnf
         refine Zh _ Zc6 rfl fun x43 hx43 => ?_
         conv => arg 3; whnf
         refine Zc rfl ?_ ?_
         ·conv => arg 3; whnf
          refine Zf _ ZaS fun x44 hx44 => ?_
          conv => arg 3; whnf
          refine Zf _ ZaS fun x45 hx45 => ?_
          conv => arg 3; whnf
          refine Zh _ Zfl rfl fun x46 hx46 => ?_
          conv => arg 3; whnf
          refine Zc rfl ?_ ?_
          ·conv => arg 3; whnf
           refine Zh _ Za7 rfl fun x47 hx47 => ?_
           conv => arg 3; whnf
           refine Zc rfl ?_ ?_
           ·conv => arg 3; whnf
            refine Zbb rfl ?_
            conv => arg 3; whnf
            exact Zb rfl
           ·conv => arg 3; whnf
            refine Z1 rfl ?_
            conv => arg 3; whnf
            exact Zb rfl
          ·conv => arg 3; whnf
           refine Zh _ Za7 rfl fun x48 hx48 => ?_
           conv => arg 3; whnf
           refine Zc rfl ?_ ?_
           ·conv => arg 3; whnf
            refine Z1 rfl ?_
            conv => arg 3; whnf
            exact Zb rfl
           ·conv => arg 3; whnf
            refine Zbb rfl ?_
            conv => arg 3; whnf
            exact Zb rfl
         ·conv => arg 3; whnf
          exact Zb rfl
        ·conv => arg 3; whnf
         exact Zb rfl
       ·conv => arg 3; whnf
        exact Zb rfl
    ·exact Z8
   ·conv => arg 3; whnf
    refine Zh _ Zfo rfl fun x49 hx49 => ?_
    conv => arg 3; whnf
    refine Zc rfl ?_ ?_
    ·conv => arg 3; whnf
     exact Zb rfl
    ·conv => arg 3; whnf
     exact Zb rfl
  ·conv => arg 3; whnf
   refine Zh _ Zfo rfl fun x50 hx50 => ?_
   conv => arg 3; whnf
   refine Zc rfl ?_ ?_
   ·conv => arg 3; whnf
    exact Zb rfl
   ·conv => arg 3; whnf
    exact Zb rfl
 ·conv => arg 3; whnf
  refine Zh _ Zfo rfl fun x51 hx51 => ?_
  conv => arg 3; whnf
  refine Zc rfl ?_ ?_
  ·conv => arg 3; whnf
   exact Zb rfl
  ·conv => arg 3; whnf
   exact Zb rfl
end Go.Proofs.YtnmbdjkbaihicaaDoor
namespace Go.Proofs.YtnmbdjkbaihicaaDoor
open Go Go.Proofs.YtnmbdjkbaihicaaDoorE
abbrev ZwQ : List Lf × Bool := ([.int .i64], false)
abbrev ZrK : List Lf × Bool := ([.int .i64, .int .i64, .sl true [.int .i64, .int .i64, .int .i64], .sl true [.int .i64, .int .i64], .sl true [.int .i64, .int .i64, .int .i64], .sl true [.sl false [.int .i64], .sl false [.int .i64]]], true)
abbrev Zsk : List Lf × Bool := ([.sl false [.int .i64]], false)
abbrev ZlJ : List Lf × Bool := ([.sl false [.int .i64], .sl false [.int .i64]], true)
end Go.Proofs.YtnmbdjkbaihicaaDoor
namespace Go.Proofs.YtnmbdjkbaihicaaDoor
open Go Go.Proofs.YtnmbdjkbaihicaaDoorE
set_option linter.unusedVariables false
set_option linter.unusedSimpArgs false
theorem ZnX (d : Zi) (input : List Int) (s o : Zm) (p : Int) (wi : Zoo input) (wv : Zoo s.vals) : Zep d input s o p = some true := by
 unfold Zep
 simp only [ZeU, ZzB, Option.bind_some, cond_true]
 cases hf : Zuh d input s with
 | false => rfl
 | true =>
  cases hg : Zuh d input o with
  | false => rfl
  | true =>
   obtain ⟨sd, hi, hw, hv⟩ := Ztr hf
   obtain ⟨_, _, ow, ov⟩ := Ztr hg
   have sh := sd.short
   have gl := ZxG (d := d) (s := s) input p
   simp only [cond_true, ZBH d sd, Option.bind_some, ZhN (show input.length ≤ 1073741824 by omega), ZwK (show s.work.length ≤ 1000 by omega) (show s.vals.length ≤ 1000 by omega), ZwK (show o.work.length ≤ 1000 by omega) (show o.vals.length ≤ 1000 by omega),
    ZwB, ZB7 sh input (show input.length ≤ 1000 by omega), ZAc d s sd input (by omega) wi wv, Zo5 d s sd, ZzQ sh, Zop d s sh, ZnE _ _ (show (goS d input s p).1.work.length < 9223372036854775808 by omega) (show (goS d input s p).1.vals.length < 9223372036854775808 by omega),
    decide_true, Bool.and_self, beq_self_eq_true, ZqG s o (by omega) (by omega), ZnE s o (by omega) (by omega)]
   by_cases hc : ZdQ d s = 0
   ·obtain ⟨h1, h2⟩ := ZiU hc
    have g := ZfD h1
    have hl := ZhO (fun i => Zin d s (i : Int)) d.parts.length
    have gp := g.pl
    rw [hc]
    simp only [beq_self_eq_true, cond_true, bne_self_eq_false, cond_false, Zx4 sd g (Zi9.1 h2), Option.bind_some]
    rw [Zo9 _ _ (show (Zsw d s).length < 9223372036854775808 by unfold Zsw; omega), decide_eq_true rfl]
    simp only [Option.bind_some, cond_true]
    cases decide (s.work = o.work) <;> cases decide (s.vals = o.vals) <;> rfl
   ·rw [show (ZdQ d s == 0) = false by simpa using hc, show (ZdQ d s != 0) = true by simpa using hc]
    simp only [cond_false, cond_true, List.length_nil]
    rw [decide_eq_false (show ¬ ((0 : Int) < ((0 : Nat) : Int)) by omega)]
    simp only [cond_false]
    cases decide (s.work = o.work) <;> cases decide (s.vals = o.vals) <;> rfl
theorem ZoX (xs : List D) (h : Zfy ZrK.1 xs) (ys : List D) (k : Zfy Zsk.1 ys) (zs : List D) (m : Zfy ZlJ.1 zs) (vs : List D) (n : Zfy ZlJ.1 vs) (us : List D) (q : Zfy ZwQ.1 us) :
  ∃ H', evW ctx 6 (ZcK [Zln ZrK.2 xs, Zln Zsk.2 ys, Zln ZlJ.2 zs, Zln ZlJ.2 vs, Zln ZwQ.2 us]) [] = some (.d (.bool true), H') := by
 obtain ⟨d, hd, _⟩ := Zyf h
 obtain ⟨a, ha, oka⟩ := Zx9 k
 obtain ⟨s, hs, _, oks⟩ := ZrV m
 obtain ⟨t, ht, _⟩ := ZrV n
 obtain ⟨p, hp, _⟩ := ZzU q
 show ∃ H', evW ctx 6 [.d (D.agg xs), .d (Zln false ys), .d (D.agg zs), .d (D.agg vs), .d (Zln false us)] [] = _
 rw [hd, ha, hs, ht, hp]
 exact ZvP (ZjC true (ZnX d a s t p oka.2 oks.2))
end Go.Proofs.YtnmbdjkbaihicaaDoor
namespace Go.Proofs.YtnmbdjkbaihicaaDoor.LawSourceSteps
open Go.ChangeShapes Go.WideShapes Go.ChangeAt Go.RowKit Go.Proofs.YtnmbdjkbaihicaaDoorE
set_option linter.unusedVariables false
theorem own : ownKnob Tryd.prog.godebug = none := by kernel_rfl
theorem Zml : laidOutB Tryd.prog = true := by kernel_rfl
def ZoZ : List (String × DataW Unit) := [("math/bits.deBruijn32tab", Rows.laid_math_bits_deBruijn32tab), ("math/bits.deBruijn64tab", Rows.laid_math_bits_deBruijn64tab)]
theorem ZwX (os : Os) (args : Array Value) : laidMetH Tryd.prog ZoZ ((World.doorLaid Tryd.prog 19 os).forCall (fun _ _ => 0) ⟨#[], args, []⟩).memory :=
 laidMetH_of_parts3 (fuel := 8) (laidMet_of_run' 8 (by kernel_rfl) (by kernel_rfl)) (by kernel_rfl) (by kernel_rfl)
theorem Zu4 {W : World} (h : laidMetH Tryd.prog ZoZ W) : GOK Zs R0 W := by
 intro g l hg
 unfold Zs at hg
 split at hg
 ·cases hg
  exact ZoT (t := 148) (N := 32) (e := 5) (k := .u8) h (by kernel_rfl) (n := "math/bits.deBruijn32tab") (by rw [show DataW.agg (Zl0 ZyK) = Rows.laid_math_bits_deBruijn32tab by kernel_rfl]; simp [ZoZ]) (by kernel_rfl) (by kernel_rfl) (by kernel_rfl) (by kernel_rfl) (by kernel_rfl) (by kernel_rfl) (by decide)
 ·cases hg
  exact ZoT (t := 149) (N := 64) (e := 5) (k := .u8) h (by kernel_rfl) (n := "math/bits.deBruijn64tab") (by rw [show DataW.agg (Zl0 ZyI) = Rows.laid_math_bits_deBruijn64tab by kernel_rfl]; simp [ZoZ]) (by kernel_rfl) (by kernel_rfl) (by kernel_rfl) (by kernel_rfl) (by kernel_rfl) (by kernel_rfl) (by decide)
 ·cases hg
theorem Zy0 (os : Os) (started : os.Started) (H : Type) (enc : TypeId × Value → H) :
  ReturnsInHanded {} Tryd.checked os 6 .any (fun w args => (Rows.sourceStepsSpec.pre enc Tryd.prog Tryd.f6 [] false w args ∧ laidMetH Tryd.prog ZoZ w) ∧ sizedMet enc Tryd.prog Tryd.f6 (OpenSpec.ofChange Rows.sourceStepsSpec) false w args) (Rows.sourceStepsSpec.post enc Tryd.prog Tryd.f6 false true false false) := by
 refine returnsInHanded_of_change_and (C := Tryd.checked) (X := fun w _ => laidMetH Tryd.prog ZoZ w) (fun _ _ _ hh h => h.of_heap hh) own started (by kernel_rfl) Tryd.func6
  (ChangeSpec.witness_shaped (enc := enc) (C := Tryd.checked) (os := os) (X := fun w _ => laidMetH Tryd.prog ZoZ w) false (World.doorLaid Tryd.prog 19 os) #[.agg #[.int .i64 0, .int .i64 0, .slice none 0 0, .slice none 0 0, .slice none 0 0, .slice none 0 0], .slice none 0 0, .agg #[.slice none 0 0, .slice none 0 0], .agg #[.slice none 0 0, .slice none 0 0], .int .i64 0] 8 rfl (World.shaped_of_RefB (by kernel_rfl) (by kernel_rfl)) (by kernel_rfl) (by kernel_rfl) (by kernel_rfl) (ZwX os _)) ?_
 intro W base args ds gs before hval0 hW _ _ hL _
 have hval : ∀ (j : Nat) t v, Tryd.f6.params[j]? = some t → args[j]? = some v → Value.okWide Tryd.prog W .any base t v := hval0
 have hW' := hW
 obtain ⟨p, q, hA0, hV, rfl, hfz, hnd⟩ := hW
 have hA : DataW.TrodAll enc Tryd.prog W 0 (fun _ => true) true Tryd.f6.params.toList args.toList ds p := hA0
 rw [Tryd.params6] at hA hval
 obtain ⟨v0, vs0, d0, ds0, p0, q0, hargs, rfl, rfl, h0, r0⟩ := trodAll_cons hA
 obtain ⟨v1, vs1, d1, ds1, p1, q1, rfl, rfl, rfl, h1, r1⟩ := trodAll_cons r0
 obtain ⟨v2, vs2, d2, ds2, p2, q2, rfl, rfl, rfl, h2, r2⟩ := trodAll_cons r1
 obtain ⟨v3, vs3, d3, ds3, p3, q3, rfl, rfl, rfl, h3, r3⟩ := trodAll_cons r2
 obtain ⟨v4, vs4, d4, ds4, p4, q4, rfl, rfl, rfl, h4, r4⟩ := trodAll_cons r3
 obtain ⟨rfl, rfl, rfl⟩ := trodAll_nil r4
 obtain rfl : args = #[v0, v1, v2, v3, v4] := by cases args; simp_all
 obtain ⟨rfl, rfl⟩ := trodVars_none hV
 have lt0 : ∀ x ∈ p0, x.block < W.heap.size := by obtain ⟨m, hm⟩ := h0; exact DataW.trod_lt m _ _ _ hm
 obtain ⟨x0, ok0, den0⟩ := Zpm (P := Tryd.prog) (n := 8) (t := 27) (l := ZrK.1) (ag := ZrK.2) (by kernel_rfl) (hval 0 27 v0 rfl rfl) h0
 have lt1 : ∀ x ∈ p1, x.block < W.heap.size := by obtain ⟨m, hm⟩ := h1; exact DataW.trod_lt m _ _ _ hm
 obtain ⟨x1, ok1, den1⟩ := Zpm (P := Tryd.prog) (n := 8) (t := 28) (l := Zsk.1) (ag := Zsk.2) (by kernel_rfl) (hval 1 28 v1 rfl rfl) h1
 have lt2 : ∀ x ∈ p2, x.block < W.heap.size := by obtain ⟨m, hm⟩ := h2; exact DataW.trod_lt m _ _ _ hm
 obtain ⟨x2, ok2, den2⟩ := Zpm (P := Tryd.prog) (n := 8) (t := 51) (l := ZlJ.1) (ag := ZlJ.2) (by kernel_rfl) (hval 2 51 v2 rfl rfl) h2
 have lt3 : ∀ x ∈ p3, x.block < W.heap.size := by obtain ⟨m, hm⟩ := h3; exact DataW.trod_lt m _ _ _ hm
 obtain ⟨x3, ok3, den3⟩ := Zpm (P := Tryd.prog) (n := 8) (t := 51) (l := ZlJ.1) (ag := ZlJ.2) (by kernel_rfl) (hval 3 51 v3 rfl rfl) h3
 have lt4 : ∀ x ∈ p4, x.block < W.heap.size := by obtain ⟨m, hm⟩ := h4; exact DataW.trod_lt m _ _ _ hm
 obtain ⟨x4, ok4, den4⟩ := Zpm (P := Tryd.prog) (n := 8) (t := 3) (l := ZwQ.1) (ag := ZwQ.2) (by kernel_rfl) (hval 4 3 v4 rfl rfl) h4
 obtain ⟨H1, ev⟩ := ZoX x0 ok0 x1 ok1 x2 ok2 x3 ok3 x4 ok4
 have den : ZaQ All All All W [Zln ZrK.2 x0, Zln Zsk.2 x1, Zln ZlJ.2 x2, Zln ZlJ.2 x3, Zln ZwQ.2 x4] [v0, v1, v2, v3, v4] := ⟨_, _, rfl, den0, ⟨_, _, rfl, den1, ⟨_, _, rfl, den2, ⟨_, _, rfl, den3, ⟨_, _, rfl, den4, rfl⟩⟩⟩⟩⟩
 refine (Zut ZBX (Zu4 hL) den ev).mono fun e W' ⟨he, bel⟩ => ?_
 subst he
 exact ⟨_, rfl, _, _, _, [], _, [], hW', trodAll_mk1 (shut_bool Tryd.underlying4 _), (trodAll_cons_mk (Below.trod Zml (by kernel_rfl) (of_decide_eq_true (by kernel_rfl)) h0 bel lt0) (trodAll_cons_mk (Below.trod Zml (by kernel_rfl) (of_decide_eq_true (by kernel_rfl)) h1 bel lt1) (trodAll_cons_mk (Below.trod Zml (by kernel_rfl) (of_decide_eq_true (by kernel_rfl)) h2 bel lt2) (trodAll_cons_mk (Below.trod Zml (by kernel_rfl) (of_decide_eq_true (by kernel_rfl)) h3 bel lt3) (trodAll_cons_mk (Below.trod Zml (by kernel_rfl) (of_decide_eq_true (by kernel_rfl)) h4 bel lt4) trodAll_mk0))))), rfl, bel.frame _, fun h => by cases h⟩
theorem over : Rows.sourceStepsRow.holds Tryd.pinned (OpenSpec.ofChange Rows.sourceStepsSpec) :=
 OpenClaim.holds_of_wide 6 Tryd.f6 rfl rfl rfl rfl rfl rfl rfl ⟨rfl, rfl, rfl, rfl, rfl⟩ rfl rfl rfl rfl rfl (by kernel_rfl) Tryd.func6 (by kernel_rfl)
  (of_decide_eq_true (by kernel_rfl)) (by unfold Func.isWrapper; first | (rw [if_pos (by decide +kernel)]; kernel_rfl) | (rw [if_neg (by decide +kernel)]; exact ⟨rfl, rfl⟩))
  (fun os started H enc _ => Zy0 os started H enc)
theorem proved : Rows.SourceStepsSaid := over
theorem carded : Rows.SourceStepsCardSaid :=
 Claim7.holds_tied_plain_at .later [] [.data, .data] true (true, "3ab9be834fa2b7d026ba399aa683e49be0919143fbbd24a24d6e9902cb90d35e") false
  proved (fun _ h => by cases h) (by kernel_rfl) (fun _ h => by cases h) sourceSteps_row_tie rfl ⟨rfl, rfl⟩ (by kernel_rfl) rfl
  (fun f fn hf hfn => by
   obtain rfl : f = 6 := Option.some.inj ((show Tryd.prog.funcNamed "trefoil/trefoillaw09.SourceSteps" = some 6 by kernel_rfl).symm.trans hf) |>.symm
   obtain rfl : fn = Tryd.f6 := (Option.some.inj (Tryd.func6.symm.trans hfn)).symm
   exact ⟨by kernel_rfl, fun j t ht => by
    rw [Tryd.params6] at ht
    have hm : t ∈ [27, 28, 51, 51, 3] := by simpa using Array.mem_of_getElem? ht
    have hall : ([27, 28, 51, 51, 3].all fun u => !Tryd.prog.wantsStandIn u) = true := by kernel_rfl
    exact (show Tryd.prog.wantsStandIn t = false by simpa using List.all_eq_true.1 hall t hm)⟩)
  (by kernel_rfl)
end Go.Proofs.YtnmbdjkbaihicaaDoor.LawSourceSteps
namespace Go.Proofs.YtnmbdjkbaihicaaDoor
theorem sourceSteps_holds : Rows.SourceStepsCardSaid := LawSourceSteps.carded
#print axioms sourceSteps_holds
end Go.Proofs.YtnmbdjkbaihicaaDoor
