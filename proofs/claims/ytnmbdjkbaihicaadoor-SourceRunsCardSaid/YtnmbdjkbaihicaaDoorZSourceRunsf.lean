/- SourceRuns: part 6 of 6 of the proof: the row and the card of the law, out of what the evaluator says of it; without conditions. -/
import Derived.Test.YtnmbdjkbaihicaaDoorZSourceRunse
import Derived.KernelRfl
import Derived.Test.YtnmbdjkbaihicaaDoorRows
import Derived.Test.YtnmbdjkbaihicaaDoorCards
import Derived.Test.YtnmbdjkbaihicaaDoorTie
import Derived.WalkKit
import Derived.ProofKit
import Derived.OpenShut
import Derived.ShutString
import Derived.ChangeOld
import Derived.Below
import Derived.SizedLaws
import Derived.Handed
import Derived.LaidMore
import Derived.Stop.Joined
import Derived.ChangeShapes
import Derived.Carry
import Derived.SevenTiedAt
set_option maxRecDepth 100000
set_option maxHeartbeats 40000000
namespace Go.Proofs.YtnmbdjkbaihicaaDoor
open Go Go.Proofs.YtnmbdjkbaihicaaDoorE
set_option linter.unusedVariables false
set_option linter.unusedSimpArgs false
def Za (t0 : Bool) (t1 : Bool) (t2 : Bool) (t3 : Bool) (b : Int) (c : Int) (d : Int) (m0_0 : (List Int)) (m1_0 : Int) (m1_1 : Int) (m1_2 : (List ZG)) (m1_3 : (List ZM)) (m1_4 : (List Zs)) (m1_5 : (List Zo)) : (List Int) → V × Zm
  | r => ((.d (D.tup [])), [(.arr 1 (List.map Zb r)), (.cells [(.d (Zb m1_0)), (.d (Zb m1_1)), (.d (D.list t0 (List.map ZW m1_2))), (.d (D.list t1 (List.map ZT m1_3))), (.d (D.list t2 (List.map Zx m1_4))), (.d (D.list t3 (List.map Zt m1_5)))])])
def ZbI (t0 : Bool) (t1 : Bool) (t2 : Bool) (t3 : Bool) (m1_0 : Int) (m1_1 : Int) (m1_2 : (List ZG)) (m1_3 : (List ZM)) (m1_4 : (List Zs)) (m1_5 : (List Zo)) (rc : Int → Int → Int → (Int → Int → Option Int) → (List Int) → Option (List Int)) : (List Int) → Ex × List V × Zm
  | r => (.ret, [], [(.arr 1 (List.map Zb r)), (.cells [(.d (Zb m1_0)), (.d (Zb m1_1)), (.d (D.list t0 (List.map ZW m1_2))), (.d (D.list t1 (List.map ZT m1_3))), (.d (D.list t2 (List.map Zx m1_4))), (.d (D.list t3 (List.map Zt m1_5)))])])
theorem ZdD {t0 : Bool} {t1 : Bool} {t2 : Bool} {t3 : Bool} {m1_0 : Int} {m1_1 : Int} {m1_2 : (List ZG)} {m1_3 : (List ZM)} {m1_4 : (List Zs)} {m1_5 : (List Zo)} {rc : Int → Int → Int → (Int → Int → Option Int) → (List Int) → Option (List Int)} (hrc : ∀ (t0 : Bool) (t1 : Bool) (t2 : Bool) (t3 : Bool) (b : Int) (c : Int) (d : Int) (m0_0 : (List Int)) (m1_0 : Int) (m1_1 : Int) (m1_2 : (List ZG)) (m1_3 : (List ZM)) (m1_4 : (List Zs)) (m1_5 : (List Zo)) (r : (List Int)), rc b c d (fun z0 z1 => Zq z0 z1 m1_4) m0_0 = some r → evW ctx 124 [(.sl 0 1), (.d (Zb b)), (.d (Zb c)), (.d (Zb d)), (.fn 118 [(.ptr 1 0)])] [(.arr 1 (List.map Zb m0_0)), (.cells [(.d (Zb m1_0)), (.d (Zb m1_1)), (.d (D.list t0 (List.map ZW m1_2))), (.d (D.list t1 (List.map ZT m1_3))), (.d (D.list t2 (List.map Zx m1_4))), (.d (D.list t3 (List.map Zt m1_5)))])] = some ((Za t0 t1 t2 t3 b c d m0_0 m1_0 m1_1 m1_2 m1_3 m1_4 m1_5) r)) : ∀ (s0 : Int × Int × Int × Bool × Bool × (List Int)) (r : (List Int)), lp (ZN (fun z0 z1 => Zq z0 z1 m1_4) rc) s0 = some r → lpW ctx 2 [0, 1, 2, 3, 4, 10, 11] [] Ztg [(.sl 0 1), (.d (Zb s0.1)), (.d (Zb s0.2.1)), (.d (Zb s0.2.2.1)), (.fn 118 [(.ptr 1 0)]), (.d (D.bool s0.2.2.2.1)), (.d (D.bool s0.2.2.2.2.1))] [(.arr 1 (List.map Zb s0.2.2.2.2.2)), (.cells [(.d (Zb m1_0)), (.d (Zb m1_1)), (.d (D.list t0 (List.map ZW m1_2))), (.d (D.list t1 (List.map ZT m1_3))), (.d (D.list t2 (List.map Zx m1_4))), (.d (D.list t3 (List.map Zt m1_5)))])] = some ((ZbI t0 t1 t2 t3 m1_0 m1_1 m1_2 m1_3 m1_4 m1_5 rc) r) := by
 refine Zai (ZbI t0 t1 t2 t3 m1_0 m1_1 m1_2 m1_3 m1_4 m1_5 rc) ?_
 intro s0 rcl ih
 show ZE _ _ (lpW _ _ _ _ _ _ _)
 unfold ZN
 rw [Zah]
 rcases hb : s0.2.2.2.1 with _ | _
 ·refine Zsd ?_
  rcases hb : s0.2.2.2.2.1 with _ | _
  ·refine Zsd ?_
   conv => arg 3; whnf
   refine Zd rfl ?_ ?_
   ·conv => arg 3; whnf
    refine Zf _ Z2 fun x170 hx170 => ?_
    conv => arg 3; whnf
    exact Zc rfl
   ·conv => arg 3; whnf
    refine Zd rfl ?_ ?_
    ·conv => arg 3; whnf
     refine Zf _ Zal fun x171 hx171 => ?_
     conv => arg 3; whnf
     exact Zc rfl
    ·conv => arg 3; whnf
     refine Zf _ Zbn fun x172 hx172 => ?_
     conv => arg 3; whnf
     refine Zf _ Zad fun x173 hx173 => ?_
     conv => arg 3; whnf
     refine Zd rfl ?_ ?_
     ·conv => arg 3; whnf
      refine Zf _ Z8 fun x174 hx174 => ?_
      conv => arg 3; whnf
      refine Zd rfl ?_ ?_
      ·conv => arg 3; whnf
       refine Zk rfl rfl fun x175 hx175 => ?_
       conv => arg 3; whnf
       refine Zg (Zv rfl hx175) ?_
       conv => arg 3; whnf
       refine Zk rfl rfl fun x176 hx176 => ?_
       conv => arg 3; whnf
       refine Zg (Zv rfl hx176) ?_
       conv => arg 3; whnf
       refine Zi _ Zz rfl fun x177 hx177 => ?_
       conv => arg 3; whnf
       refine Zd rfl ?_ ?_
       ·conv => arg 3; whnf
        refine Zf _ Zj fun x178 hx178 => ?_
        clear hx178
        rcases x178 with x178 | x178
        ·conv => arg 3; whnf
         refine ZbP rfl ?_
         conv => arg 3; whnf
         refine Zaa rfl ?_
         conv => arg 3; whnf
         refine Zd rfl ?_ ?_
         ·conv => arg 3; whnf
          refine Zd rfl ?_ ?_
          ·conv => arg 3; whnf
           refine Zf (Za t0 t1 t2 t3 s0.1 x178.1 (w64 (s0.2.2.1 - 1)) x178.2 m1_0 m1_1 m1_2 m1_3 m1_4 m1_5) (hrc t0 t1 t2 t3 s0.1 x178.1 (w64 (s0.2.2.1 - 1)) x178.2 m1_0 m1_1 m1_2 m1_3 m1_4 m1_5) fun x179 hx179 => ?_
           conv => arg 3; whnf
           exact Ze (ih _)
          ·conv => arg 3; whnf
           refine Zf (Za t0 t1 t2 t3 s0.1 x178.1 (w64 (s0.2.2.1 - 1)) x178.2 m1_0 m1_1 m1_2 m1_3 m1_4 m1_5) (hrc t0 t1 t2 t3 s0.1 x178.1 (w64 (s0.2.2.1 - 1)) x178.2 m1_0 m1_1 m1_2 m1_3 m1_4 m1_5) fun x180 hx180 => ?_
           conv => arg 3; whnf
           exact Ze (ih _)
         ·conv => arg 3; whnf
          refine Zd rfl ?_ ?_
          ·conv => arg 3; whnf
           refine Zf (Za t0 t1 t2 t3 (w64 (x178.1 + 1)) s0.2.1 (w64 (s0.2.2.1 - 1)) x178.2 m1_0 m1_1 m1_2 m1_3 m1_4 m1_5) (hrc t0 t1 t2 t3 (w64 (x178.1 + 1)) s0.2.1 (w64 (s0.2.2.1 - 1)) x178.2 m1_0 m1_1 m1_2 m1_3 m1_4 m1_5) fun x181 hx181 => ?_
           conv => arg 3; whnf
           exact Ze (ih _)
          ·conv => arg 3; whnf
           refine Zf (Za t0 t1 t2 t3 (w64 (x178.1 + 1)) s0.2.1 (w64 (s0.2.2.1 - 1)) x178.2 m1_0 m1_1 m1_2 m1_3 m1_4 m1_5) (hrc t0 t1 t2 t3 (w64 (x178.1 + 1)) s0.2.1 (w64 (s0.2.2.1 - 1)) x178.2 m1_0 m1_1 m1_2 m1_3 m1_4 m1_5) fun x182 hx182 => ?_
           conv => arg 3; whnf
           exact Ze (ih _)
        ·conv => arg 3; whnf
         refine Zaa rfl ?_
         conv => arg 3; whnf
         refine Zaa rfl ?_
         conv => arg 3; whnf
         refine Zd rfl ?_ ?_
         ·conv => arg 3; whnf
          refine Zd rfl ?_ ?_
          ·conv => arg 3; whnf
           refine Zf (Za t0 t1 t2 t3 s0.1 x178.1 (w64 (s0.2.2.1 - 1)) x178.2 m1_0 m1_1 m1_2 m1_3 m1_4 m1_5) (hrc t0 t1 t2 t3 s0.1 x178.1 (w64 (s0.2.2.1 - 1)) x178.2 m1_0 m1_1 m1_2 m1_3 m1_4 m1_5) fun x183 hx183 => ?_
           conv => arg 3; whnf
           exact Ze (ih _)
          ·conv => arg 3; whnf
           refine Zf (Za t0 t1 t2 t3 s0.1 x178.1 (w64 (s0.2.2.1 - 1)) x178.2 m1_0 m1_1 m1_2 m1_3 m1_4 m1_5) (hrc t0 t1 t2 t3 s0.1 x178.1 (w64 (s0.2.2.1 - 1)) x178.2 m1_0 m1_1 m1_2 m1_3 m1_4 m1_5) fun x184 hx184 => ?_
           conv => arg 3; whnf
           exact Ze (ih _)
         ·conv => arg 3; whnf
          refine Zd rfl ?_ ?_
          ·conv => arg 3; whnf
           refine Zf (Za t0 t1 t2 t3 (w64 (x178.1 + 1)) s0.2.1 (w64 (s0.2.2.1 - 1)) x178.2 m1_0 m1_1 m1_2 m1_3 m1_4 m1_5) (hrc t0 t1 t2 t3 (w64 (x178.1 + 1)) s0.2.1 (w64 (s0.2.2.1 - 1)) x178.2 m1_0 m1_1 m1_2 m1_3 m1_4 m1_5) fun x185 hx185 => ?_
           conv => arg 3; whnf
           exact Ze (ih _)
          ·conv => arg 3; whnf
           refine Zf (Za t0 t1 t2 t3 (w64 (x178.1 + 1)) s0.2.1 (w64 (s0.2.2.1 - 1)) x178.2 m1_0 m1_1 m1_2 m1_3 m1_4 m1_5) (hrc t0 t1 t2 t3 (w64 (x178.1 + 1)) s0.2.1 (w64 (s0.2.2.1 - 1)) x178.2 m1_0 m1_1 m1_2 m1_3 m1_4 m1_5) fun x186 hx186 => ?_
           conv => arg 3; whnf
           exact Ze (ih _)
       ·conv => arg 3; whnf
        refine Zf _ Zw fun x187 hx187 => ?_
        conv => arg 3; whnf
        exact Ze (ih _)
      ·conv => arg 3; whnf
       refine Zf _ Zj fun x188 hx188 => ?_
       clear hx188
       rcases x188 with x188 | x188
       ·conv => arg 3; whnf
        refine ZbP rfl ?_
        conv => arg 3; whnf
        refine Zaa rfl ?_
        conv => arg 3; whnf
        refine Zd rfl ?_ ?_
        ·conv => arg 3; whnf
         refine Zd rfl ?_ ?_
         ·conv => arg 3; whnf
          refine Zf (Za t0 t1 t2 t3 s0.1 x188.1 (w64 (s0.2.2.1 - 1)) x188.2 m1_0 m1_1 m1_2 m1_3 m1_4 m1_5) (hrc t0 t1 t2 t3 s0.1 x188.1 (w64 (s0.2.2.1 - 1)) x188.2 m1_0 m1_1 m1_2 m1_3 m1_4 m1_5) fun x189 hx189 => ?_
          conv => arg 3; whnf
          exact Ze (ih _)
         ·conv => arg 3; whnf
          refine Zf (Za t0 t1 t2 t3 s0.1 x188.1 (w64 (s0.2.2.1 - 1)) x188.2 m1_0 m1_1 m1_2 m1_3 m1_4 m1_5) (hrc t0 t1 t2 t3 s0.1 x188.1 (w64 (s0.2.2.1 - 1)) x188.2 m1_0 m1_1 m1_2 m1_3 m1_4 m1_5) fun x190 hx190 => ?_
          conv => arg 3; whnf
          exact Ze (ih _)
        ·conv => arg 3; whnf
         refine Zd rfl ?_ ?_
         ·conv => arg 3; whnf
          refine Zf (Za t0 t1 t2 t3 (w64 (x188.1 + 1)) s0.2.1 (w64 (s0.2.2.1 - 1)) x188.2 m1_0 m1_1 m1_2 m1_3 m1_4 m1_5) (hrc t0 t1 t2 t3 (w64 (x188.1 + 1)) s0.2.1 (w64 (s0.2.2.1 - 1)) x188.2 m1_0 m1_1 m1_2 m1_3 m1_4 m1_5) fun x191 hx191 => ?_
          conv => arg 3; whnf
          exact Ze (ih _)
         ·conv => arg 3; whnf
          refine Zf (Za t0 t1 t2 t3 (w64 (x188.1 + 1)) s0.2.1 (w64 (s0.2.2.1 - 1)) x188.2 m1_0 m1_1 m1_2 m1_3 m1_4 m1_5) (hrc t0 t1 t2 t3 (w64 (x188.1 + 1)) s0.2.1 (w64 (s0.2.2.1 - 1)) x188.2 m1_0 m1_1 m1_2 m1_3 m1_4 m1_5) fun x192 hx192 => ?_
          conv => arg 3; whnf
          exact Ze (ih _)
       ·conv => arg 3; whnf
        refine Zaa rfl ?_
        conv => arg 3; whnf
        refine Zaa rfl ?_
        conv => arg 3; whnf
        refine Zd rfl ?_ ?_
        ·conv => arg 3; whnf
         refine Zd rfl ?_ ?_
         ·conv => arg 3; whnf
          refine Zf (Za t0 t1 t2 t3 s0.1 x188.1 (w64 (s0.2.2.1 - 1)) x188.2 m1_0 m1_1 m1_2 m1_3 m1_4 m1_5) (hrc t0 t1 t2 t3 s0.1 x188.1 (w64 (s0.2.2.1 - 1)) x188.2 m1_0 m1_1 m1_2 m1_3 m1_4 m1_5) fun x193 hx193 => ?_
          conv => arg 3; whnf
          exact Ze (ih _)
         ·conv => arg 3; whnf
          refine Zf (Za t0 t1 t2 t3 s0.1 x188.1 (w64 (s0.2.2.1 - 1)) x188.2 m1_0 m1_1 m1_2 m1_3 m1_4 m1_5) (hrc t0 t1 t2 t3 s0.1 x188.1 (w64 (s0.2.2.1 - 1)) x188.2 m1_0 m1_1 m1_2 m1_3 m1_4 m1_5) fun x194 hx194 => ?_
          conv => arg 3; whnf
          exact Ze (ih _)
        ·conv => arg 3; whnf
         refine Zd rfl ?_ ?_
         ·conv => arg 3; whnf
          refine Zf (Za t0 t1 t2 t3 (w64 (x188.1 + 1)) s0.2.1 (w64 (s0.2.2.1 - 1)) x188.2 m1_0 m1_1 m1_2 m1_3 m1_4 m1_5) (hrc t0 t1 t2 t3 (w64 (x188.1 + 1)) s0.2.1 (w64 (s0.2.2.1 - 1)) x188.2 m1_0 m1_1 m1_2 m1_3 m1_4 m1_5) fun x195 hx195 => ?_
          conv => arg 3; whnf
          exact Ze (ih _)
         ·conv => arg 3; whnf
          refine Zf (Za t0 t1 t2 t3 (w64 (x188.1 + 1)) s0.2.1 (w64 (s0.2.2.1 - 1)) x188.2 m1_0 m1_1 m1_2 m1_3 m1_4 m1_5) (hrc t0 t1 t2 t3 (w64 (x188.1 + 1)) s0.2.1 (w64 (s0.2.2.1 - 1)) x188.2 m1_0 m1_1 m1_2 m1_3 m1_4 m1_5) fun x196 hx196 => ?_
          conv => arg 3; whnf
          exact Ze (ih _)
     ·conv => arg 3; whnf
      refine Zd rfl ?_ ?_
      ·conv => arg 3; whnf
       refine Zk rfl rfl fun x197 hx197 => ?_
       conv => arg 3; whnf
       refine Zg (Zv rfl hx197) ?_
       conv => arg 3; whnf
       refine Zk rfl rfl fun x198 hx198 => ?_
       conv => arg 3; whnf
       refine Zg (Zv rfl hx198) ?_
       conv => arg 3; whnf
       refine Zi _ Zz rfl fun x199 hx199 => ?_
       conv => arg 3; whnf
       refine Zd rfl ?_ ?_
       ·conv => arg 3; whnf
        refine Zf _ Zj fun x200 hx200 => ?_
        clear hx200
        rcases x200 with x200 | x200
        ·conv => arg 3; whnf
         refine ZbP rfl ?_
         conv => arg 3; whnf
         refine Zaa rfl ?_
         conv => arg 3; whnf
         refine Zd rfl ?_ ?_
         ·conv => arg 3; whnf
          refine Zd rfl ?_ ?_
          ·conv => arg 3; whnf
           refine Zf (Za t0 t1 t2 t3 s0.1 x200.1 (w64 (s0.2.2.1 - 1)) x200.2 m1_0 m1_1 m1_2 m1_3 m1_4 m1_5) (hrc t0 t1 t2 t3 s0.1 x200.1 (w64 (s0.2.2.1 - 1)) x200.2 m1_0 m1_1 m1_2 m1_3 m1_4 m1_5) fun x201 hx201 => ?_
           conv => arg 3; whnf
           exact Ze (ih _)
          ·conv => arg 3; whnf
           refine Zf (Za t0 t1 t2 t3 s0.1 x200.1 (w64 (s0.2.2.1 - 1)) x200.2 m1_0 m1_1 m1_2 m1_3 m1_4 m1_5) (hrc t0 t1 t2 t3 s0.1 x200.1 (w64 (s0.2.2.1 - 1)) x200.2 m1_0 m1_1 m1_2 m1_3 m1_4 m1_5) fun x202 hx202 => ?_
           conv => arg 3; whnf
           exact Ze (ih _)
         ·conv => arg 3; whnf
          refine Zd rfl ?_ ?_
          ·conv => arg 3; whnf
           refine Zf (Za t0 t1 t2 t3 (w64 (x200.1 + 1)) s0.2.1 (w64 (s0.2.2.1 - 1)) x200.2 m1_0 m1_1 m1_2 m1_3 m1_4 m1_5) (hrc t0 t1 t2 t3 (w64 (x200.1 + 1)) s0.2.1 (w64 (s0.2.2.1 - 1)) x200.2 m1_0 m1_1 m1_2 m1_3 m1_4 m1_5) fun x203 hx203 => ?_
           conv => arg 3; whnf
           exact Ze (ih _)
          ·conv => arg 3; whnf
           refine Zf (Za t0 t1 t2 t3 (w64 (x200.1 + 1)) s0.2.1 (w64 (s0.2.2.1 - 1)) x200.2 m1_0 m1_1 m1_2 m1_3 m1_4 m1_5) (hrc t0 t1 t2 t3 (w64 (x200.1 + 1)) s0.2.1 (w64 (s0.2.2.1 - 1)) x200.2 m1_0 m1_1 m1_2 m1_3 m1_4 m1_5) fun x204 hx204 => ?_
           conv => arg 3; whnf
           exact Ze (ih _)
        ·conv => arg 3; whnf
         refine Zaa rfl ?_
         conv => arg 3; whnf
         refine Zaa rfl ?_
         conv => arg 3; whnf
         refine Zd rfl ?_ ?_
         ·conv => arg 3; whnf
          refine Zd rfl ?_ ?_
          ·conv => arg 3; whnf
           refine Zf (Za t0 t1 t2 t3 s0.1 x200.1 (w64 (s0.2.2.1 - 1)) x200.2 m1_0 m1_1 m1_2 m1_3 m1_4 m1_5) (hrc t0 t1 t2 t3 s0.1 x200.1 (w64 (s0.2.2.1 - 1)) x200.2 m1_0 m1_1 m1_2 m1_3 m1_4 m1_5) fun x205 hx205 => ?_
           conv => arg 3; whnf
           exact Ze (ih _)
          ·conv => arg 3; whnf
           refine Zf (Za t0 t1 t2 t3 s0.1 x200.1 (w64 (s0.2.2.1 - 1)) x200.2 m1_0 m1_1 m1_2 m1_3 m1_4 m1_5) (hrc t0 t1 t2 t3 s0.1 x200.1 (w64 (s0.2.2.1 - 1)) x200.2 m1_0 m1_1 m1_2 m1_3 m1_4 m1_5) fun x206 hx206 => ?_
           conv => arg 3; whnf
           exact Ze (ih _)
         ·conv => arg 3; whnf
          refine Zd rfl ?_ ?_
          ·conv => arg 3; whnf
           refine Zf (Za t0 t1 t2 t3 (w64 (x200.1 + 1)) s0.2.1 (w64 (s0.2.2.1 - 1)) x200.2 m1_0 m1_1 m1_2 m1_3 m1_4 m1_5) (hrc t0 t1 t2 t3 (w64 (x200.1 + 1)) s0.2.1 (w64 (s0.2.2.1 - 1)) x200.2 m1_0 m1_1 m1_2 m1_3 m1_4 m1_5) fun x207 hx207 => ?_
           conv => arg 3; whnf
           exact Ze (ih _)
          ·conv => arg 3; whnf
           refine Zf (Za t0 t1 t2 t3 (w64 (x200.1 + 1)) s0.2.1 (w64 (s0.2.2.1 - 1)) x200.2 m1_0 m1_1 m1_2 m1_3 m1_4 m1_5) (hrc t0 t1 t2 t3 (w64 (x200.1 + 1)) s0.2.1 (w64 (s0.2.2.1 - 1)) x200.2 m1_0 m1_1 m1_2 m1_3 m1_4 m1_5) fun x208 hx208 => ?_
           conv => arg 3; whnf
           exact Ze (ih _)
       ·conv => arg 3; whnf
        refine Zf _ Zw fun x209 hx209 => ?_
        conv => arg 3; whnf
        exact Ze (ih _)
      ·conv => arg 3; whnf
       refine Zf _ Zj fun x210 hx210 => ?_
       clear hx210
       rcases x210 with x210 | x210
       ·conv => arg 3; whnf
        refine ZbP rfl ?_
        conv => arg 3; whnf
        refine Zaa rfl ?_
        conv => arg 3; whnf
        refine Zd rfl ?_ ?_
        ·conv => arg 3; whnf
         refine Zd rfl ?_ ?_
         ·conv => arg 3; whnf
          refine Zf (Za t0 t1 t2 t3 s0.1 x210.1 (w64 (s0.2.2.1 - 1)) x210.2 m1_0 m1_1 m1_2 m1_3 m1_4 m1_5) (hrc t0 t1 t2 t3 s0.1 x210.1 (w64 (s0.2.2.1 - 1)) x210.2 m1_0 m1_1 m1_2 m1_3 m1_4 m1_5) fun x211 hx211 => ?_
          conv => arg 3; whnf
          exact Ze (ih _)
         ·conv => arg 3; whnf
          refine Zf (Za t0 t1 t2 t3 s0.1 x210.1 (w64 (s0.2.2.1 - 1)) x210.2 m1_0 m1_1 m1_2 m1_3 m1_4 m1_5) (hrc t0 t1 t2 t3 s0.1 x210.1 (w64 (s0.2.2.1 - 1)) x210.2 m1_0 m1_1 m1_2 m1_3 m1_4 m1_5) fun x212 hx212 => ?_
          conv => arg 3; whnf
          exact Ze (ih _)
        ·conv => arg 3; whnf
         refine Zd rfl ?_ ?_
         ·conv => arg 3; whnf
          refine Zf (Za t0 t1 t2 t3 (w64 (x210.1 + 1)) s0.2.1 (w64 (s0.2.2.1 - 1)) x210.2 m1_0 m1_1 m1_2 m1_3 m1_4 m1_5) (hrc t0 t1 t2 t3 (w64 (x210.1 + 1)) s0.2.1 (w64 (s0.2.2.1 - 1)) x210.2 m1_0 m1_1 m1_2 m1_3 m1_4 m1_5) fun x213 hx213 => ?_
          conv => arg 3; whnf
          exact Ze (ih _)
         ·conv => arg 3; whnf
          refine Zf (Za t0 t1 t2 t3 (w64 (x210.1 + 1)) s0.2.1 (w64 (s0.2.2.1 - 1)) x210.2 m1_0 m1_1 m1_2 m1_3 m1_4 m1_5) (hrc t0 t1 t2 t3 (w64 (x210.1 + 1)) s0.2.1 (w64 (s0.2.2.1 - 1)) x210.2 m1_0 m1_1 m1_2 m1_3 m1_4 m1_5) fun x214 hx214 => ?_
          conv => arg 3; whnf
          exact Ze (ih _)
       ·conv => arg 3; whnf
        refine Zaa rfl ?_
        conv => arg 3; whnf
        refine Zaa rfl ?_
        conv => arg 3; whnf
        refine Zd rfl ?_ ?_
        ·conv => arg 3; whnf
         refine Zd rfl ?_ ?_
         ·conv => arg 3; whnf
          refine Zf (Za t0 t1 t2 t3 s0.1 x210.1 (w64 (s0.2.2.1 - 1)) x210.2 m1_0 m1_1 m1_2 m1_3 m1_4 m1_5) (hrc t0 t1 t2 t3 s0.1 x210.1 (w64 (s0.2.2.1 - 1)) x210.2 m1_0 m1_1 m1_2 m1_3 m1_4 m1_5) fun x215 hx215 => ?_
          conv => arg 3; whnf
          exact Ze (ih _)
         ·conv => arg 3; whnf
          refine Zf (Za t0 t1 t2 t3 s0.1 x210.1 (w64 (s0.2.2.1 - 1)) x210.2 m1_0 m1_1 m1_2 m1_3 m1_4 m1_5) (hrc t0 t1 t2 t3 s0.1 x210.1 (w64 (s0.2.2.1 - 1)) x210.2 m1_0 m1_1 m1_2 m1_3 m1_4 m1_5) fun x216 hx216 => ?_
          conv => arg 3; whnf
          exact Ze (ih _)
        ·conv => arg 3; whnf
         refine Zd rfl ?_ ?_
         ·conv => arg 3; whnf
          refine Zf (Za t0 t1 t2 t3 (w64 (x210.1 + 1)) s0.2.1 (w64 (s0.2.2.1 - 1)) x210.2 m1_0 m1_1 m1_2 m1_3 m1_4 m1_5) (hrc t0 t1 t2 t3 (w64 (x210.1 + 1)) s0.2.1 (w64 (s0.2.2.1 - 1)) x210.2 m1_0 m1_1 m1_2 m1_3 m1_4 m1_5) fun x217 hx217 => ?_
          conv => arg 3; whnf
          exact Ze (ih _)
         ·conv => arg 3; whnf
          refine Zf (Za t0 t1 t2 t3 (w64 (x210.1 + 1)) s0.2.1 (w64 (s0.2.2.1 - 1)) x210.2 m1_0 m1_1 m1_2 m1_3 m1_4 m1_5) (hrc t0 t1 t2 t3 (w64 (x210.1 + 1)) s0.2.1 (w64 (s0.2.2.1 - 1)) x210.2 m1_0 m1_1 m1_2 m1_3 m1_4 m1_5) fun x218 hx218 => ?_
          conv => arg 3; whnf
          exact Ze (ih _)
  ·refine ZsJ ?_
   conv => arg 3; whnf
   refine Zd rfl ?_ ?_
   ·conv => arg 3; whnf
    refine Zf _ Z2 fun x121 hx121 => ?_
    conv => arg 3; whnf
    exact Zc rfl
   ·conv => arg 3; whnf
    refine Zd rfl ?_ ?_
    ·conv => arg 3; whnf
     refine Zf _ Zal fun x122 hx122 => ?_
     conv => arg 3; whnf
     exact Zc rfl
    ·conv => arg 3; whnf
     refine Zf _ Zbn fun x123 hx123 => ?_
     conv => arg 3; whnf
     refine Zf _ Zad fun x124 hx124 => ?_
     conv => arg 3; whnf
     refine Zd rfl ?_ ?_
     ·conv => arg 3; whnf
      refine Zf _ Z8 fun x125 hx125 => ?_
      conv => arg 3; whnf
      refine Zd rfl ?_ ?_
      ·conv => arg 3; whnf
       refine Zk rfl rfl fun x126 hx126 => ?_
       conv => arg 3; whnf
       refine Zg (Zv rfl hx126) ?_
       conv => arg 3; whnf
       refine Zk rfl rfl fun x127 hx127 => ?_
       conv => arg 3; whnf
       refine Zg (Zv rfl hx127) ?_
       conv => arg 3; whnf
       refine Zi _ Zz rfl fun x128 hx128 => ?_
       conv => arg 3; whnf
       refine Zd rfl ?_ ?_
       ·conv => arg 3; whnf
        refine Zf _ Zj fun x129 hx129 => ?_
        clear hx129
        rcases x129 with x129 | x129
        ·conv => arg 3; whnf
         refine ZbP rfl ?_
         conv => arg 3; whnf
         refine Zaa rfl ?_
         conv => arg 3; whnf
         refine Zd rfl ?_ ?_
         ·conv => arg 3; whnf
          refine Zd rfl ?_ ?_
          ·conv => arg 3; whnf
           refine Zf (Za t0 t1 t2 t3 s0.1 x129.1 (w64 (s0.2.2.1 - 1)) x129.2 m1_0 m1_1 m1_2 m1_3 m1_4 m1_5) (hrc t0 t1 t2 t3 s0.1 x129.1 (w64 (s0.2.2.1 - 1)) x129.2 m1_0 m1_1 m1_2 m1_3 m1_4 m1_5) fun x130 hx130 => ?_
           conv => arg 3; whnf
           exact Ze (ih _)
          ·conv => arg 3; whnf
           refine Zf (Za t0 t1 t2 t3 s0.1 x129.1 (w64 (s0.2.2.1 - 1)) x129.2 m1_0 m1_1 m1_2 m1_3 m1_4 m1_5) (hrc t0 t1 t2 t3 s0.1 x129.1 (w64 (s0.2.2.1 - 1)) x129.2 m1_0 m1_1 m1_2 m1_3 m1_4 m1_5) fun x131 hx131 => ?_
           conv => arg 3; whnf
           exact Ze (ih _)
         ·conv => arg 3; whnf
          refine Zd rfl ?_ ?_
          ·conv => arg 3; whnf
           refine Zf (Za t0 t1 t2 t3 (w64 (x129.1 + 1)) s0.2.1 (w64 (s0.2.2.1 - 1)) x129.2 m1_0 m1_1 m1_2 m1_3 m1_4 m1_5) (hrc t0 t1 t2 t3 (w64 (x129.1 + 1)) s0.2.1 (w64 (s0.2.2.1 - 1)) x129.2 m1_0 m1_1 m1_2 m1_3 m1_4 m1_5) fun x132 hx132 => ?_
           conv => arg 3; whnf
           exact Ze (ih _)
          ·conv => arg 3; whnf
           refine Zf (Za t0 t1 t2 t3 (w64 (x129.1 + 1)) s0.2.1 (w64 (s0.2.2.1 - 1)) x129.2 m1_0 m1_1 m1_2 m1_3 m1_4 m1_5) (hrc t0 t1 t2 t3 (w64 (x129.1 + 1)) s0.2.1 (w64 (s0.2.2.1 - 1)) x129.2 m1_0 m1_1 m1_2 m1_3 m1_4 m1_5) fun x133 hx133 => ?_
           conv => arg 3; whnf
           exact Ze (ih _)
        ·conv => arg 3; whnf
         refine Zaa rfl ?_
         conv => arg 3; whnf
         refine Zaa rfl ?_
         conv => arg 3; whnf
         refine Zd rfl ?_ ?_
         ·conv => arg 3; whnf
          refine Zd rfl ?_ ?_
          ·conv => arg 3; whnf
           refine Zf (Za t0 t1 t2 t3 s0.1 x129.1 (w64 (s0.2.2.1 - 1)) x129.2 m1_0 m1_1 m1_2 m1_3 m1_4 m1_5) (hrc t0 t1 t2 t3 s0.1 x129.1 (w64 (s0.2.2.1 - 1)) x129.2 m1_0 m1_1 m1_2 m1_3 m1_4 m1_5) fun x134 hx134 => ?_
           conv => arg 3; whnf
           exact Ze (ih _)
          ·conv => arg 3; whnf
           refine Zf (Za t0 t1 t2 t3 s0.1 x129.1 (w64 (s0.2.2.1 - 1)) x129.2 m1_0 m1_1 m1_2 m1_3 m1_4 m1_5) (hrc t0 t1 t2 t3 s0.1 x129.1 (w64 (s0.2.2.1 - 1)) x129.2 m1_0 m1_1 m1_2 m1_3 m1_4 m1_5) fun x135 hx135 => ?_
           conv => arg 3; whnf
           exact Ze (ih _)
         ·conv => arg 3; whnf
          refine Zd rfl ?_ ?_
          ·conv => arg 3; whnf
           refine Zf (Za t0 t1 t2 t3 (w64 (x129.1 + 1)) s0.2.1 (w64 (s0.2.2.1 - 1)) x129.2 m1_0 m1_1 m1_2 m1_3 m1_4 m1_5) (hrc t0 t1 t2 t3 (w64 (x129.1 + 1)) s0.2.1 (w64 (s0.2.2.1 - 1)) x129.2 m1_0 m1_1 m1_2 m1_3 m1_4 m1_5) fun x136 hx136 => ?_
           conv => arg 3; whnf
           exact Ze (ih _)
          ·conv => arg 3; whnf
           refine Zf (Za t0 t1 t2 t3 (w64 (x129.1 + 1)) s0.2.1 (w64 (s0.2.2.1 - 1)) x129.2 m1_0 m1_1 m1_2 m1_3 m1_4 m1_5) (hrc t0 t1 t2 t3 (w64 (x129.1 + 1)) s0.2.1 (w64 (s0.2.2.1 - 1)) x129.2 m1_0 m1_1 m1_2 m1_3 m1_4 m1_5) fun x137 hx137 => ?_
           conv => arg 3; whnf
           exact Ze (ih _)
       ·conv => arg 3; whnf
        refine Zf _ Zw fun x138 hx138 => ?_
        conv => arg 3; whnf
        exact Ze (ih _)
      ·conv => arg 3; whnf
       refine Zf _ Zj fun x139 hx139 => ?_
       clear hx139
       rcases x139 with x139 | x139
       ·conv => arg 3; whnf
        refine ZbP rfl ?_
        conv => arg 3; whnf
        refine Zaa rfl ?_
        conv => arg 3; whnf
        refine Zd rfl ?_ ?_
        ·conv => arg 3; whnf
         refine Zd rfl ?_ ?_
         ·conv => arg 3; whnf
          refine Zf (Za t0 t1 t2 t3 s0.1 x139.1 (w64 (s0.2.2.1 - 1)) x139.2 m1_0 m1_1 m1_2 m1_3 m1_4 m1_5) (hrc t0 t1 t2 t3 s0.1 x139.1 (w64 (s0.2.2.1 - 1)) x139.2 m1_0 m1_1 m1_2 m1_3 m1_4 m1_5) fun x140 hx140 => ?_
          conv => arg 3; whnf
          exact Ze (ih _)
         ·conv => arg 3; whnf
          refine Zf (Za t0 t1 t2 t3 s0.1 x139.1 (w64 (s0.2.2.1 - 1)) x139.2 m1_0 m1_1 m1_2 m1_3 m1_4 m1_5) (hrc t0 t1 t2 t3 s0.1 x139.1 (w64 (s0.2.2.1 - 1)) x139.2 m1_0 m1_1 m1_2 m1_3 m1_4 m1_5) fun x141 hx141 => ?_
          conv => arg 3; whnf
          exact Ze (ih _)
        ·conv => arg 3; whnf
         refine Zd rfl ?_ ?_
         ·conv => arg 3; whnf
          refine Zf (Za t0 t1 t2 t3 (w64 (x139.1 + 1)) s0.2.1 (w64 (s0.2.2.1 - 1)) x139.2 m1_0 m1_1 m1_2 m1_3 m1_4 m1_5) (hrc t0 t1 t2 t3 (w64 (x139.1 + 1)) s0.2.1 (w64 (s0.2.2.1 - 1)) x139.2 m1_0 m1_1 m1_2 m1_3 m1_4 m1_5) fun x142 hx142 => ?_
          conv => arg 3; whnf
          exact Ze (ih _)
         ·conv => arg 3; whnf
          refine Zf (Za t0 t1 t2 t3 (w64 (x139.1 + 1)) s0.2.1 (w64 (s0.2.2.1 - 1)) x139.2 m1_0 m1_1 m1_2 m1_3 m1_4 m1_5) (hrc t0 t1 t2 t3 (w64 (x139.1 + 1)) s0.2.1 (w64 (s0.2.2.1 - 1)) x139.2 m1_0 m1_1 m1_2 m1_3 m1_4 m1_5) fun x143 hx143 => ?_
          conv => arg 3; whnf
          exact Ze (ih _)
       ·conv => arg 3; whnf
        refine Zaa rfl ?_
        conv => arg 3; whnf
        refine Zaa rfl ?_
        conv => arg 3; whnf
        refine Zd rfl ?_ ?_
        ·conv => arg 3; whnf
         refine Zd rfl ?_ ?_
         ·conv => arg 3; whnf
          refine Zf (Za t0 t1 t2 t3 s0.1 x139.1 (w64 (s0.2.2.1 - 1)) x139.2 m1_0 m1_1 m1_2 m1_3 m1_4 m1_5) (hrc t0 t1 t2 t3 s0.1 x139.1 (w64 (s0.2.2.1 - 1)) x139.2 m1_0 m1_1 m1_2 m1_3 m1_4 m1_5) fun x144 hx144 => ?_
          conv => arg 3; whnf
          exact Ze (ih _)
         ·conv => arg 3; whnf
          refine Zf (Za t0 t1 t2 t3 s0.1 x139.1 (w64 (s0.2.2.1 - 1)) x139.2 m1_0 m1_1 m1_2 m1_3 m1_4 m1_5) (hrc t0 t1 t2 t3 s0.1 x139.1 (w64 (s0.2.2.1 - 1)) x139.2 m1_0 m1_1 m1_2 m1_3 m1_4 m1_5) fun x145 hx145 => ?_
          conv => arg 3; whnf
          exact Ze (ih _)
        ·conv => arg 3; whnf
         refine Zd rfl ?_ ?_
         ·conv => arg 3; whnf
          refine Zf (Za t0 t1 t2 t3 (w64 (x139.1 + 1)) s0.2.1 (w64 (s0.2.2.1 - 1)) x139.2 m1_0 m1_1 m1_2 m1_3 m1_4 m1_5) (hrc t0 t1 t2 t3 (w64 (x139.1 + 1)) s0.2.1 (w64 (s0.2.2.1 - 1)) x139.2 m1_0 m1_1 m1_2 m1_3 m1_4 m1_5) fun x146 hx146 => ?_
          conv => arg 3; whnf
          exact Ze (ih _)
         ·conv => arg 3; whnf
          refine Zf (Za t0 t1 t2 t3 (w64 (x139.1 + 1)) s0.2.1 (w64 (s0.2.2.1 - 1)) x139.2 m1_0 m1_1 m1_2 m1_3 m1_4 m1_5) (hrc t0 t1 t2 t3 (w64 (x139.1 + 1)) s0.2.1 (w64 (s0.2.2.1 - 1)) x139.2 m1_0 m1_1 m1_2 m1_3 m1_4 m1_5) fun x147 hx147 => ?_
          conv => arg 3; whnf
          exact Ze (ih _)
     ·conv => arg 3; whnf
      refine Zd rfl ?_ ?_
      ·conv => arg 3; whnf
       refine Zk rfl rfl fun x148 hx148 => ?_
       conv => arg 3; whnf
       refine Zg (Zv rfl hx148) ?_
       conv => arg 3; whnf
       refine Zk rfl rfl fun x149 hx149 => ?_
       conv => arg 3; whnf
       refine Zg (Zv rfl hx149) ?_
       conv => arg 3; whnf
       refine Zi _ Zz rfl fun x150 hx150 => ?_
       conv => arg 3; whnf
       refine Zd rfl ?_ ?_
       ·conv => arg 3; whnf
        refine Zf _ Zj fun x151 hx151 => ?_
        clear hx151
        rcases x151 with x151 | x151
        ·conv => arg 3; whnf
         refine ZbP rfl ?_
         conv => arg 3; whnf
         refine Zaa rfl ?_
         conv => arg 3; whnf
         refine Zd rfl ?_ ?_
         ·conv => arg 3; whnf
          refine Zd rfl ?_ ?_
          ·conv => arg 3; whnf
           refine Zf (Za t0 t1 t2 t3 s0.1 x151.1 (w64 (s0.2.2.1 - 1)) x151.2 m1_0 m1_1 m1_2 m1_3 m1_4 m1_5) (hrc t0 t1 t2 t3 s0.1 x151.1 (w64 (s0.2.2.1 - 1)) x151.2 m1_0 m1_1 m1_2 m1_3 m1_4 m1_5) fun x152 hx152 => ?_
           conv => arg 3; whnf
           exact Ze (ih _)
          ·conv => arg 3; whnf
           refine Zf (Za t0 t1 t2 t3 s0.1 x151.1 (w64 (s0.2.2.1 - 1)) x151.2 m1_0 m1_1 m1_2 m1_3 m1_4 m1_5) (hrc t0 t1 t2 t3 s0.1 x151.1 (w64 (s0.2.2.1 - 1)) x151.2 m1_0 m1_1 m1_2 m1_3 m1_4 m1_5) fun x153 hx153 => ?_
           conv => arg 3; whnf
           exact Ze (ih _)
         ·conv => arg 3; whnf
          refine Zd rfl ?_ ?_
          ·conv => arg 3; whnf
           refine Zf (Za t0 t1 t2 t3 (w64 (x151.1 + 1)) s0.2.1 (w64 (s0.2.2.1 - 1)) x151.2 m1_0 m1_1 m1_2 m1_3 m1_4 m1_5) (hrc t0 t1 t2 t3 (w64 (x151.1 + 1)) s0.2.1 (w64 (s0.2.2.1 - 1)) x151.2 m1_0 m1_1 m1_2 m1_3 m1_4 m1_5) fun x154 hx154 => ?_
           conv => arg 3; whnf
           exact Ze (ih _)
          ·conv => arg 3; whnf
           refine Zf (Za t0 t1 t2 t3 (w64 (x151.1 + 1)) s0.2.1 (w64 (s0.2.2.1 - 1)) x151.2 m1_0 m1_1 m1_2 m1_3 m1_4 m1_5) (hrc t0 t1 t2 t3 (w64 (x151.1 + 1)) s0.2.1 (w64 (s0.2.2.1 - 1)) x151.2 m1_0 m1_1 m1_2 m1_3 m1_4 m1_5) fun x155 hx155 => ?_
           conv => arg 3; whnf
           exact Ze (ih _)
        ·conv => arg 3; whnf
         refine Zaa rfl ?_
         conv => arg 3; whnf
         refine Zaa rfl ?_
         conv => arg 3; whnf
         refine Zd rfl ?_ ?_
         ·conv => arg 3; whnf
          refine Zd rfl ?_ ?_
          ·conv => arg 3; whnf
           refine Zf (Za t0 t1 t2 t3 s0.1 x151.1 (w64 (s0.2.2.1 - 1)) x151.2 m1_0 m1_1 m1_2 m1_3 m1_4 m1_5) (hrc t0 t1 t2 t3 s0.1 x151.1 (w64 (s0.2.2.1 - 1)) x151.2 m1_0 m1_1 m1_2 m1_3 m1_4 m1_5) fun x156 hx156 => ?_
           conv => arg 3; whnf
           exact Ze (ih _)
          ·conv => arg 3; whnf
           refine Zf (Za t0 t1 t2 t3 s0.1 x151.1 (w64 (s0.2.2.1 - 1)) x151.2 m1_0 m1_1 m1_2 m1_3 m1_4 m1_5) (hrc t0 t1 t2 t3 s0.1 x151.1 (w64 (s0.2.2.1 - 1)) x151.2 m1_0 m1_1 m1_2 m1_3 m1_4 m1_5) fun x157 hx157 => ?_
           conv => arg 3; whnf
           exact Ze (ih _)
         ·conv => arg 3; whnf
          refine Zd rfl ?_ ?_
          ·conv => arg 3; whnf
           refine Zf (Za t0 t1 t2 t3 (w64 (x151.1 + 1)) s0.2.1 (w64 (s0.2.2.1 - 1)) x151.2 m1_0 m1_1 m1_2 m1_3 m1_4 m1_5) (hrc t0 t1 t2 t3 (w64 (x151.1 + 1)) s0.2.1 (w64 (s0.2.2.1 - 1)) x151.2 m1_0 m1_1 m1_2 m1_3 m1_4 m1_5) fun x158 hx158 => ?_
           conv => arg 3; whnf
           exact Ze (ih _)
          ·conv => arg 3; whnf
           refine Zf (Za t0 t1 t2 t3 (w64 (x151.1 + 1)) s0.2.1 (w64 (s0.2.2.1 - 1)) x151.2 m1_0 m1_1 m1_2 m1_3 m1_4 m1_5) (hrc t0 t1 t2 t3 (w64 (x151.1 + 1)) s0.2.1 (w64 (s0.2.2.1 - 1)) x151.2 m1_0 m1_1 m1_2 m1_3 m1_4 m1_5) fun x159 hx159 => ?_
           conv => arg 3; whnf
           exact Ze (ih _)
       ·conv => arg 3; whnf
        refine Zf _ Zw fun x160 hx160 => ?_
        conv => arg 3; whnf
        exact Ze (ih _)
      ·conv => arg 3; whnf
       refine Zf _ Zj fun x161 hx161 => ?_
       clear hx161
       rcases x161 with x161 | x161
       ·conv => arg 3; whnf
        refine ZbP rfl ?_
        conv => arg 3; whnf
        refine Zaa rfl ?_
        conv => arg 3; whnf
        refine Zd rfl ?_ ?_
        ·conv => arg 3; whnf
         refine Zd rfl ?_ ?_
         ·conv => arg 3; whnf
          refine Zf (Za t0 t1 t2 t3 s0.1 x161.1 (w64 (s0.2.2.1 - 1)) x161.2 m1_0 m1_1 m1_2 m1_3 m1_4 m1_5) (hrc t0 t1 t2 t3 s0.1 x161.1 (w64 (s0.2.2.1 - 1)) x161.2 m1_0 m1_1 m1_2 m1_3 m1_4 m1_5) fun x162 hx162 => ?_
          conv => arg 3; whnf
          exact Ze (ih _)
         ·conv => arg 3; whnf
          refine Zf (Za t0 t1 t2 t3 s0.1 x161.1 (w64 (s0.2.2.1 - 1)) x161.2 m1_0 m1_1 m1_2 m1_3 m1_4 m1_5) (hrc t0 t1 t2 t3 s0.1 x161.1 (w64 (s0.2.2.1 - 1)) x161.2 m1_0 m1_1 m1_2 m1_3 m1_4 m1_5) fun x163 hx163 => ?_
          conv => arg 3; whnf
          exact Ze (ih _)
        ·conv => arg 3; whnf
         refine Zd rfl ?_ ?_
         ·conv => arg 3; whnf
          refine Zf (Za t0 t1 t2 t3 (w64 (x161.1 + 1)) s0.2.1 (w64 (s0.2.2.1 - 1)) x161.2 m1_0 m1_1 m1_2 m1_3 m1_4 m1_5) (hrc t0 t1 t2 t3 (w64 (x161.1 + 1)) s0.2.1 (w64 (s0.2.2.1 - 1)) x161.2 m1_0 m1_1 m1_2 m1_3 m1_4 m1_5) fun x164 hx164 => ?_
          conv => arg 3; whnf
          exact Ze (ih _)
         ·conv => arg 3; whnf
          refine Zf (Za t0 t1 t2 t3 (w64 (x161.1 + 1)) s0.2.1 (w64 (s0.2.2.1 - 1)) x161.2 m1_0 m1_1 m1_2 m1_3 m1_4 m1_5) (hrc t0 t1 t2 t3 (w64 (x161.1 + 1)) s0.2.1 (w64 (s0.2.2.1 - 1)) x161.2 m1_0 m1_1 m1_2 m1_3 m1_4 m1_5) fun x165 hx165 => ?_
          conv => arg 3; whnf
          exact Ze (ih _)
       ·conv => arg 3; whnf
        refine Zaa rfl ?_
        conv => arg 3; whnf
        refine Zaa rfl ?_
        conv => arg 3; whnf
        refine Zd rfl ?_ ?_
        ·conv => arg 3; whnf
         refine Zd rfl ?_ ?_
         ·conv => arg 3; whnf
          refine Zf (Za t0 t1 t2 t3 s0.1 x161.1 (w64 (s0.2.2.1 - 1)) x161.2 m1_0 m1_1 m1_2 m1_3 m1_4 m1_5) (hrc t0 t1 t2 t3 s0.1 x161.1 (w64 (s0.2.2.1 - 1)) x161.2 m1_0 m1_1 m1_2 m1_3 m1_4 m1_5) fun x166 hx166 => ?_
          conv => arg 3; whnf
          exact Ze (ih _)
         ·conv => arg 3; whnf
          refine Zf (Za t0 t1 t2 t3 s0.1 x161.1 (w64 (s0.2.2.1 - 1)) x161.2 m1_0 m1_1 m1_2 m1_3 m1_4 m1_5) (hrc t0 t1 t2 t3 s0.1 x161.1 (w64 (s0.2.2.1 - 1)) x161.2 m1_0 m1_1 m1_2 m1_3 m1_4 m1_5) fun x167 hx167 => ?_
          conv => arg 3; whnf
          exact Ze (ih _)
        ·conv => arg 3; whnf
         refine Zd rfl ?_ ?_
         ·conv => arg 3; whnf
          refine Zf (Za t0 t1 t2 t3 (w64 (x161.1 + 1)) s0.2.1 (w64 (s0.2.2.1 - 1)) x161.2 m1_0 m1_1 m1_2 m1_3 m1_4 m1_5) (hrc t0 t1 t2 t3 (w64 (x161.1 + 1)) s0.2.1 (w64 (s0.2.2.1 - 1)) x161.2 m1_0 m1_1 m1_2 m1_3 m1_4 m1_5) fun x168 hx168 => ?_
          conv => arg 3; whnf
          exact Ze (ih _)
         ·conv => arg 3; whnf
          refine Zf (Za t0 t1 t2 t3 (w64 (x161.1 + 1)) s0.2.1 (w64 (s0.2.2.1 - 1)) x161.2 m1_0 m1_1 m1_2 m1_3 m1_4 m1_5) (hrc t0 t1 t2 t3 (w64 (x161.1 + 1)) s0.2.1 (w64 (s0.2.2.1 - 1)) x161.2 m1_0 m1_1 m1_2 m1_3 m1_4 m1_5) fun x169 hx169 => ?_
          conv => arg 3; whnf
          exact Ze (ih _)
 ·refine ZsJ ?_
  rcases hb : s0.2.2.2.2.1 with _ | _
  ·refine Zsd ?_
   conv => arg 3; whnf
   refine Zd rfl ?_ ?_
   ·conv => arg 3; whnf
    refine Zf _ Z2 fun x73 hx73 => ?_
    conv => arg 3; whnf
    exact Zc rfl
   ·conv => arg 3; whnf
    refine Zd rfl ?_ ?_
    ·conv => arg 3; whnf
     refine Zf _ Zal fun x74 hx74 => ?_
     conv => arg 3; whnf
     exact Zc rfl
    ·conv => arg 3; whnf
     refine Zf _ Zad fun x75 hx75 => ?_
     conv => arg 3; whnf
     refine Zd rfl ?_ ?_
     ·conv => arg 3; whnf
      refine Zf _ Z8 fun x76 hx76 => ?_
      conv => arg 3; whnf
      refine Zd rfl ?_ ?_
      ·conv => arg 3; whnf
       refine Zk rfl rfl fun x77 hx77 => ?_
       conv => arg 3; whnf
       refine Zg (Zv rfl hx77) ?_
       conv => arg 3; whnf
       refine Zk rfl rfl fun x78 hx78 => ?_
       conv => arg 3; whnf
       refine Zg (Zv rfl hx78) ?_
       conv => arg 3; whnf
       refine Zi _ Zz rfl fun x79 hx79 => ?_
       conv => arg 3; whnf
       refine Zd rfl ?_ ?_
       ·conv => arg 3; whnf
        refine Zf _ Zj fun x80 hx80 => ?_
        clear hx80
        rcases x80 with x80 | x80
        ·conv => arg 3; whnf
         refine ZbP rfl ?_
         conv => arg 3; whnf
         refine Zaa rfl ?_
         conv => arg 3; whnf
         refine Zd rfl ?_ ?_
         ·conv => arg 3; whnf
          refine Zd rfl ?_ ?_
          ·conv => arg 3; whnf
           refine Zf (Za t0 t1 t2 t3 s0.1 x80.1 s0.2.2.1 x80.2 m1_0 m1_1 m1_2 m1_3 m1_4 m1_5) (hrc t0 t1 t2 t3 s0.1 x80.1 s0.2.2.1 x80.2 m1_0 m1_1 m1_2 m1_3 m1_4 m1_5) fun x81 hx81 => ?_
           conv => arg 3; whnf
           exact Ze (ih _)
          ·conv => arg 3; whnf
           refine Zf (Za t0 t1 t2 t3 s0.1 x80.1 s0.2.2.1 x80.2 m1_0 m1_1 m1_2 m1_3 m1_4 m1_5) (hrc t0 t1 t2 t3 s0.1 x80.1 s0.2.2.1 x80.2 m1_0 m1_1 m1_2 m1_3 m1_4 m1_5) fun x82 hx82 => ?_
           conv => arg 3; whnf
           exact Ze (ih _)
         ·conv => arg 3; whnf
          refine Zd rfl ?_ ?_
          ·conv => arg 3; whnf
           refine Zf (Za t0 t1 t2 t3 (w64 (x80.1 + 1)) s0.2.1 s0.2.2.1 x80.2 m1_0 m1_1 m1_2 m1_3 m1_4 m1_5) (hrc t0 t1 t2 t3 (w64 (x80.1 + 1)) s0.2.1 s0.2.2.1 x80.2 m1_0 m1_1 m1_2 m1_3 m1_4 m1_5) fun x83 hx83 => ?_
           conv => arg 3; whnf
           exact Ze (ih _)
          ·conv => arg 3; whnf
           refine Zf (Za t0 t1 t2 t3 (w64 (x80.1 + 1)) s0.2.1 s0.2.2.1 x80.2 m1_0 m1_1 m1_2 m1_3 m1_4 m1_5) (hrc t0 t1 t2 t3 (w64 (x80.1 + 1)) s0.2.1 s0.2.2.1 x80.2 m1_0 m1_1 m1_2 m1_3 m1_4 m1_5) fun x84 hx84 => ?_
           conv => arg 3; whnf
           exact Ze (ih _)
        ·conv => arg 3; whnf
         refine Zaa rfl ?_
         conv => arg 3; whnf
         refine Zaa rfl ?_
         conv => arg 3; whnf
         refine Zd rfl ?_ ?_
         ·conv => arg 3; whnf
          refine Zd rfl ?_ ?_
          ·conv => arg 3; whnf
           refine Zf (Za t0 t1 t2 t3 s0.1 x80.1 s0.2.2.1 x80.2 m1_0 m1_1 m1_2 m1_3 m1_4 m1_5) (hrc t0 t1 t2 t3 s0.1 x80.1 s0.2.2.1 x80.2 m1_0 m1_1 m1_2 m1_3 m1_4 m1_5) fun x85 hx85 => ?_
           conv => arg 3; whnf
           exact Ze (ih _)
          ·conv => arg 3; whnf
           refine Zf (Za t0 t1 t2 t3 s0.1 x80.1 s0.2.2.1 x80.2 m1_0 m1_1 m1_2 m1_3 m1_4 m1_5) (hrc t0 t1 t2 t3 s0.1 x80.1 s0.2.2.1 x80.2 m1_0 m1_1 m1_2 m1_3 m1_4 m1_5) fun x86 hx86 => ?_
           conv => arg 3; whnf
           exact Ze (ih _)
         ·conv => arg 3; whnf
          refine Zd rfl ?_ ?_
          ·conv => arg 3; whnf
           refine Zf (Za t0 t1 t2 t3 (w64 (x80.1 + 1)) s0.2.1 s0.2.2.1 x80.2 m1_0 m1_1 m1_2 m1_3 m1_4 m1_5) (hrc t0 t1 t2 t3 (w64 (x80.1 + 1)) s0.2.1 s0.2.2.1 x80.2 m1_0 m1_1 m1_2 m1_3 m1_4 m1_5) fun x87 hx87 => ?_
           conv => arg 3; whnf
           exact Ze (ih _)
          ·conv => arg 3; whnf
           refine Zf (Za t0 t1 t2 t3 (w64 (x80.1 + 1)) s0.2.1 s0.2.2.1 x80.2 m1_0 m1_1 m1_2 m1_3 m1_4 m1_5) (hrc t0 t1 t2 t3 (w64 (x80.1 + 1)) s0.2.1 s0.2.2.1 x80.2 m1_0 m1_1 m1_2 m1_3 m1_4 m1_5) fun x88 hx88 => ?_
           conv => arg 3; whnf
           exact Ze (ih _)
       ·conv => arg 3; whnf
        refine Zf _ Zw fun x89 hx89 => ?_
        conv => arg 3; whnf
        exact Ze (ih _)
      ·conv => arg 3; whnf
       refine Zf _ Zj fun x90 hx90 => ?_
       clear hx90
       rcases x90 with x90 | x90
       ·conv => arg 3; whnf
        refine ZbP rfl ?_
        conv => arg 3; whnf
        refine Zaa rfl ?_
        conv => arg 3; whnf
        refine Zd rfl ?_ ?_
        ·conv => arg 3; whnf
         refine Zd rfl ?_ ?_
         ·conv => arg 3; whnf
          refine Zf (Za t0 t1 t2 t3 s0.1 x90.1 s0.2.2.1 x90.2 m1_0 m1_1 m1_2 m1_3 m1_4 m1_5) (hrc t0 t1 t2 t3 s0.1 x90.1 s0.2.2.1 x90.2 m1_0 m1_1 m1_2 m1_3 m1_4 m1_5) fun x91 hx91 => ?_
          conv => arg 3; whnf
          exact Ze (ih _)
         ·conv => arg 3; whnf
          refine Zf (Za t0 t1 t2 t3 s0.1 x90.1 s0.2.2.1 x90.2 m1_0 m1_1 m1_2 m1_3 m1_4 m1_5) (hrc t0 t1 t2 t3 s0.1 x90.1 s0.2.2.1 x90.2 m1_0 m1_1 m1_2 m1_3 m1_4 m1_5) fun x92 hx92 => ?_
          conv => arg 3; whnf
          exact Ze (ih _)
        ·conv => arg 3; whnf
         refine Zd rfl ?_ ?_
         ·conv => arg 3; whnf
          refine Zf (Za t0 t1 t2 t3 (w64 (x90.1 + 1)) s0.2.1 s0.2.2.1 x90.2 m1_0 m1_1 m1_2 m1_3 m1_4 m1_5) (hrc t0 t1 t2 t3 (w64 (x90.1 + 1)) s0.2.1 s0.2.2.1 x90.2 m1_0 m1_1 m1_2 m1_3 m1_4 m1_5) fun x93 hx93 => ?_
          conv => arg 3; whnf
          exact Ze (ih _)
         ·conv => arg 3; whnf
          refine Zf (Za t0 t1 t2 t3 (w64 (x90.1 + 1)) s0.2.1 s0.2.2.1 x90.2 m1_0 m1_1 m1_2 m1_3 m1_4 m1_5) (hrc t0 t1 t2 t3 (w64 (x90.1 + 1)) s0.2.1 s0.2.2.1 x90.2 m1_0 m1_1 m1_2 m1_3 m1_4 m1_5) fun x94 hx94 => ?_
          conv => arg 3; whnf
          exact Ze (ih _)
       ·conv => arg 3; whnf
        refine Zaa rfl ?_
        conv => arg 3; whnf
        refine Zaa rfl ?_
        conv => arg 3; whnf
        refine Zd rfl ?_ ?_
        ·conv => arg 3; whnf
         refine Zd rfl ?_ ?_
         ·conv => arg 3; whnf
          refine Zf (Za t0 t1 t2 t3 s0.1 x90.1 s0.2.2.1 x90.2 m1_0 m1_1 m1_2 m1_3 m1_4 m1_5) (hrc t0 t1 t2 t3 s0.1 x90.1 s0.2.2.1 x90.2 m1_0 m1_1 m1_2 m1_3 m1_4 m1_5) fun x95 hx95 => ?_
          conv => arg 3; whnf
          exact Ze (ih _)
         ·conv => arg 3; whnf
          refine Zf (Za t0 t1 t2 t3 s0.1 x90.1 s0.2.2.1 x90.2 m1_0 m1_1 m1_2 m1_3 m1_4 m1_5) (hrc t0 t1 t2 t3 s0.1 x90.1 s0.2.2.1 x90.2 m1_0 m1_1 m1_2 m1_3 m1_4 m1_5) fun x96 hx96 => ?_
          conv => arg 3; whnf
          exact Ze (ih _)
        ·conv => arg 3; whnf
         refine Zd rfl ?_ ?_
         ·conv => arg 3; whnf
          refine Zf (Za t0 t1 t2 t3 (w64 (x90.1 + 1)) s0.2.1 s0.2.2.1 x90.2 m1_0 m1_1 m1_2 m1_3 m1_4 m1_5) (hrc t0 t1 t2 t3 (w64 (x90.1 + 1)) s0.2.1 s0.2.2.1 x90.2 m1_0 m1_1 m1_2 m1_3 m1_4 m1_5) fun x97 hx97 => ?_
          conv => arg 3; whnf
          exact Ze (ih _)
         ·conv => arg 3; whnf
          refine Zf (Za t0 t1 t2 t3 (w64 (x90.1 + 1)) s0.2.1 s0.2.2.1 x90.2 m1_0 m1_1 m1_2 m1_3 m1_4 m1_5) (hrc t0 t1 t2 t3 (w64 (x90.1 + 1)) s0.2.1 s0.2.2.1 x90.2 m1_0 m1_1 m1_2 m1_3 m1_4 m1_5) fun x98 hx98 => ?_
          conv => arg 3; whnf
          exact Ze (ih _)
     ·conv => arg 3; whnf
      refine Zd rfl ?_ ?_
      ·conv => arg 3; whnf
       refine Zk rfl rfl fun x99 hx99 => ?_
       conv => arg 3; whnf
       refine Zg (Zv rfl hx99) ?_
       conv => arg 3; whnf
       refine Zk rfl rfl fun x100 hx100 => ?_
       conv => arg 3; whnf
       refine Zg (Zv rfl hx100) ?_
       conv => arg 3; whnf
       refine Zi _ Zz rfl fun x101 hx101 => ?_
       conv => arg 3; whnf
       refine Zd rfl ?_ ?_
       ·conv => arg 3; whnf
        refine Zf _ Zj fun x102 hx102 => ?_
        clear hx102
        rcases x102 with x102 | x102
        ·conv => arg 3; whnf
         refine ZbP rfl ?_
         conv => arg 3; whnf
         refine Zaa rfl ?_
         conv => arg 3; whnf
         refine Zd rfl ?_ ?_
         ·conv => arg 3; whnf
          refine Zd rfl ?_ ?_
          ·conv => arg 3; whnf
           refine Zf (Za t0 t1 t2 t3 s0.1 x102.1 s0.2.2.1 x102.2 m1_0 m1_1 m1_2 m1_3 m1_4 m1_5) (hrc t0 t1 t2 t3 s0.1 x102.1 s0.2.2.1 x102.2 m1_0 m1_1 m1_2 m1_3 m1_4 m1_5) fun x103 hx103 => ?_
           conv => arg 3; whnf
           exact Ze (ih _)
          ·conv => arg 3; whnf
           refine Zf (Za t0 t1 t2 t3 s0.1 x102.1 s0.2.2.1 x102.2 m1_0 m1_1 m1_2 m1_3 m1_4 m1_5) (hrc t0 t1 t2 t3 s0.1 x102.1 s0.2.2.1 x102.2 m1_0 m1_1 m1_2 m1_3 m1_4 m1_5) fun x104 hx104 => ?_
           conv => arg 3; whnf
           exact Ze (ih _)
         ·conv => arg 3; whnf
          refine Zd rfl ?_ ?_
          ·conv => arg 3; whnf
           refine Zf (Za t0 t1 t2 t3 (w64 (x102.1 + 1)) s0.2.1 s0.2.2.1 x102.2 m1_0 m1_1 m1_2 m1_3 m1_4 m1_5) (hrc t0 t1 t2 t3 (w64 (x102.1 + 1)) s0.2.1 s0.2.2.1 x102.2 m1_0 m1_1 m1_2 m1_3 m1_4 m1_5) fun x105 hx105 => ?_
           conv => arg 3; whnf
           exact Ze (ih _)
          ·conv => arg 3; whnf
           refine Zf (Za t0 t1 t2 t3 (w64 (x102.1 + 1)) s0.2.1 s0.2.2.1 x102.2 m1_0 m1_1 m1_2 m1_3 m1_4 m1_5) (hrc t0 t1 t2 t3 (w64 (x102.1 + 1)) s0.2.1 s0.2.2.1 x102.2 m1_0 m1_1 m1_2 m1_3 m1_4 m1_5) fun x106 hx106 => ?_
           conv => arg 3; whnf
           exact Ze (ih _)
        ·conv => arg 3; whnf
         refine Zaa rfl ?_
         conv => arg 3; whnf
         refine Zaa rfl ?_
         conv => arg 3; whnf
         refine Zd rfl ?_ ?_
         ·conv => arg 3; whnf
          refine Zd rfl ?_ ?_
          ·conv => arg 3; whnf
           refine Zf (Za t0 t1 t2 t3 s0.1 x102.1 s0.2.2.1 x102.2 m1_0 m1_1 m1_2 m1_3 m1_4 m1_5) (hrc t0 t1 t2 t3 s0.1 x102.1 s0.2.2.1 x102.2 m1_0 m1_1 m1_2 m1_3 m1_4 m1_5) fun x107 hx107 => ?_
           conv => arg 3; whnf
           exact Ze (ih _)
          ·conv => arg 3; whnf
           refine Zf (Za t0 t1 t2 t3 s0.1 x102.1 s0.2.2.1 x102.2 m1_0 m1_1 m1_2 m1_3 m1_4 m1_5) (hrc t0 t1 t2 t3 s0.1 x102.1 s0.2.2.1 x102.2 m1_0 m1_1 m1_2 m1_3 m1_4 m1_5) fun x108 hx108 => ?_
           conv => arg 3; whnf
           exact Ze (ih _)
         ·conv => arg 3; whnf
          refine Zd rfl ?_ ?_
          ·conv => arg 3; whnf
           refine Zf (Za t0 t1 t2 t3 (w64 (x102.1 + 1)) s0.2.1 s0.2.2.1 x102.2 m1_0 m1_1 m1_2 m1_3 m1_4 m1_5) (hrc t0 t1 t2 t3 (w64 (x102.1 + 1)) s0.2.1 s0.2.2.1 x102.2 m1_0 m1_1 m1_2 m1_3 m1_4 m1_5) fun x109 hx109 => ?_
           conv => arg 3; whnf
           exact Ze (ih _)
          ·conv => arg 3; whnf
           refine Zf (Za t0 t1 t2 t3 (w64 (x102.1 + 1)) s0.2.1 s0.2.2.1 x102.2 m1_0 m1_1 m1_2 m1_3 m1_4 m1_5) (hrc t0 t1 t2 t3 (w64 (x102.1 + 1)) s0.2.1 s0.2.2.1 x102.2 m1_0 m1_1 m1_2 m1_3 m1_4 m1_5) fun x110 hx110 => ?_
           conv => arg 3; whnf
           exact Ze (ih _)
       ·conv => arg 3; whnf
        refine Zf _ Zw fun x111 hx111 => ?_
        conv => arg 3; whnf
        exact Ze (ih _)
      ·conv => arg 3; whnf
       refine Zf _ Zj fun x112 hx112 => ?_
       clear hx112
       rcases x112 with x112 | x112
       ·conv => arg 3; whnf
        refine ZbP rfl ?_
        conv => arg 3; whnf
        refine Zaa rfl ?_
        conv => arg 3; whnf
        refine Zd rfl ?_ ?_
        ·conv => arg 3; whnf
         refine Zd rfl ?_ ?_
         ·conv => arg 3; whnf
          refine Zf (Za t0 t1 t2 t3 s0.1 x112.1 s0.2.2.1 x112.2 m1_0 m1_1 m1_2 m1_3 m1_4 m1_5) (hrc t0 t1 t2 t3 s0.1 x112.1 s0.2.2.1 x112.2 m1_0 m1_1 m1_2 m1_3 m1_4 m1_5) fun x113 hx113 => ?_
          conv => arg 3; whnf
          exact Ze (ih _)
         ·conv => arg 3; whnf
          refine Zf (Za t0 t1 t2 t3 s0.1 x112.1 s0.2.2.1 x112.2 m1_0 m1_1 m1_2 m1_3 m1_4 m1_5) (hrc t0 t1 t2 t3 s0.1 x112.1 s0.2.2.1 x112.2 m1_0 m1_1 m1_2 m1_3 m1_4 m1_5) fun x114 hx114 => ?_
          conv => arg 3; whnf
          exact Ze (ih _)
        ·conv => arg 3; whnf
         refine Zd rfl ?_ ?_
         ·conv => arg 3; whnf
          refine Zf (Za t0 t1 t2 t3 (w64 (x112.1 + 1)) s0.2.1 s0.2.2.1 x112.2 m1_0 m1_1 m1_2 m1_3 m1_4 m1_5) (hrc t0 t1 t2 t3 (w64 (x112.1 + 1)) s0.2.1 s0.2.2.1 x112.2 m1_0 m1_1 m1_2 m1_3 m1_4 m1_5) fun x115 hx115 => ?_
          conv => arg 3; whnf
          exact Ze (ih _)
         ·conv => arg 3; whnf
          refine Zf (Za t0 t1 t2 t3 (w64 (x112.1 + 1)) s0.2.1 s0.2.2.1 x112.2 m1_0 m1_1 m1_2 m1_3 m1_4 m1_5) (hrc t0 t1 t2 t3 (w64 (x112.1 + 1)) s0.2.1 s0.2.2.1 x112.2 m1_0 m1_1 m1_2 m1_3 m1_4 m1_5) fun x116 hx116 => ?_
          conv => arg 3; whnf
          exact Ze (ih _)
       ·conv => arg 3; whnf
        refine Zaa rfl ?_
        conv => arg 3; whnf
        refine Zaa rfl ?_
        conv => arg 3; whnf
        refine Zd rfl ?_ ?_
        ·conv => arg 3; whnf
         refine Zd rfl ?_ ?_
         ·conv => arg 3; whnf
          refine Zf (Za t0 t1 t2 t3 s0.1 x112.1 s0.2.2.1 x112.2 m1_0 m1_1 m1_2 m1_3 m1_4 m1_5) (hrc t0 t1 t2 t3 s0.1 x112.1 s0.2.2.1 x112.2 m1_0 m1_1 m1_2 m1_3 m1_4 m1_5) fun x117 hx117 => ?_
          conv => arg 3; whnf
          exact Ze (ih _)
         ·conv => arg 3; whnf
          refine Zf (Za t0 t1 t2 t3 s0.1 x112.1 s0.2.2.1 x112.2 m1_0 m1_1 m1_2 m1_3 m1_4 m1_5) (hrc t0 t1 t2 t3 s0.1 x112.1 s0.2.2.1 x112.2 m1_0 m1_1 m1_2 m1_3 m1_4 m1_5) fun x118 hx118 => ?_
          conv => arg 3; whnf
          exact Ze (ih _)
        ·conv => arg 3; whnf
         refine Zd rfl ?_ ?_
         ·conv => arg 3; whnf
          refine Zf (Za t0 t1 t2 t3 (w64 (x112.1 + 1)) s0.2.1 s0.2.2.1 x112.2 m1_0 m1_1 m1_2 m1_3 m1_4 m1_5) (hrc t0 t1 t2 t3 (w64 (x112.1 + 1)) s0.2.1 s0.2.2.1 x112.2 m1_0 m1_1 m1_2 m1_3 m1_4 m1_5) fun x119 hx119 => ?_
          conv => arg 3; whnf
          exact Ze (ih _)
         ·conv => arg 3; whnf
          refine Zf (Za t0 t1 t2 t3 (w64 (x112.1 + 1)) s0.2.1 s0.2.2.1 x112.2 m1_0 m1_1 m1_2 m1_3 m1_4 m1_5) (hrc t0 t1 t2 t3 (w64 (x112.1 + 1)) s0.2.1 s0.2.2.1 x112.2 m1_0 m1_1 m1_2 m1_3 m1_4 m1_5) fun x120 hx120 => ?_
          conv => arg 3; whnf
          exact Ze (ih _)
  ·refine ZsJ ?_
   conv => arg 3; whnf
   refine Zd rfl ?_ ?_
   ·conv => arg 3; whnf
    refine Zf _ Z2 fun x1 hx1 => ?_
    conv => arg 3; whnf
    exact Zc rfl
   ·conv => arg 3; whnf
    refine Zd rfl ?_ ?_
    ·conv => arg 3; whnf
     refine Zf _ Zal fun x2 hx2 => ?_
     conv => arg 3; whnf
     exact Zc rfl
    ·conv => arg 3; whnf
     refine Zf _ Zad fun x3 hx3 => ?_
     conv => arg 3; whnf
     refine Zd rfl ?_ ?_
     ·conv => arg 3; whnf
      refine Zf _ Z8 fun x4 hx4 => ?_
      conv => arg 3; whnf
      refine ZbP rfl ?_
      conv => arg 3; whnf
      refine Zf _ Za1 fun x5 hx5 => ?_
      clear hx5
      rcases x5 with x5 | x5
      ·conv => arg 3; whnf
       exact Zc rfl
      ·conv => arg 3; whnf
       refine Zd rfl ?_ ?_
       ·conv => arg 3; whnf
        refine Zk rfl rfl fun x6 hx6 => ?_
        conv => arg 3; whnf
        refine Zg (Zv rfl hx6) ?_
        conv => arg 3; whnf
        refine Zk rfl rfl fun x7 hx7 => ?_
        conv => arg 3; whnf
        refine Zg (Zv rfl hx7) ?_
        conv => arg 3; whnf
        refine Zi _ Zz rfl fun x8 hx8 => ?_
        conv => arg 3; whnf
        refine Zd rfl ?_ ?_
        ·conv => arg 3; whnf
         refine Zf _ Zj fun x9 hx9 => ?_
         clear hx9
         rcases x9 with x9 | x9
         ·conv => arg 3; whnf
          refine ZbP rfl ?_
          conv => arg 3; whnf
          refine Zaa rfl ?_
          conv => arg 3; whnf
          refine Zd rfl ?_ ?_
          ·conv => arg 3; whnf
           refine Zd rfl ?_ ?_
           ·conv => arg 3; whnf
            refine Zf (Za t0 t1 t2 t3 s0.1 x9.1 s0.2.2.1 x9.2 m1_0 m1_1 m1_2 m1_3 m1_4 m1_5) (hrc t0 t1 t2 t3 s0.1 x9.1 s0.2.2.1 x9.2 m1_0 m1_1 m1_2 m1_3 m1_4 m1_5) fun x10 hx10 => ?_
            conv => arg 3; whnf
            exact Ze (ih _)
           ·conv => arg 3; whnf
            refine Zf (Za t0 t1 t2 t3 s0.1 x9.1 s0.2.2.1 x9.2 m1_0 m1_1 m1_2 m1_3 m1_4 m1_5) (hrc t0 t1 t2 t3 s0.1 x9.1 s0.2.2.1 x9.2 m1_0 m1_1 m1_2 m1_3 m1_4 m1_5) fun x11 hx11 => ?_
            conv => arg 3; whnf
            exact Ze (ih _)
          ·conv => arg 3; whnf
           refine Zd rfl ?_ ?_
           ·conv => arg 3; whnf
            refine Zf (Za t0 t1 t2 t3 (w64 (x9.1 + 1)) s0.2.1 s0.2.2.1 x9.2 m1_0 m1_1 m1_2 m1_3 m1_4 m1_5) (hrc t0 t1 t2 t3 (w64 (x9.1 + 1)) s0.2.1 s0.2.2.1 x9.2 m1_0 m1_1 m1_2 m1_3 m1_4 m1_5) fun x12 hx12 => ?_
            conv => arg 3; whnf
            exact Ze (ih _)
           ·conv => arg 3; whnf
            refine Zf (Za t0 t1 t2 t3 (w64 (x9.1 + 1)) s0.2.1 s0.2.2.1 x9.2 m1_0 m1_1 m1_2 m1_3 m1_4 m1_5) (hrc t0 t1 t2 t3 (w64 (x9.1 + 1)) s0.2.1 s0.2.2.1 x9.2 m1_0 m1_1 m1_2 m1_3 m1_4 m1_5) fun x13 hx13 => ?_
            conv => arg 3; whnf
            exact Ze (ih _)
         ·conv => arg 3; whnf
          refine Zaa rfl ?_
          conv => arg 3; whnf
          refine Zaa rfl ?_
          conv => arg 3; whnf
          refine Zd rfl ?_ ?_
          ·conv => arg 3; whnf
           refine Zd rfl ?_ ?_
           ·conv => arg 3; whnf
            refine Zf (Za t0 t1 t2 t3 s0.1 x9.1 s0.2.2.1 x9.2 m1_0 m1_1 m1_2 m1_3 m1_4 m1_5) (hrc t0 t1 t2 t3 s0.1 x9.1 s0.2.2.1 x9.2 m1_0 m1_1 m1_2 m1_3 m1_4 m1_5) fun x14 hx14 => ?_
            conv => arg 3; whnf
            exact Ze (ih _)
           ·conv => arg 3; whnf
            refine Zf (Za t0 t1 t2 t3 s0.1 x9.1 s0.2.2.1 x9.2 m1_0 m1_1 m1_2 m1_3 m1_4 m1_5) (hrc t0 t1 t2 t3 s0.1 x9.1 s0.2.2.1 x9.2 m1_0 m1_1 m1_2 m1_3 m1_4 m1_5) fun x15 hx15 => ?_
            conv => arg 3; whnf
            exact Ze (ih _)
          ·conv => arg 3; whnf
           refine Zd rfl ?_ ?_
           ·conv => arg 3; whnf
            refine Zf (Za t0 t1 t2 t3 (w64 (x9.1 + 1)) s0.2.1 s0.2.2.1 x9.2 m1_0 m1_1 m1_2 m1_3 m1_4 m1_5) (hrc t0 t1 t2 t3 (w64 (x9.1 + 1)) s0.2.1 s0.2.2.1 x9.2 m1_0 m1_1 m1_2 m1_3 m1_4 m1_5) fun x16 hx16 => ?_
            conv => arg 3; whnf
            exact Ze (ih _)
           ·conv => arg 3; whnf
            refine Zf (Za t0 t1 t2 t3 (w64 (x9.1 + 1)) s0.2.1 s0.2.2.1 x9.2 m1_0 m1_1 m1_2 m1_3 m1_4 m1_5) (hrc t0 t1 t2 t3 (w64 (x9.1 + 1)) s0.2.1 s0.2.2.1 x9.2 m1_0 m1_1 m1_2 m1_3 m1_4 m1_5) fun x17 hx17 => ?_
            conv => arg 3; whnf
            exact Ze (ih _)
        ·conv => arg 3; whnf
         refine Zf _ Zw fun x18 hx18 => ?_
         conv => arg 3; whnf
         exact Ze (ih _)
       ·conv => arg 3; whnf
        refine Zf _ Zj fun x19 hx19 => ?_
        clear hx19
        rcases x19 with x19 | x19
        ·conv => arg 3; whnf
         refine ZbP rfl ?_
         conv => arg 3; whnf
         refine Zaa rfl ?_
         conv => arg 3; whnf
         refine Zd rfl ?_ ?_
         ·conv => arg 3; whnf
          refine Zd rfl ?_ ?_
          ·conv => arg 3; whnf
           refine Zf (Za t0 t1 t2 t3 s0.1 x19.1 s0.2.2.1 x19.2 m1_0 m1_1 m1_2 m1_3 m1_4 m1_5) (hrc t0 t1 t2 t3 s0.1 x19.1 s0.2.2.1 x19.2 m1_0 m1_1 m1_2 m1_3 m1_4 m1_5) fun x20 hx20 => ?_
           conv => arg 3; whnf
           exact Ze (ih _)
          ·conv => arg 3; whnf
           refine Zf (Za t0 t1 t2 t3 s0.1 x19.1 s0.2.2.1 x19.2 m1_0 m1_1 m1_2 m1_3 m1_4 m1_5) (hrc t0 t1 t2 t3 s0.1 x19.1 s0.2.2.1 x19.2 m1_0 m1_1 m1_2 m1_3 m1_4 m1_5) fun x21 hx21 => ?_
           conv => arg 3; whnf
           exact Ze (ih _)
         ·conv => arg 3; whnf
          refine Zd rfl ?_ ?_
          ·conv => arg 3; whnf
           refine Zf (Za t0 t1 t2 t3 (w64 (x19.1 + 1)) s0.2.1 s0.2.2.1 x19.2 m1_0 m1_1 m1_2 m1_3 m1_4 m1_5) (hrc t0 t1 t2 t3 (w64 (x19.1 + 1)) s0.2.1 s0.2.2.1 x19.2 m1_0 m1_1 m1_2 m1_3 m1_4 m1_5) fun x22 hx22 => ?_
           conv => arg 3; whnf
           exact Ze (ih _)
          ·conv => arg 3; whnf
           refine Zf (Za t0 t1 t2 t3 (w64 (x19.1 + 1)) s0.2.1 s0.2.2.1 x19.2 m1_0 m1_1 m1_2 m1_3 m1_4 m1_5) (hrc t0 t1 t2 t3 (w64 (x19.1 + 1)) s0.2.1 s0.2.2.1 x19.2 m1_0 m1_1 m1_2 m1_3 m1_4 m1_5) fun x23 hx23 => ?_
           conv => arg 3; whnf
           exact Ze (ih _)
        ·conv => arg 3; whnf
         refine Zaa rfl ?_
         conv => arg 3; whnf
         refine Zaa rfl ?_
         conv => arg 3; whnf
         refine Zd rfl ?_ ?_
         ·conv => arg 3; whnf
          refine Zd rfl ?_ ?_
          ·conv => arg 3; whnf
           refine Zf (Za t0 t1 t2 t3 s0.1 x19.1 s0.2.2.1 x19.2 m1_0 m1_1 m1_2 m1_3 m1_4 m1_5) (hrc t0 t1 t2 t3 s0.1 x19.1 s0.2.2.1 x19.2 m1_0 m1_1 m1_2 m1_3 m1_4 m1_5) fun x24 hx24 => ?_
           conv => arg 3; whnf
           exact Ze (ih _)
          ·conv => arg 3; whnf
           refine Zf (Za t0 t1 t2 t3 s0.1 x19.1 s0.2.2.1 x19.2 m1_0 m1_1 m1_2 m1_3 m1_4 m1_5) (hrc t0 t1 t2 t3 s0.1 x19.1 s0.2.2.1 x19.2 m1_0 m1_1 m1_2 m1_3 m1_4 m1_5) fun x25 hx25 => ?_
           conv => arg 3; whnf
           exact Ze (ih _)
         ·conv => arg 3; whnf
          refine Zd rfl ?_ ?_
          ·conv => arg 3; whnf
           refine Zf (Za t0 t1 t2 t3 (w64 (x19.1 + 1)) s0.2.1 s0.2.2.1 x19.2 m1_0 m1_1 m1_2 m1_3 m1_4 m1_5) (hrc t0 t1 t2 t3 (w64 (x19.1 + 1)) s0.2.1 s0.2.2.1 x19.2 m1_0 m1_1 m1_2 m1_3 m1_4 m1_5) fun x26 hx26 => ?_
           conv => arg 3; whnf
           exact Ze (ih _)
          ·conv => arg 3; whnf
           refine Zf (Za t0 t1 t2 t3 (w64 (x19.1 + 1)) s0.2.1 s0.2.2.1 x19.2 m1_0 m1_1 m1_2 m1_3 m1_4 m1_5) (hrc t0 t1 t2 t3 (w64 (x19.1 + 1)) s0.2.1 s0.2.2.1 x19.2 m1_0 m1_1 m1_2 m1_3 m1_4 m1_5) fun x27 hx27 => ?_
           conv => arg 3; whnf
           exact Ze (ih _)
     ·conv => arg 3; whnf
      refine Zd rfl ?_ ?_
      ·conv => arg 3; whnf
       refine Zf _ Za1 fun x28 hx28 => ?_
       clear hx28
       rcases x28 with x28 | x28
       ·conv => arg 3; whnf
        exact Zc rfl
       ·conv => arg 3; whnf
        refine Zd rfl ?_ ?_
        ·conv => arg 3; whnf
         refine Zk rfl rfl fun x29 hx29 => ?_
         conv => arg 3; whnf
         refine Zg (Zv rfl hx29) ?_
         conv => arg 3; whnf
         refine Zk rfl rfl fun x30 hx30 => ?_
         conv => arg 3; whnf
         refine Zg (Zv rfl hx30) ?_
         conv => arg 3; whnf
         refine Zi _ Zz rfl fun x31 hx31 => ?_
         conv => arg 3; whnf
         refine Zd rfl ?_ ?_
         ·conv => arg 3; whnf
          refine Zf _ Zj fun x32 hx32 => ?_
          clear hx32
          rcases x32 with x32 | x32
          ·conv => arg 3; whnf
           refine ZbP rfl ?_
           conv => arg 3; whnf
           refine Zaa rfl ?_
           conv => arg 3; whnf
           refine Zd rfl ?_ ?_
           ·conv => arg 3; whnf
            refine Zd rfl ?_ ?_
            ·conv => arg 3; whnf
             refine Zf (Za t0 t1 t2 t3 s0.1 x32.1 s0.2.2.1 x32.2 m1_0 m1_1 m1_2 m1_3 m1_4 m1_5) (hrc t0 t1 t2 t3 s0.1 x32.1 s0.2.2.1 x32.2 m1_0 m1_1 m1_2 m1_3 m1_4 m1_5) fun x33 hx33 => ?_
             conv => arg 3; whnf
             exact Ze (ih _)
            ·conv => arg 3; whnf
             refine Zf (Za t0 t1 t2 t3 s0.1 x32.1 s0.2.2.1 x32.2 m1_0 m1_1 m1_2 m1_3 m1_4 m1_5) (hrc t0 t1 t2 t3 s0.1 x32.1 s0.2.2.1 x32.2 m1_0 m1_1 m1_2 m1_3 m1_4 m1_5) fun x34 hx34 => ?_
             conv => arg 3; whnf
             exact Ze (ih _)
           ·conv => arg 3; whnf
            refine Zd rfl ?_ ?_
            ·conv => arg 3; whnf
             refine Zf (Za t0 t1 t2 t3 (w64 (x32.1 + 1)) s0.2.1 s0.2.2.1 x32.2 m1_0 m1_1 m1_2 m1_3 m1_4 m1_5) (hrc t0 t1 t2 t3 (w64 (x32.1 + 1)) s0.2.1 s0.2.2.1 x32.2 m1_0 m1_1 m1_2 m1_3 m1_4 m1_5) fun x35 hx35 => ?_
             conv => arg 3; whnf
             exact Ze (ih _)
            ·conv => arg 3; whnf
             refine Zf (Za t0 t1 t2 t3 (w64 (x32.1 + 1)) s0.2.1 s0.2.2.1 x32.2 m1_0 m1_1 m1_2 m1_3 m1_4 m1_5) (hrc t0 t1 t2 t3 (w64 (x32.1 + 1)) s0.2.1 s0.2.2.1 x32.2 m1_0 m1_1 m1_2 m1_3 m1_4 m1_5) fun x36 hx36 => ?_
             conv => arg 3; whnf
             exact Ze (ih _)
          ·conv => arg 3; whnf
           refine Zaa rfl ?_
           conv => arg 3; whnf
           refine Zaa rfl ?_
           conv => arg 3; whnf
           refine Zd rfl ?_ ?_
           ·conv => arg 3; whnf
            refine Zd rfl ?_ ?_
            ·conv => arg 3; whnf
             refine Zf (Za t0 t1 t2 t3 s0.1 x32.1 s0.2.2.1 x32.2 m1_0 m1_1 m1_2 m1_3 m1_4 m1_5) (hrc t0 t1 t2 t3 s0.1 x32.1 s0.2.2.1 x32.2 m1_0 m1_1 m1_2 m1_3 m1_4 m1_5) fun x37 hx37 => ?_
             conv => arg 3; whnf
             exact Ze (ih _)
            ·conv => arg 3; whnf
             refine Zf (Za t0 t1 t2 t3 s0.1 x32.1 s0.2.2.1 x32.2 m1_0 m1_1 m1_2 m1_3 m1_4 m1_5) (hrc t0 t1 t2 t3 s0.1 x32.1 s0.2.2.1 x32.2 m1_0 m1_1 m1_2 m1_3 m1_4 m1_5) fun x38 hx38 => ?_
             conv => arg 3; whnf
             exact Ze (ih _)
           ·conv => arg 3; whnf
            refine Zd rfl ?_ ?_
            ·conv => arg 3; whnf
             refine Zf (Za t0 t1 t2 t3 (w64 (x32.1 + 1)) s0.2.1 s0.2.2.1 x32.2 m1_0 m1_1 m1_2 m1_3 m1_4 m1_5) (hrc t0 t1 t2 t3 (w64 (x32.1 + 1)) s0.2.1 s0.2.2.1 x32.2 m1_0 m1_1 m1_2 m1_3 m1_4 m1_5) fun x39 hx39 => ?_
             conv => arg 3; whnf
             exact Ze (ih _)
            ·conv => arg 3; whnf
             refine Zf (Za t0 t1 t2 t3 (w64 (x32.1 + 1)) s0.2.1 s0.2.2.1 x32.2 m1_0 m1_1 m1_2 m1_3 m1_4 m1_5) (hrc t0 t1 t2 t3 (w64 (x32.1 + 1)) s0.2.1 s0.2.2.1 x32.2 m1_0 m1_1 m1_2 m1_3 m1_4 m1_5) fun x40 hx40 => ?_
             conv => arg 3; whnf
             exact Ze (ih _)
         ·conv => arg 3; whnf
          refine Zf _ Zw fun x41 hx41 => ?_
          conv => arg 3; whnf
          exact Ze (ih _)
        ·conv => arg 3; whnf
         refine Zf _ Zj fun x42 hx42 => ?_
         clear hx42
         rcases x42 with x42 | x42
         ·conv => arg 3; whnf
          refine ZbP rfl ?_
          conv => arg 3; whnf
          refine Zaa rfl ?_
          conv => arg 3; whnf
          refine Zd rfl ?_ ?_
          ·conv => arg 3; whnf
           refine Zd rfl ?_ ?_
           ·conv => arg 3; whnf
            refine Zf (Za t0 t1 t2 t3 s0.1 x42.1 s0.2.2.1 x42.2 m1_0 m1_1 m1_2 m1_3 m1_4 m1_5) (hrc t0 t1 t2 t3 s0.1 x42.1 s0.2.2.1 x42.2 m1_0 m1_1 m1_2 m1_3 m1_4 m1_5) fun x43 hx43 => ?_
            conv => arg 3; whnf
            exact Ze (ih _)
           ·conv => arg 3; whnf
            refine Zf (Za t0 t1 t2 t3 s0.1 x42.1 s0.2.2.1 x42.2 m1_0 m1_1 m1_2 m1_3 m1_4 m1_5) (hrc t0 t1 t2 t3 s0.1 x42.1 s0.2.2.1 x42.2 m1_0 m1_1 m1_2 m1_3 m1_4 m1_5) fun x44 hx44 => ?_
            conv => arg 3; whnf
            exact Ze (ih _)
          ·conv => arg 3; whnf
           refine Zd rfl ?_ ?_
           ·conv => arg 3; whnf
            refine Zf (Za t0 t1 t2 t3 (w64 (x42.1 + 1)) s0.2.1 s0.2.2.1 x42.2 m1_0 m1_1 m1_2 m1_3 m1_4 m1_5) (hrc t0 t1 t2 t3 (w64 (x42.1 + 1)) s0.2.1 s0.2.2.1 x42.2 m1_0 m1_1 m1_2 m1_3 m1_4 m1_5) fun x45 hx45 => ?_
            conv => arg 3; whnf
            exact Ze (ih _)
           ·conv => arg 3; whnf
            refine Zf (Za t0 t1 t2 t3 (w64 (x42.1 + 1)) s0.2.1 s0.2.2.1 x42.2 m1_0 m1_1 m1_2 m1_3 m1_4 m1_5) (hrc t0 t1 t2 t3 (w64 (x42.1 + 1)) s0.2.1 s0.2.2.1 x42.2 m1_0 m1_1 m1_2 m1_3 m1_4 m1_5) fun x46 hx46 => ?_
            conv => arg 3; whnf
            exact Ze (ih _)
         ·conv => arg 3; whnf
          refine Zaa rfl ?_
          conv => arg 3; whnf
          refine Zaa rfl ?_
          conv => arg 3; whnf
          refine Zd rfl ?_ ?_
          ·conv => arg 3; whnf
           refine Zd rfl ?_ ?_
           ·conv => arg 3; whnf
            refine Zf (Za t0 t1 t2 t3 s0.1 x42.1 s0.2.2.1 x42.2 m1_0 m1_1 m1_2 m1_3 m1_4 m1_5) (hrc t0 t1 t2 t3 s0.1 x42.1 s0.2.2.1 x42.2 m1_0 m1_1 m1_2 m1_3 m1_4 m1_5) fun x47 hx47 => ?_
            conv => arg 3; whnf
            exact Ze (ih _)
           ·conv => arg 3; whnf
            refine Zf (Za t0 t1 t2 t3 s0.1 x42.1 s0.2.2.1 x42.2 m1_0 m1_1 m1_2 m1_3 m1_4 m1_5) (hrc t0 t1 t2 t3 s0.1 x42.1 s0.2.2.1 x42.2 m1_0 m1_1 m1_2 m1_3 m1_4 m1_5) fun x48 hx48 => ?_
            conv => arg 3; whnf
            exact Ze (ih _)
          ·conv => arg 3; whnf
           refine Zd rfl ?_ ?_
           ·conv => arg 3; whnf
            refine Zf (Za t0 t1 t2 t3 (w64 (x42.1 + 1)) s0.2.1 s0.2.2.1 x42.2 m1_0 m1_1 m1_2 m1_3 m1_4 m1_5) (hrc t0 t1 t2 t3 (w64 (x42.1 + 1)) s0.2.1 s0.2.2.1 x42.2 m1_0 m1_1 m1_2 m1_3 m1_4 m1_5) fun x49 hx49 => ?_
            conv => arg 3; whnf
            exact Ze (ih _)
           ·conv => arg 3; whnf
            refine Zf (Za t0 t1 t2 t3 (w64 (x42.1 + 1)) s0.2.1 s0.2.2.1 x42.2 m1_0 m1_1 m1_2 m1_3 m1_4 m1_5) (hrc t0 t1 t2 t3 (w64 (x42.1 + 1)) s0.2.1 s0.2.2.1 x42.2 m1_0 m1_1 m1_2 m1_3 m1_4 m1_5) fun x50 hx50 => ?_
            conv => arg 3; whnf
            exact Ze (ih _)
      ·conv => arg 3; whnf
       refine Zd rfl ?_ ?_
       ·conv => arg 3; whnf
        refine Zk rfl rfl fun x51 hx51 => ?_
        conv => arg 3; whnf
        refine Zg (Zv rfl hx51) ?_
        conv => arg 3; whnf
        refine Zk rfl rfl fun x52 hx52 => ?_
        conv => arg 3; whnf
        refine Zg (Zv rfl hx52) ?_
        conv => arg 3; whnf
        refine Zi _ Zz rfl fun x53 hx53 => ?_
        conv => arg 3; whnf
        refine Zd rfl ?_ ?_
        ·conv => arg 3; whnf
         refine Zf _ Zj fun x54 hx54 => ?_
         clear hx54
         rcases x54 with x54 | x54
         ·conv => arg 3; whnf
          refine ZbP rfl ?_
          conv => arg 3; whnf
          refine Zaa rfl ?_
          conv => arg 3; whnf
          refine Zd rfl ?_ ?_
          ·conv => arg 3; whnf
           refine Zd rfl ?_ ?_
           ·conv => arg 3; whnf
            refine Zf (Za t0 t1 t2 t3 s0.1 x54.1 s0.2.2.1 x54.2 m1_0 m1_1 m1_2 m1_3 m1_4 m1_5) (hrc t0 t1 t2 t3 s0.1 x54.1 s0.2.2.1 x54.2 m1_0 m1_1 m1_2 m1_3 m1_4 m1_5) fun x55 hx55 => ?_
            conv => arg 3; whnf
            exact Ze (ih _)
           ·conv => arg 3; whnf
            refine Zf (Za t0 t1 t2 t3 s0.1 x54.1 s0.2.2.1 x54.2 m1_0 m1_1 m1_2 m1_3 m1_4 m1_5) (hrc t0 t1 t2 t3 s0.1 x54.1 s0.2.2.1 x54.2 m1_0 m1_1 m1_2 m1_3 m1_4 m1_5) fun x56 hx56 => ?_
            conv => arg 3; whnf
            exact Ze (ih _)
          ·conv => arg 3; whnf
           refine Zd rfl ?_ ?_
           ·conv => arg 3; whnf
            refine Zf (Za t0 t1 t2 t3 (w64 (x54.1 + 1)) s0.2.1 s0.2.2.1 x54.2 m1_0 m1_1 m1_2 m1_3 m1_4 m1_5) (hrc t0 t1 t2 t3 (w64 (x54.1 + 1)) s0.2.1 s0.2.2.1 x54.2 m1_0 m1_1 m1_2 m1_3 m1_4 m1_5) fun x57 hx57 => ?_
            conv => arg 3; whnf
            exact Ze (ih _)
           ·conv => arg 3; whnf
            refine Zf (Za t0 t1 t2 t3 (w64 (x54.1 + 1)) s0.2.1 s0.2.2.1 x54.2 m1_0 m1_1 m1_2 m1_3 m1_4 m1_5) (hrc t0 t1 t2 t3 (w64 (x54.1 + 1)) s0.2.1 s0.2.2.1 x54.2 m1_0 m1_1 m1_2 m1_3 m1_4 m1_5) fun x58 hx58 => ?_
            conv => arg 3; whnf
            exact Ze (ih _)
         ·conv => arg 3; whnf
          refine Zaa rfl ?_
          conv => arg 3; whnf
          refine Zaa rfl ?_
          conv => arg 3; whnf
          refine Zd rfl ?_ ?_
          ·conv => arg 3; whnf
           refine Zd rfl ?_ ?_
           ·conv => arg 3; whnf
            refine Zf (Za t0 t1 t2 t3 s0.1 x54.1 s0.2.2.1 x54.2 m1_0 m1_1 m1_2 m1_3 m1_4 m1_5) (hrc t0 t1 t2 t3 s0.1 x54.1 s0.2.2.1 x54.2 m1_0 m1_1 m1_2 m1_3 m1_4 m1_5) fun x59 hx59 => ?_
            conv => arg 3; whnf
            exact Ze (ih _)
           ·conv => arg 3; whnf
            refine Zf (Za t0 t1 t2 t3 s0.1 x54.1 s0.2.2.1 x54.2 m1_0 m1_1 m1_2 m1_3 m1_4 m1_5) (hrc t0 t1 t2 t3 s0.1 x54.1 s0.2.2.1 x54.2 m1_0 m1_1 m1_2 m1_3 m1_4 m1_5) fun x60 hx60 => ?_
            conv => arg 3; whnf
            exact Ze (ih _)
          ·conv => arg 3; whnf
           refine Zd rfl ?_ ?_
           ·conv => arg 3; whnf
            refine Zf (Za t0 t1 t2 t3 (w64 (x54.1 + 1)) s0.2.1 s0.2.2.1 x54.2 m1_0 m1_1 m1_2 m1_3 m1_4 m1_5) (hrc t0 t1 t2 t3 (w64 (x54.1 + 1)) s0.2.1 s0.2.2.1 x54.2 m1_0 m1_1 m1_2 m1_3 m1_4 m1_5) fun x61 hx61 => ?_
            conv => arg 3; whnf
            exact Ze (ih _)
           ·conv => arg 3; whnf
            refine Zf (Za t0 t1 t2 t3 (w64 (x54.1 + 1)) s0.2.1 s0.2.2.1 x54.2 m1_0 m1_1 m1_2 m1_3 m1_4 m1_5) (hrc t0 t1 t2 t3 (w64 (x54.1 + 1)) s0.2.1 s0.2.2.1 x54.2 m1_0 m1_1 m1_2 m1_3 m1_4 m1_5) fun x62 hx62 => ?_
            conv => arg 3; whnf
            exact Ze (ih _)
        ·conv => arg 3; whnf
         refine Zf _ Zw fun x63 hx63 => ?_
         conv => arg 3; whnf
         exact Ze (ih _)
       ·conv => arg 3; whnf
        refine Zf _ Zj fun x64 hx64 => ?_
        clear hx64
        rcases x64 with x64 | x64
        ·conv => arg 3; whnf
         refine ZbP rfl ?_
         conv => arg 3; whnf
         refine Zaa rfl ?_
         conv => arg 3; whnf
         refine Zd rfl ?_ ?_
         ·conv => arg 3; whnf
          refine Zd rfl ?_ ?_
          ·conv => arg 3; whnf
           refine Zf (Za t0 t1 t2 t3 s0.1 x64.1 s0.2.2.1 x64.2 m1_0 m1_1 m1_2 m1_3 m1_4 m1_5) (hrc t0 t1 t2 t3 s0.1 x64.1 s0.2.2.1 x64.2 m1_0 m1_1 m1_2 m1_3 m1_4 m1_5) fun x65 hx65 => ?_
           conv => arg 3; whnf
           exact Ze (ih _)
          ·conv => arg 3; whnf
           refine Zf (Za t0 t1 t2 t3 s0.1 x64.1 s0.2.2.1 x64.2 m1_0 m1_1 m1_2 m1_3 m1_4 m1_5) (hrc t0 t1 t2 t3 s0.1 x64.1 s0.2.2.1 x64.2 m1_0 m1_1 m1_2 m1_3 m1_4 m1_5) fun x66 hx66 => ?_
           conv => arg 3; whnf
           exact Ze (ih _)
         ·conv => arg 3; whnf
          refine Zd rfl ?_ ?_
          ·conv => arg 3; whnf
           refine Zf (Za t0 t1 t2 t3 (w64 (x64.1 + 1)) s0.2.1 s0.2.2.1 x64.2 m1_0 m1_1 m1_2 m1_3 m1_4 m1_5) (hrc t0 t1 t2 t3 (w64 (x64.1 + 1)) s0.2.1 s0.2.2.1 x64.2 m1_0 m1_1 m1_2 m1_3 m1_4 m1_5) fun x67 hx67 => ?_
           conv => arg 3; whnf
           exact Ze (ih _)
          ·conv => arg 3; whnf
           refine Zf (Za t0 t1 t2 t3 (w64 (x64.1 + 1)) s0.2.1 s0.2.2.1 x64.2 m1_0 m1_1 m1_2 m1_3 m1_4 m1_5) (hrc t0 t1 t2 t3 (w64 (x64.1 + 1)) s0.2.1 s0.2.2.1 x64.2 m1_0 m1_1 m1_2 m1_3 m1_4 m1_5) fun x68 hx68 => ?_
           conv => arg 3; whnf
           exact Ze (ih _)
        ·conv => arg 3; whnf
         refine Zaa rfl ?_
         conv => arg 3; whnf
         refine Zaa rfl ?_
         conv => arg 3; whnf
         refine Zd rfl ?_ ?_
         ·conv => arg 3; whnf
          refine Zd rfl ?_ ?_
          ·conv => arg 3; whnf
           refine Zf (Za t0 t1 t2 t3 s0.1 x64.1 s0.2.2.1 x64.2 m1_0 m1_1 m1_2 m1_3 m1_4 m1_5) (hrc t0 t1 t2 t3 s0.1 x64.1 s0.2.2.1 x64.2 m1_0 m1_1 m1_2 m1_3 m1_4 m1_5) fun x69 hx69 => ?_
           conv => arg 3; whnf
           exact Ze (ih _)
          ·conv => arg 3; whnf
           refine Zf (Za t0 t1 t2 t3 s0.1 x64.1 s0.2.2.1 x64.2 m1_0 m1_1 m1_2 m1_3 m1_4 m1_5) (hrc t0 t1 t2 t3 s0.1 x64.1 s0.2.2.1 x64.2 m1_0 m1_1 m1_2 m1_3 m1_4 m1_5) fun x70 hx70 => ?_
           conv => arg 3; whnf
           exact Ze (ih _)
         ·conv => arg 3; whnf
          refine Zd rfl ?_ ?_
          ·conv => arg 3; whnf
           refine Zf (Za t0 t1 t2 t3 (w64 (x64.1 + 1)) s0.2.1 s0.2.2.1 x64.2 m1_0 m1_1 m1_2 m1_3 m1_4 m1_5) (hrc t0 t1 t2 t3 (w64 (x64.1 + 1)) s0.2.1 s0.2.2.1 x64.2 m1_0 m1_1 m1_2 m1_3 m1_4 m1_5) fun x71 hx71 => ?_
           conv => arg 3; whnf
           exact Ze (ih _)
          ·conv => arg 3; whnf
           refine Zf (Za t0 t1 t2 t3 (w64 (x64.1 + 1)) s0.2.1 s0.2.2.1 x64.2 m1_0 m1_1 m1_2 m1_3 m1_4 m1_5) (hrc t0 t1 t2 t3 (w64 (x64.1 + 1)) s0.2.1 s0.2.2.1 x64.2 m1_0 m1_1 m1_2 m1_3 m1_4 m1_5) fun x72 hx72 => ?_
           conv => arg 3; whnf
           exact Ze (ih _)
theorem ZdI (rc : Int → Int → Int → (Int → Int → Option Int) → (List Int) → Option (List Int)) (hrc : ∀ (t0 : Bool) (t1 : Bool) (t2 : Bool) (t3 : Bool) (b : Int) (c : Int) (d : Int) (m0_0 : (List Int)) (m1_0 : Int) (m1_1 : Int) (m1_2 : (List ZG)) (m1_3 : (List ZM)) (m1_4 : (List Zs)) (m1_5 : (List Zo)) (r : (List Int)), rc b c d (fun z0 z1 => Zq z0 z1 m1_4) m0_0 = some r → evW ctx 124 [(.sl 0 1), (.d (Zb b)), (.d (Zb c)), (.d (Zb d)), (.fn 118 [(.ptr 1 0)])] [(.arr 1 (List.map Zb m0_0)), (.cells [(.d (Zb m1_0)), (.d (Zb m1_1)), (.d (D.list t0 (List.map ZW m1_2))), (.d (D.list t1 (List.map ZT m1_3))), (.d (D.list t2 (List.map Zx m1_4))), (.d (D.list t3 (List.map Zt m1_5)))])] = some ((Za t0 t1 t2 t3 b c d m0_0 m1_0 m1_1 m1_2 m1_3 m1_4 m1_5) r)) (t0 : Bool) (t1 : Bool) (t2 : Bool) (t3 : Bool) (b : Int) (c : Int) (d : Int) (m0_0 : (List Int)) (m1_0 : Int) (m1_1 : Int) (m1_2 : (List ZG)) (m1_3 : (List ZM)) (m1_4 : (List Zs)) (m1_5 : (List Zo)) : ∀ r, (Zam rc b c d (fun z0 z1 => Zq z0 z1 m1_4) m0_0) = some r → evW ctx 124 [(.sl 0 1), (.d (Zb b)), (.d (Zb c)), (.d (Zb d)), (.fn 118 [(.ptr 1 0)])] [(.arr 1 (List.map Zb m0_0)), (.cells [(.d (Zb m1_0)), (.d (Zb m1_1)), (.d (D.list t0 (List.map ZW m1_2))), (.d (D.list t1 (List.map ZT m1_3))), (.d (D.list t2 (List.map Zx m1_4))), (.d (D.list t3 (List.map Zt m1_5)))])] = some ((Za t0 t1 t2 t3 b c d m0_0 m1_0 m1_1 m1_2 m1_3 m1_4 m1_5) r) := by
 show ZE _ (fun r rhs => rhs = some ((Za t0 t1 t2 t3 b c d m0_0 m1_0 m1_1 m1_2 m1_3 m1_4 m1_5) r)) _
 unfold Zam
 rw [Zf1 ctx 124 Zu6 _ _ rfl rfl]
 conv => arg 3; whnf
 refine Zf _ (ZdD hrc _) fun r219 hr219 => ?_
 conv => arg 3; whnf
 exact Zc rfl
theorem ZbK : ∀ (n : Nat) (t0 : Bool) (t1 : Bool) (t2 : Bool) (t3 : Bool) (b : Int) (c : Int) (d : Int) (m0_0 : (List Int)) (m1_0 : Int) (m1_1 : Int) (m1_2 : (List ZG)) (m1_3 : (List ZM)) (m1_4 : (List Zs)) (m1_5 : (List Zo)) (r : (List Int)), ZU n b c d (fun z0 z1 => Zq z0 z1 m1_4) m0_0 = some r → evW ctx 124 [(.sl 0 1), (.d (Zb b)), (.d (Zb c)), (.d (Zb d)), (.fn 118 [(.ptr 1 0)])] [(.arr 1 (List.map Zb m0_0)), (.cells [(.d (Zb m1_0)), (.d (Zb m1_1)), (.d (D.list t0 (List.map ZW m1_2))), (.d (D.list t1 (List.map ZT m1_3))), (.d (D.list t2 (List.map Zx m1_4))), (.d (D.list t3 (List.map Zt m1_5)))])] = some ((Za t0 t1 t2 t3 b c d m0_0 m1_0 m1_1 m1_2 m1_3 m1_4 m1_5) r)
  | 0, t0, t1, t2, t3, b, c, d, m0_0, m1_0, m1_1, m1_2, m1_3, m1_4, m1_5, r, h => by cases h
  | n + 1, t0, t1, t2, t3, b, c, d, m0_0, m1_0, m1_1, m1_2, m1_3, m1_4, m1_5, r, h => ZdI (ZU n) (ZbK n) t0 t1 t2 t3 b c d m0_0 m1_0 m1_1 m1_2 m1_3 m1_4 m1_5 r h
theorem ZdZ {t0 : Bool} {t1 : Bool} {t2 : Bool} {t3 : Bool} {b : Int} {c : Int} {d : Int} {m0_0 : (List Int)} {m1_0 : Int} {m1_1 : Int} {m1_2 : (List ZG)} {m1_3 : (List ZM)} {m1_4 : (List Zs)} {m1_5 : (List Zo)} : ∀ r, Zdc b c d (fun z0 z1 => Zq z0 z1 m1_4) m0_0 = some r → evW ctx 124 [(.sl 0 1), (.d (Zb b)), (.d (Zb c)), (.d (Zb d)), (.fn 118 [(.ptr 1 0)])] [(.arr 1 (List.map Zb m0_0)), (.cells [(.d (Zb m1_0)), (.d (Zb m1_1)), (.d (D.list t0 (List.map ZW m1_2))), (.d (D.list t1 (List.map ZT m1_3))), (.d (D.list t2 (List.map Zx m1_4))), (.d (D.list t3 (List.map Zt m1_5)))])] = some ((Za t0 t1 t2 t3 b c d m0_0 m1_0 m1_1 m1_2 m1_3 m1_4 m1_5) r) := fun r h => by
  obtain ⟨n, hn⟩ := Zxx h
  exact ZbK n t0 t1 t2 t3 b c d m0_0 m1_0 m1_1 m1_2 m1_3 m1_4 m1_5 r hn
def Zb1 (t0 : Bool) (t1 : Bool) (t2 : Bool) (t3 : Bool) (m0_0 : (List Int)) (m1_0 : Int) (m1_1 : Int) (m1_2 : (List ZG)) (m1_3 : (List ZM)) (m1_4 : (List Zs)) (m1_5 : (List Zo)) : (List Int) → V × Zm
  | r => ((.d (D.tup [])), [(.arr 1 (List.map Zb r)), (.cells [(.d (Zb m1_0)), (.d (Zb m1_1)), (.d (D.list t0 (List.map ZW m1_2))), (.d (D.list t1 (List.map ZT m1_3))), (.d (D.list t2 (List.map Zx m1_4))), (.d (D.list t3 (List.map Zt m1_5)))])])
theorem ZdW {t0 : Bool} {t1 : Bool} {t2 : Bool} {t3 : Bool} {m0_0 : (List Int)} {m1_0 : Int} {m1_1 : Int} {m1_2 : (List ZG)} {m1_3 : (List ZM)} {m1_4 : (List Zs)} {m1_5 : (List Zo)} : ∀ r, (ZaF (fun z0 z1 => Zq z0 z1 m1_4) m0_0) = some r → evW ctx 117 [(.sl 0 1), (.fn 118 [(.ptr 1 0)])] [(.arr 1 (List.map Zb m0_0)), (.cells [(.d (Zb m1_0)), (.d (Zb m1_1)), (.d (D.list t0 (List.map ZW m1_2))), (.d (D.list t1 (List.map ZT m1_3))), (.d (D.list t2 (List.map Zx m1_4))), (.d (D.list t3 (List.map Zt m1_5)))])] = some ((Zb1 t0 t1 t2 t3 m0_0 m1_0 m1_1 m1_2 m1_3 m1_4 m1_5) r) := by
 show ZE _ (fun r rhs => rhs = some ((Zb1 t0 t1 t2 t3 m0_0 m1_0 m1_1 m1_2 m1_3 m1_4 m1_5) r)) _
 unfold ZaF
 rw [Zf1 ctx 117 ZwP _ _ rfl rfl]
 conv => arg 3; whnf
 refine Zl (ZB _ _) ?_
 conv => arg 3; whnf
 refine Zi _ Zhi rfl fun x0 hx0 => ?_
 conv => arg 3; whnf
 refine Zf _ ZdZ fun x1 hx1 => ?_
 conv => arg 3; whnf
 exact Zc rfl
def Zim (r : (List Int)) : D := (D.list true (List.map Zb r))
def ZgS (t0 : Bool) (t1 : Bool) (t2 : Bool) (t3 : Bool) (a : Zh) (b : Int) : (List Int) → Ex × List V × Zm
  | r => (.exit 0, [(.ptr 0 0), (.sl 1 1)], [(.cells (dV t0 t1 t2 t3 a)), (.arr 1 (List.map Zb r))])
theorem Zj4 {t0 : Bool} {t1 : Bool} {t2 : Bool} {t3 : Bool} {a : Zh} {b : Int} : ∀ (s1 : Int × (List Int)) (r : (List Int)), lp (ZcS a b) s1 = some r → lpW ctx 0 [1, 2, 5, 12, 13, 14] [2, 5] Ztp [(.d (Zb b)), (.ptr 0 0), (.sl 1 1), (.d (D.list t2 (List.map Zx a.futures))), (.d (Zb (a.futures.length : Int))), (.d (Zb s1.1))] [(.cells (dV t0 t1 t2 t3 a)), (.arr 1 (List.map Zb s1.2))] = some ((ZgS t0 t1 t2 t3 a b) r) := by
 refine Zai (ZgS t0 t1 t2 t3 a b) ?_
 intro s1 rcl ih
 show ZE _ _ (lpW _ _ _ _ _ _ _)
 unfold ZcS
 rw [Zah]
 conv => arg 3; whnf
 refine Zd rfl ?_ ?_
 ·conv => arg 3; whnf
  refine Zk rfl rfl fun x2 hx2 => ?_
  conv => arg 3; whnf
  refine Zd rfl ?_ ?_
  ·conv => arg 3; whnf
   refine ZbP rfl ?_
   conv => arg 3; whnf
   refine Zd (Zfv Zb s1.2 1) ?_ ?_
   ·conv => arg 3; whnf
    refine Zl (Ze6 Zb s1.2 [s1.1]) ?_
    conv => arg 3; whnf
    exact Ze (ih _)
   ·exact Z0
  ·conv => arg 3; whnf
   exact Ze (ih _)
 ·conv => arg 3; whnf
  exact Zc rfl
theorem ZlS {t0 : Bool} {t1 : Bool} {t2 : Bool} {t3 : Bool} {a : Zh} {b : Int} : ∀ r, (ZeP a b) = some r → evD ctx 101 [(.d (D.agg (dA t0 t1 t2 t3 a))), (.d (Zb b))] = some (Zim r) := by
 show ZE _ (fun r rhs => rhs = some (Zim r)) _
 unfold ZeP
 rw [Zaq ctx 101 Zu9 _ rfl rfl]
 conv => arg 3; whnf
 refine Zi _ ZgM rfl fun x0 hx0 => ?_
 conv => arg 3; whnf
 refine Zd rfl ?_ ?_
 ·conv => arg 3; whnf
  exact Zc rfl
 ·conv => arg 3; whnf
  refine Zl (ZB _ _) ?_
  conv => arg 3; whnf
  refine Zf _ (Zj4 _) fun r3 hr3 => ?_
  conv => arg 3; whnf
  refine Zf _ ZdW fun x4 hx4 => ?_
  conv => arg 3; whnf
  exact Zc rfl
def Zkm (r : (List Int)) : D := (D.list true (List.map Zb r))
def ZhD (t0 : Bool) (t1 : Bool) (t2 : Bool) (t3 : Bool) (a : Zh) (b : Int) : (List Int) → Ex × List V × Zm
  | r => (.exit 0, [(.d (Zb b)), (.ptr 0 0), (.sl 1 1)], [(.cells (dV t0 t1 t2 t3 a)), (.arr 1 (List.map Zb r))])
theorem ZlL {t0 : Bool} {t1 : Bool} {t2 : Bool} {t3 : Bool} {a : Zh} {b : Int} : ∀ (s1 : Int × (List Int)) (r : (List Int)), lp (Zfu a b) s1 = some r → lpW ctx 0 [1, 2, 5, 14, 15, 16] [1, 2, 5] Zwu [(.d (Zb b)), (.ptr 0 0), (.sl 1 1), (.d (D.list t1 (List.map ZT a.edges))), (.d (Zb (a.edges.length : Int))), (.d (Zb s1.1))] [(.cells (dV t0 t1 t2 t3 a)), (.arr 1 (List.map Zb s1.2))] = some ((ZhD t0 t1 t2 t3 a b) r) := by
 refine Zai (ZhD t0 t1 t2 t3 a b) ?_
 intro s1 rcl ih
 show ZE _ _ (lpW _ _ _ _ _ _ _)
 unfold Zfu
 rw [Zah]
 conv => arg 3; whnf
 refine Zd rfl ?_ ?_
 ·conv => arg 3; whnf
  refine Zk rfl rfl fun x2 hx2 => ?_
  conv => arg 3; whnf
  refine Zd rfl ?_ ?_
  ·conv => arg 3; whnf
   refine ZbP rfl ?_
   conv => arg 3; whnf
   refine Zd (Zfv Zb s1.2 1) ?_ ?_
   ·conv => arg 3; whnf
    refine Zl (Ze6 Zb s1.2 [x2.src]) ?_
    conv => arg 3; whnf
    exact Ze (ih _)
   ·exact Z0
  ·conv => arg 3; whnf
   exact Ze (ih _)
 ·conv => arg 3; whnf
  exact Zc rfl
def ZhX (t0 : Bool) (t1 : Bool) (t2 : Bool) (t3 : Bool) (a : Zh) (x4 : (List Int)) : (List Int) → Ex × List V × Zm
  | r => (.exit 2, [(.sl 0 1)], [(.arr 1 (List.map Zb r))])
theorem ZlR {t0 : Bool} {t1 : Bool} {t2 : Bool} {t3 : Bool} {a : Zh} {x4 : (List Int)} : ∀ (s5 : Int × (List Int)) (r : (List Int)), lp (Zfs a x4) s5 = some r → lpW ctx 0 [2, 5, 32, 33, 34] [5] ZwZ [(.ptr 0 0), (.sl 1 1), (.d (D.list true (List.map Zb x4))), (.d (Zb (x4.length : Int))), (.d (Zb s5.1))] [(.cells (dV t0 t1 t2 t3 a)), (.arr 1 (List.map Zb s5.2))] = some ((ZhX t0 t1 t2 t3 a x4) r) := by
 refine Zai (ZhX t0 t1 t2 t3 a x4) ?_
 intro s5 rcl ih
 show ZE _ _ (lpW _ _ _ _ _ _ _)
 unfold Zfs
 rw [Zah]
 conv => arg 3; whnf
 refine Zd rfl ?_ ?_
 ·conv => arg 3; whnf
  refine Zk rfl rfl fun x6 hx6 => ?_
  conv => arg 3; whnf
  refine Zk rfl rfl fun x7 hx7 => ?_
  conv => arg 3; whnf
  refine ZbP rfl ?_
  conv => arg 3; whnf
  refine Zd (Zfv Zb s5.2 1) ?_ ?_
  ·conv => arg 3; whnf
   refine Zl (Ze6 Zb s5.2 [x7.maker]) ?_
   conv => arg 3; whnf
   exact Ze (ih _)
  ·exact Z0
 ·conv => arg 3; whnf
  exact Zc rfl
theorem ZnE {t0 : Bool} {t1 : Bool} {t2 : Bool} {t3 : Bool} {a : Zh} {b : Int} : ∀ r, (Ze2 a b) = some r → evD ctx 76 [(.d (D.agg (dA t0 t1 t2 t3 a))), (.d (Zb b))] = some (Zkm r) := by
 show ZE _ (fun r rhs => rhs = some (Zkm r)) _
 unfold Ze2
 rw [Zaq ctx 76 Zy1 _ rfl rfl]
 conv => arg 3; whnf
 refine Zi _ ZgM rfl fun x0 hx0 => ?_
 conv => arg 3; whnf
 refine Zd rfl ?_ ?_
 ·conv => arg 3; whnf
  exact Zc rfl
 ·conv => arg 3; whnf
  refine Zl (ZB _ _) ?_
  conv => arg 3; whnf
  refine Zf _ (ZlL _) fun r3 hr3 => ?_
  conv => arg 3; whnf
  refine Zi _ ZlS rfl fun x4 hx4 => ?_
  conv => arg 3; whnf
  refine Zl (ZB _ _) ?_
  conv => arg 3; whnf
  refine Zf _ (ZlR _) fun r8 hr8 => ?_
  conv => arg 3; whnf
  exact Zc rfl
def Zj1 (r : Int) : D := (D.int .u32 r)
theorem ZdO {a : Int} : ∀ r, (ZcE a) = some r → evD ctx 64 [(.d (Zb a))] = some (Zj1 r) := by
 show ZE _ (fun r rhs => rhs = some (Zj1 r)) _
 unfold ZcE
 rw [Zaq ctx 64 Zzb _ rfl rfl]
 conv => arg 3; whnf
 exact Zc rfl
def Zlk : Unit → D
  | r => (D.agg [(D.int .u32 0), (D.fn 97 []), (D.int .u32 1), (D.fn 98 []), (D.int .u32 0), (D.fn 99 []), (D.int .u32 7), (D.fn 100 [])])
theorem Zpk : ∀ r, ZhG = some r → evD ctx 65 [] = some (Zlk r) := by
 show ZE _ (fun r rhs => rhs = some (Zlk r)) _
 unfold ZhG
 rw [Zaq ctx 65 ZyN _ rfl rfl]
 conv => arg 3; whnf
 exact Zc rfl
def Zjg (r : Int) : D := (D.int .u32 r)
theorem ZmR {a : Int} {b : Int} : ∀ r, (Zfh a b) = some r → evD ctx 97 [(.d (D.int .u32 a)), (.d (D.int .u32 b))] = some (Zjg r) := by
 show ZE _ (fun r rhs => rhs = some (Zjg r)) _
 unfold Zfh
 rw [Zaq ctx 97 Zzc _ rfl rfl]
 conv => arg 3; whnf
 exact Zc rfl
def Zjm (r : Int) : D := (D.int .u32 r)
theorem Zng {a : Int} {b : Int} : ∀ r, (Zff a b) = some r → evD ctx 98 [(.d (D.int .u32 a)), (.d (D.int .u32 b))] = some (Zjm r) := by
 show ZE _ (fun r rhs => rhs = some (Zjm r)) _
 unfold Zff
 rw [Zaq ctx 98 ZzL _ rfl rfl]
 conv => arg 3; whnf
 exact Zc rfl
def Zjt (r : Int) : D := (D.int .u32 r)
theorem Zm9 {a : Int} {b : Int} : ∀ r, (Zfq a b) = some r → evD ctx 99 [(.d (D.int .u32 a)), (.d (D.int .u32 b))] = some (Zjt r) := by
 show ZE _ (fun r rhs => rhs = some (Zjt r)) _
 unfold Zfq
 rw [Zaq ctx 99 ZyM _ rfl rfl]
 conv => arg 3; whnf
 exact Zc rfl
def Zju (r : Int) : D := (D.int .u32 r)
theorem ZmP {a : Int} {b : Int} : ∀ r, (Zfe a b) = some r → evD ctx 100 [(.d (D.int .u32 a)), (.d (D.int .u32 b))] = some (Zju r) := by
 show ZE _ (fun r rhs => rhs = some (Zju r)) _
 unfold Zfe
 rw [Zaq ctx 100 Zwr _ rfl rfl]
 conv => arg 3; whnf
 exact Zc rfl
def Znq (r : Int) : D := (Zb r)
def Zj5 (t0 : Bool) (a : ZG) (b : (List Int)) : (List (Int × Int)) → Ex × List V × Zm
  | r => (.exit 1, [(.ptr 0 0), (.mp 1)], [(.cells [(.d (Zb a.op)), (.d (Zb a.arg)), (.d (Zb a.work))]), (.mp (mpD Zb Zb r))])
theorem ZnL {t0 : Bool} {a : ZG} {b : (List Int)} : ∀ (s0 : Int × (List (Int × Int))) (r : (List (Int × Int))), lp (Zem b) s0 = some r → lpW ctx 0 [3, 7, 19, 20, 21] [3, 7] ZwG [(.ptr 0 0), (.mp 1), (.d (D.list t0 (List.map Zb b))), (.d (Zb (b.length : Int))), (.d (Zb s0.1))] [(.cells [(.d (Zb a.op)), (.d (Zb a.arg)), (.d (Zb a.work))]), (.mp (mpD Zb Zb s0.2))] = some ((Zj5 t0 a b) r) := by
 refine Zai (Zj5 t0 a b) ?_
 intro s0 rcl ih
 show ZE _ _ (lpW _ _ _ _ _ _ _)
 unfold Zem
 rw [Zah]
 conv => arg 3; whnf
 refine Zd rfl ?_ ?_
 ·conv => arg 3; whnf
  refine Zk rfl rfl fun x1 hx1 => ?_
  conv => arg 3; whnf
  refine Zg (ZuS (f := Zb) (g := Zb) (fun ka kb : Int => (ka == kb)) (fun _ _ => rfl) s0.2 s0.1 x1) ?_
  conv => arg 3; whnf
  exact Ze (ih _)
 ·conv => arg 3; whnf
  exact Zc rfl
def Zkt (t1 : Bool) (c : (List Int)) : Int → Ex × List V × Zm
  | r => (.exit 3, [(.d (D.int .u32 r))], [])
theorem ZnF {t1 : Bool} {c : (List Int)} : ∀ (s6 : Int × Int) (r : Int), lp (Zer c) s6 = some r → lpW ctx 0 [10, 11, 60, 61, 62] [11] ZoX [(.ptr 0 0), (.d (D.int .u32 s6.1)), (.d (D.list t1 (List.map Zb c))), (.d (Zb (c.length : Int))), (.d (Zb s6.2))] [(.cells [(.d (D.int .u32 0)), (.d (D.fn 97 []))])] = some ((Zkt t1 c) r) := by
 refine Zai (Zkt t1 c) ?_
 intro s6 rcl ih
 show ZE _ _ (lpW _ _ _ _ _ _ _)
 unfold Zer
 rw [Zah]
 conv => arg 3; whnf
 refine Zd rfl ?_ ?_
 ·conv => arg 3; whnf
  refine Zk rfl rfl fun x7 hx7 => ?_
  conv => arg 3; whnf
  refine Zi _ ZdO rfl fun x8 hx8 => ?_
  conv => arg 3; whnf
  refine Zi _ ZmR rfl fun x9 hx9 => ?_
  conv => arg 3; whnf
  exact Ze (ih _)
 ·conv => arg 3; whnf
  exact Zc rfl
def Zii (t1 : Bool) (c : (List Int)) : Int → Ex × List V × Zm
  | r => (.exit 3, [(.d (D.int .u32 r))], [])
theorem Zl8 {t1 : Bool} {c : (List Int)} : ∀ (s11 : Int × Int) (r : Int), lp (ZdA c) s11 = some r → lpW ctx 0 [10, 11, 60, 61, 62] [11] ZoX [(.ptr 0 0), (.d (D.int .u32 s11.1)), (.d (D.list t1 (List.map Zb c))), (.d (Zb (c.length : Int))), (.d (Zb s11.2))] [(.cells [(.d (D.int .u32 1)), (.d (D.fn 98 []))])] = some ((Zii t1 c) r) := by
 refine Zai (Zii t1 c) ?_
 intro s11 rcl ih
 show ZE _ _ (lpW _ _ _ _ _ _ _)
 unfold ZdA
 rw [Zah]
 conv => arg 3; whnf
 refine Zd rfl ?_ ?_
 ·conv => arg 3; whnf
  refine Zk rfl rfl fun x12 hx12 => ?_
  conv => arg 3; whnf
  refine Zi _ ZdO rfl fun x13 hx13 => ?_
  conv => arg 3; whnf
  refine Zi _ Zng rfl fun x14 hx14 => ?_
  conv => arg 3; whnf
  exact Ze (ih _)
 ·conv => arg 3; whnf
  exact Zc rfl
def Ziz (t1 : Bool) (c : (List Int)) : Int → Ex × List V × Zm
  | r => (.exit 3, [(.d (D.int .u32 r))], [])
theorem ZmB {t1 : Bool} {c : (List Int)} : ∀ (s16 : Int × Int) (r : Int), lp (Zdq c) s16 = some r → lpW ctx 0 [10, 11, 60, 61, 62] [11] ZoX [(.ptr 0 0), (.d (D.int .u32 s16.1)), (.d (D.list t1 (List.map Zb c))), (.d (Zb (c.length : Int))), (.d (Zb s16.2))] [(.cells [(.d (D.int .u32 0)), (.d (D.fn 99 []))])] = some ((Ziz t1 c) r) := by
 refine Zai (Ziz t1 c) ?_
 intro s16 rcl ih
 show ZE _ _ (lpW _ _ _ _ _ _ _)
 unfold Zdq
 rw [Zah]
 conv => arg 3; whnf
 refine Zd rfl ?_ ?_
 ·conv => arg 3; whnf
  refine Zk rfl rfl fun x17 hx17 => ?_
  conv => arg 3; whnf
  refine Zi _ ZdO rfl fun x18 hx18 => ?_
  conv => arg 3; whnf
  refine Zi _ Zm9 rfl fun x19 hx19 => ?_
  conv => arg 3; whnf
  exact Ze (ih _)
 ·conv => arg 3; whnf
  exact Zc rfl
def ZiG (t1 : Bool) (c : (List Int)) : Int → Ex × List V × Zm
  | r => (.exit 3, [(.d (D.int .u32 r))], [])
theorem ZmA {t1 : Bool} {c : (List Int)} : ∀ (s21 : Int × Int) (r : Int), lp (Zdw c) s21 = some r → lpW ctx 0 [10, 11, 60, 61, 62] [11] ZoX [(.ptr 0 0), (.d (D.int .u32 s21.1)), (.d (D.list t1 (List.map Zb c))), (.d (Zb (c.length : Int))), (.d (Zb s21.2))] [(.cells [(.d (D.int .u32 7)), (.d (D.fn 100 []))])] = some ((ZiG t1 c) r) := by
 refine Zai (ZiG t1 c) ?_
 intro s21 rcl ih
 show ZE _ _ (lpW _ _ _ _ _ _ _)
 unfold Zdw
 rw [Zah]
 conv => arg 3; whnf
 refine Zd rfl ?_ ?_
 ·conv => arg 3; whnf
  refine Zk rfl rfl fun x22 hx22 => ?_
  conv => arg 3; whnf
  refine Zi _ ZdO rfl fun x23 hx23 => ?_
  conv => arg 3; whnf
  refine Zi _ ZmP rfl fun x24 hx24 => ?_
  conv => arg 3; whnf
  exact Ze (ih _)
 ·conv => arg 3; whnf
  exact Zc rfl
theorem ZqL {t0 : Bool} {t1 : Bool} {a : ZG} {b : (List Int)} {c : (List Int)} : ∀ r, (Zix a b c) = some r → evD ctx 39 [(.d (D.agg [(Zb a.op), (Zb a.arg), (Zb a.work)])), (.d (D.list t0 (List.map Zb b))), (.d (D.list t1 (List.map Zb c)))] = some (Znq r) := by
 show ZE _ (fun r rhs => rhs = some (Znq r)) _
 unfold Zix
 rw [Zaq ctx 39 Zzj _ rfl rfl]
 conv => arg 3; whnf
 refine Zd rfl ?_ ?_
 ·conv => arg 3; whnf
  refine Zl (ZB _ _) ?_
  conv => arg 3; whnf
  refine Zf _ (ZnL _) fun r2 hr2 => ?_
  conv => arg 3; whnf
  refine Zg (Zwi (f := Zb) (g := Zb) (fun ka kb : Int => (ka == kb)) (fun _ _ => rfl) r2 a.arg 0) ?_
  conv => arg 3; whnf
  refine Zi _ ZdO rfl fun x3 hx3 => ?_
  conv => arg 3; whnf
  exact Zc rfl
 ·conv => arg 3; whnf
  refine Zd rfl ?_ ?_
  ·conv => arg 3; whnf
   refine Zi _ ZdO rfl fun x4 hx4 => ?_
   conv => arg 3; whnf
   exact Zc rfl
  ·conv => arg 3; whnf
   refine Zd rfl ?_ ?_
   ·conv => arg 3; whnf
    exact Zc rfl
   ·conv => arg 3; whnf
    refine Zd rfl ?_ ?_
    ·conv => arg 3; whnf
     exact Zc rfl
    ·conv => arg 3; whnf
     refine Zi _ Zpk rfl fun x5 hx5 => ?_
     conv => arg 3; whnf
     refine Zd rfl ?_ ?_
     ·conv => arg 3; whnf
      refine Zr6 rfl ?_ ?_ ?_ ?_
      ·conv => arg 3; whnf
       refine Zg rfl ?_
       conv => arg 3; whnf
       refine Zl (ZB _ _) ?_
       conv => arg 3; whnf
       refine Zf _ (ZnF _) fun r10 hr10 => ?_
       conv => arg 3; whnf
       exact Zc rfl
      ·conv => arg 3; whnf
       refine Zg rfl ?_
       conv => arg 3; whnf
       refine Zl (ZB _ _) ?_
       conv => arg 3; whnf
       refine Zf _ (Zl8 _) fun r15 hr15 => ?_
       conv => arg 3; whnf
       exact Zc rfl
      ·conv => arg 3; whnf
       refine Zg rfl ?_
       conv => arg 3; whnf
       refine Zl (ZB _ _) ?_
       conv => arg 3; whnf
       refine Zf _ (ZmB _) fun r20 hr20 => ?_
       conv => arg 3; whnf
       exact Zc rfl
      ·conv => arg 3; whnf
       refine Zg rfl ?_
       conv => arg 3; whnf
       refine Zl (ZB _ _) ?_
       conv => arg 3; whnf
       refine Zf _ (ZmA _) fun r25 hr25 => ?_
       conv => arg 3; whnf
       exact Zc rfl
     ·exact Z0
def Zjw (r : Zn) : D := (D.agg [(D.list true (List.map Zb r.work)), (D.list true (List.map Zb r.vals))])
def Zg8 (t0 : Bool) (t1 : Bool) (t2 : Bool) (t3 : Bool) (t4 : Bool) (a : Zh) (b : (List Int)) (c : Zn) (d : Int) (x2 : Int) (x4 : (List Int)) : (List Int) → Ex × List V × Zm
  | r => (.exit 0, [(.d (D.list t4 (List.map Zb b))), (.d (Zb d)), (.ptr 0 0), (.ptr 1 0), (.ptr 2 0), (.sl 3 1)], [(.cells (dV t0 t1 t2 t3 a)), (.cells [(.sl 4 1), (.sl 5 1)]), (.cells [(.sl 6 1), (.sl 7 1)]), (.arr 1 (List.map Zb r)), (.arr 1 (List.map Zb (List.set c.work d.toNat (w64 (x2 + 1))))), (.arr 1 (List.map Zb c.vals)), (.arr 1 []), (.arr 1 [])])
theorem ZkT {t0 : Bool} {t1 : Bool} {t2 : Bool} {t3 : Bool} {t4 : Bool} {a : Zh} {b : (List Int)} {c : Zn} {d : Int} {x2 : Int} {x4 : (List Int)} : ∀ (s5 : Int × (List Int)) (r : (List Int)), lp (Ze1 c x4) s5 = some r → lpW ctx 0 [1, 3, 4, 6, 8, 9, 32, 33, 34] [1, 3, 4, 6, 8, 9] Zu8 [(.d (D.list t4 (List.map Zb b))), (.d (Zb d)), (.ptr 0 0), (.ptr 1 0), (.ptr 2 0), (.sl 3 1), (.d (D.list true (List.map Zb x4))), (.d (Zb (x4.length : Int))), (.d (Zb s5.1))] [(.cells (dV t0 t1 t2 t3 a)), (.cells [(.sl 4 1), (.sl 5 1)]), (.cells [(.sl 6 1), (.sl 7 1)]), (.arr 1 (List.map Zb s5.2)), (.arr 1 (List.map Zb (List.set c.work d.toNat (w64 (x2 + 1))))), (.arr 1 (List.map Zb c.vals)), (.arr 1 []), (.arr 1 [])] = some ((Zg8 t0 t1 t2 t3 t4 a b c d x2 x4) r) := by
 refine Zai (Zg8 t0 t1 t2 t3 t4 a b c d x2 x4) ?_
 intro s5 rcl ih
 show ZE _ _ (lpW _ _ _ _ _ _ _)
 unfold Ze1
 rw [Zah]
 conv => arg 3; whnf
 refine Zd rfl ?_ ?_
 ·conv => arg 3; whnf
  refine Zk rfl rfl fun x6 hx6 => ?_
  conv => arg 3; whnf
  refine Zk rfl rfl fun x7 hx7 => ?_
  conv => arg 3; whnf
  refine Zg (Zv rfl hx7) ?_
  conv => arg 3; whnf
  refine ZbP rfl ?_
  conv => arg 3; whnf
  refine Zd (Zfv Zb s5.2 1) ?_ ?_
  ·conv => arg 3; whnf
   refine Zl (Ze6 Zb s5.2 [x7]) ?_
   conv => arg 3; whnf
   exact Ze (ih _)
  ·exact Z0
 ·conv => arg 3; whnf
  exact Zc rfl
theorem ZmX {t0 : Bool} {t1 : Bool} {t2 : Bool} {t3 : Bool} {t4 : Bool} {t5 : Bool} {t6 : Bool} {a : Zh} {b : (List Int)} {c : Zn} {d : Int} : ∀ r, (ZeD a b c d) = some r → evD ctx 48 [(.d (D.agg (dA t0 t1 t2 t3 a))), (.d (D.list t4 (List.map Zb b))), (.d (D.agg [(D.list t5 (List.map Zb c.work)), (D.list t6 (List.map Zb c.vals))])), (.d (Zb d))] = some (Zjw r) := by
 show ZE _ (fun r rhs => rhs = some (Zjw r)) _
 unfold ZeD
 rw [Zaq ctx 48 ZyP _ rfl rfl]
 conv => arg 3; whnf
 refine Zf _ ZeL fun x0 hx0 => ?_
 conv => arg 3; whnf
 refine Zf _ ZeL fun x1 hx1 => ?_
 conv => arg 3; whnf
 refine Zk rfl rfl fun x2 hx2 => ?_
 conv => arg 3; whnf
 refine Zg (Zv rfl hx2) ?_
 conv => arg 3; whnf
 refine Zg (ZaL rfl hx2) ?_
 conv => arg 3; whnf
 refine Zg (Zv rfl hx2) ?_
 conv => arg 3; whnf
 refine Zl (Zan Zb c.work d.toNat (w64 (x2 + 1))) ?_
 conv => arg 3; whnf
 refine Zi _ ZcB rfl fun x3 hx3 => ?_
 conv => arg 3; whnf
 refine Zd rfl ?_ ?_
 ·conv => arg 3; whnf
  refine Zi _ ZnE rfl fun x4 hx4 => ?_
  conv => arg 3; whnf
  refine Zl (ZB _ _) ?_
  conv => arg 3; whnf
  refine Zf _ (ZkT _) fun r8 hr8 => ?_
  conv => arg 3; whnf
  refine Zk rfl rfl fun x9 hx9 => ?_
  conv => arg 3; whnf
  refine Zi _ ZqL rfl fun x10 hx10 => ?_
  conv => arg 3; whnf
  refine Zk rfl rfl fun x11 hx11 => ?_
  conv => arg 3; whnf
  refine Zg (Zv rfl hx11) ?_
  conv => arg 3; whnf
  refine Zl (Zan Zb c.vals d.toNat x10) ?_
  conv => arg 3; whnf
  exact Zc rfl
 ·conv => arg 3; whnf
  exact Zc rfl
def Zj0 (r : ((List Int) × Int)) : D := (D.tup [(D.list true (List.map Zb r.1)), (Zb r.2)])
def Zhy (t0 : Bool) (t1 : Bool) (t2 : Bool) (t3 : Bool) (t4 : Bool) (a : Zh) (b : (List Int)) : ((List Int) × (List Int)) → Ex × List V × Zm
  | r => (.exit 0, [(.ptr 0 0), (.ptr 1 0)], [(.cells (dV t0 t1 t2 t3 a)), (.cells [(.d (D.list true (List.map Zb r.1))), (.d (D.list true (List.map Zb r.2)))])])
theorem Zlp {t0 : Bool} {t1 : Bool} {t2 : Bool} {t3 : Bool} {t4 : Bool} {a : Zh} {b : (List Int)} : ∀ (s2 : (List Int) × (List Int) × (List Int)) (r : ((List Int) × (List Int))), lp (Zev a b) s2 = some r → lpW ctx 0 [1, 2, 6, 8] [2, 6] Zvu [(.d (D.list t4 (List.map Zb b))), (.ptr 0 0), (.ptr 1 0), (.d (D.list true (List.map Zb s2.1)))] [(.cells (dV t0 t1 t2 t3 a)), (.cells [(.d (D.list true (List.map Zb s2.2.1))), (.d (D.list true (List.map Zb s2.2.2)))])] = some ((Zhy t0 t1 t2 t3 t4 a b) r) := by
 refine Zai (Zhy t0 t1 t2 t3 t4 a b) ?_
 intro s2 rcl ih
 show ZE _ _ (lpW _ _ _ _ _ _ _)
 unfold Zev
 rw [Zah]
 conv => arg 3; whnf
 refine Zl (ZB _ _) ?_
 conv => arg 3; whnf
 refine Zd rfl ?_ ?_
 ·conv => arg 3; whnf
  refine Zk rfl rfl fun x3 hx3 => ?_
  conv => arg 3; whnf
  refine Zi _ ZmX rfl fun x4 hx4 => ?_
  conv => arg 3; whnf
  refine Zi _ Zjk rfl fun x5 hx5 => ?_
  conv => arg 3; whnf
  exact Ze (ih _)
 ·conv => arg 3; whnf
  exact Zc rfl
def ZhU (t0 : Bool) (t1 : Bool) (t2 : Bool) (t3 : Bool) (a : Zh) (r6 : ((List Int) × (List Int))) : (Unit ⊕ Unit) → Ex × List V × Zm
  | (.inl r) => (.ret, [(.nilsl 1), (.d (Zb 94)), (.ptr 0 0)], [(.cells [(.d (D.list true (List.map Zb r6.1))), (.d (D.list true (List.map Zb r6.2)))])])
  | (.inr r) => (.exit 2, [.bad, .bad, (.ptr 0 0)], [(.cells [(.d (D.list true (List.map Zb r6.1))), (.d (D.list true (List.map Zb r6.2)))])])
theorem ZlM {t0 : Bool} {t1 : Bool} {t2 : Bool} {t3 : Bool} {a : Zh} {r6 : ((List Int) × (List Int))} : ∀ (s7 : Int) (r : (Unit ⊕ Unit)), lp (ZcV a r6) s7 = some r → lpW ctx 0 [2, 6, 36, 37] [4, 5, 6] Zvw [(.ptr 0 0), (.ptr 1 0), (.d (Zb (a.parts.length : Int))), (.d (Zb s7))] [(.cells (dV t0 t1 t2 t3 a)), (.cells [(.d (D.list true (List.map Zb r6.1))), (.d (D.list true (List.map Zb r6.2)))])] = some ((ZhU t0 t1 t2 t3 a r6) r) := by
 refine Zai (ZhU t0 t1 t2 t3 a r6) ?_
 intro s7 rcl ih
 show ZE _ _ (lpW _ _ _ _ _ _ _)
 unfold ZcV
 rw [Zah]
 conv => arg 3; whnf
 refine Zd rfl ?_ ?_
 ·conv => arg 3; whnf
  refine Zi _ ZcB rfl fun x8 hx8 => ?_
  conv => arg 3; whnf
  refine Zd rfl ?_ ?_
  ·conv => arg 3; whnf
   exact Ze (ih _)
  ·conv => arg 3; whnf
   exact Zc rfl
 ·conv => arg 3; whnf
  exact Zc rfl
theorem ZnH {t0 : Bool} {t1 : Bool} {t2 : Bool} {t3 : Bool} {t4 : Bool} {a : Zh} {b : (List Int)} : ∀ r, (Zes a b) = some r → evD ctx 33 [(.d (D.agg (dA t0 t1 t2 t3 a))), (.d (D.list t4 (List.map Zb b)))] = some (Zj0 r) := by
 show ZE _ (fun r rhs => rhs = some (Zj0 r)) _
 unfold Zes
 rw [Zaq ctx 33 ZzJ _ rfl rfl]
 conv => arg 3; whnf
 refine Zi _ Zjs rfl fun x0 hx0 => ?_
 conv => arg 3; whnf
 refine Zd rfl ?_ ?_
 ·conv => arg 3; whnf
  exact Zc rfl
 ·conv => arg 3; whnf
  refine Zi _ Zjk rfl fun x1 hx1 => ?_
  conv => arg 3; whnf
  refine Zf _ (Zlp _) fun r6 hr6 => ?_
  conv => arg 3; whnf
  refine Zl (ZB _ _) ?_
  conv => arg 3; whnf
  refine Zf _ (ZlM _) fun r9 hr9 => ?_
  clear hr9
  rcases r9 with r9 | r9
  ·conv => arg 3; whnf
   exact Zc rfl
  ·conv => arg 3; whnf
   exact Zc rfl
def Zk6 (r : (Int × Bool)) : D := (D.tup [(Zb r.1), (D.bool r.2)])
def Zib (a : Int) : (Int ⊕ Unit) → Ex × List V × Zm
  | (.inl r) => (.ret, [(.d (Zb r)), (.d (D.bool true))], [])
  | (.inr r) => (.exit 0, [.bad, .bad], [])
theorem Zl0 {a : Int} : ∀ (s0 : Int × Int) (r : (Int ⊕ Unit)), lp (Zck a) s0 = some r → lpW ctx 0 [0, 4, 5] [2, 3] ZvG [(.d (Zb a)), (.d (Zb s0.1)), (.d (Zb s0.2))] [] = some ((Zib a) r) := by
 refine Zai (Zib a) ?_
 intro s0 rcl ih
 show ZE _ _ (lpW _ _ _ _ _ _ _)
 unfold Zck
 rw [Zah]
 conv => arg 3; whnf
 refine Zd rfl ?_ ?_
 ·conv => arg 3; whnf
  refine Zd rfl ?_ ?_
  ·conv => arg 3; whnf
   exact Zc rfl
  ·conv => arg 3; whnf
   exact Ze (ih _)
 ·conv => arg 3; whnf
  exact Zc rfl
theorem ZoC {a : Int} : ∀ r, (ZgH a) = some r → evD ctx 95 [(.d (Zb a))] = some (Zk6 r) := by
 show ZE _ (fun r rhs => rhs = some (Zk6 r)) _
 unfold ZgH
 rw [Zaq ctx 95 ZyZ _ rfl rfl]
 conv => arg 3; whnf
 refine Zf _ (Zl0 _) fun r1 hr1 => ?_
 clear hr1
 rcases r1 with r1 | r1
 ·conv => arg 3; whnf
  exact Zc rfl
 ·conv => arg 3; whnf
  exact Zc rfl
def ZjN (r : Bool) : D := (D.bool r)
theorem ZnG {t0 : Bool} {t1 : Bool} {t2 : Bool} {t3 : Bool} {a : Zh} : ∀ r, (ZfX a) = some r → evD ctx 58 [(.d (D.agg (dA t0 t1 t2 t3 a)))] = some (ZjN r) := by
 show ZE _ (fun r rhs => rhs = some (ZjN r)) _
 unfold ZfX
 rw [Zaq ctx 58 Zzr _ rfl rfl]
 conv => arg 3; whnf
 refine Zi _ ZoC rfl fun x0 hx0 => ?_
 conv => arg 3; whnf
 refine Zd rfl ?_ ?_
 ·conv => arg 3; whnf
  refine Zd rfl ?_ ?_
  ·conv => arg 3; whnf
   refine Zd rfl ?_ ?_
   ·conv => arg 3; whnf
    refine Zd rfl ?_ ?_
    ·conv => arg 3; whnf
     exact Zc rfl
    ·conv => arg 3; whnf
     exact Zc rfl
   ·conv => arg 3; whnf
    exact Zc rfl
  ·conv => arg 3; whnf
   exact Zc rfl
 ·conv => arg 3; whnf
  exact Zc rfl
def Zjh (r : Bool) : D := (D.bool r)
def Zhj (t0 : Bool) (t1 : Bool) (t2 : Bool) (t3 : Bool) (a : Zh) : (Unit ⊕ Unit) → Ex × List V × Zm
  | (.inl r) => (.ret, [(.d (D.bool false))], [])
  | (.inr r) => (.exit 0, [.bad], [])
theorem ZkU {t0 : Bool} {t1 : Bool} {t2 : Bool} {t3 : Bool} {a : Zh} : ∀ (s0 : Int) (r : (Unit ⊕ Unit)), lp (Zdo a) s0 = some r → lpW ctx 0 [1, 3] [2] ZvB [(.ptr 0 0), (.d (Zb s0))] [(.cells (dV t0 t1 t2 t3 a))] = some ((Zhj t0 t1 t2 t3 a) r) := by
 refine Zai (Zhj t0 t1 t2 t3 a) ?_
 intro s0 rcl ih
 show ZE _ _ (lpW _ _ _ _ _ _ _)
 unfold Zdo
 rw [Zah]
 conv => arg 3; whnf
 refine Zl (ZB _ _) ?_
 conv => arg 3; whnf
 refine Zd rfl ?_ ?_
 ·conv => arg 3; whnf
  refine Zk rfl rfl fun x1 hx1 => ?_
  conv => arg 3; whnf
  refine Zd rfl ?_ ?_
  ·conv => arg 3; whnf
   exact Zc rfl
  ·conv => arg 3; whnf
   refine Zd rfl ?_ ?_
   ·conv => arg 3; whnf
    exact Zc rfl
   ·conv => arg 3; whnf
    refine Zd rfl ?_ ?_
    ·conv => arg 3; whnf
     exact Zc rfl
    ·conv => arg 3; whnf
     refine Zd rfl ?_ ?_
     ·conv => arg 3; whnf
      exact Zc rfl
     ·conv => arg 3; whnf
      refine Zd rfl ?_ ?_
      ·conv => arg 3; whnf
       exact Zc rfl
      ·conv => arg 3; whnf
       refine Zd rfl ?_ ?_
       ·conv => arg 3; whnf
        exact Zc rfl
       ·conv => arg 3; whnf
        exact Ze (ih _)
 ·conv => arg 3; whnf
  exact Zc rfl
theorem Zm2 {t0 : Bool} {t1 : Bool} {t2 : Bool} {t3 : Bool} {a : Zh} : ∀ r, (Zfm a) = some r → evD ctx 59 [(.d (D.agg (dA t0 t1 t2 t3 a)))] = some (Zjh r) := by
 show ZE _ (fun r rhs => rhs = some (Zjh r)) _
 unfold Zfm
 rw [Zaq ctx 59 ZyC _ rfl rfl]
 conv => arg 3; whnf
 refine Zf _ (ZkU _) fun r2 hr2 => ?_
 clear hr2
 rcases r2 with r2 | r2
 ·conv => arg 3; whnf
  exact Zc rfl
 ·conv => arg 3; whnf
  exact Zc rfl
def ZjM (r : Bool) : D := (D.bool r)
theorem Zet {t0 : Bool} {t1 : Bool} {t2 : Bool} {t3 : Bool} {a : Zh} {b : Int} : ∀ r, (Zdb a b) = some r → evD ctx 49 [(.d (D.agg (dA t0 t1 t2 t3 a))), (.d (Zb b))] = some (ZjM r) := by
 show ZE _ (fun r rhs => rhs = some (ZjM r)) _
 unfold Zdb
 rw [Zaq ctx 49 Zzv _ rfl rfl]
 conv => arg 3; whnf
 refine Zd rfl ?_ ?_
 ·conv => arg 3; whnf
  refine Zl (ZB _ _) ?_
  conv => arg 3; whnf
  refine Zd rfl ?_ ?_
  ·conv => arg 3; whnf
   exact Zc rfl
  ·conv => arg 3; whnf
   exact Zc rfl
 ·conv => arg 3; whnf
  exact Zc rfl
def Zje (r : Bool) : D := (D.bool r)
def Zhk (t0 : Bool) (t1 : Bool) (t2 : Bool) (t3 : Bool) (a : Zh) (s0 : Int) (x1 : ZM) : (Unit ⊕ Unit) → Ex × List V × Zm
  | (.inl r) => (.ret, [(.ptr 0 0), (.d (D.bool false)), (.d (Zb s0))], [(.cells (dV t0 t1 t2 t3 a))])
  | (.inr r) => (.exit 2, [(.ptr 0 0), .bad, (.d (Zb s0))], [(.cells (dV t0 t1 t2 t3 a))])
theorem ZkV {t0 : Bool} {t1 : Bool} {t2 : Bool} {t3 : Bool} {a : Zh} {s0 : Int} {x1 : ZM} : ∀ (s4 : Int) (r : (Unit ⊕ Unit)), lp (Zdi a s0 x1) s4 = some r → lpW ctx 0 [1, 3, 4, 5] [1, 2, 3] Zwj [(.ptr 0 0), (.d (Zb s0)), (.ptr 1 0), (.d (Zb s4))] [(.cells (dV t0 t1 t2 t3 a)), (.cells [(.d (Zb x1.src)), (.d (Zb x1.dst))])] = some ((Zhk t0 t1 t2 t3 a s0 x1) r) := by
 refine Zai (Zhk t0 t1 t2 t3 a s0 x1) ?_
 intro s4 rcl ih
 show ZE _ _ (lpW _ _ _ _ _ _ _)
 unfold Zdi
 rw [Zah]
 conv => arg 3; whnf
 refine Zd rfl ?_ ?_
 ·conv => arg 3; whnf
  refine Zk rfl rfl fun x5 hx5 => ?_
  conv => arg 3; whnf
  refine Zd rfl ?_ ?_
  ·conv => arg 3; whnf
   refine Zg (ZaL rfl hx5) ?_
   conv => arg 3; whnf
   refine Zd rfl ?_ ?_
   ·conv => arg 3; whnf
    exact Zc rfl
   ·conv => arg 3; whnf
    exact Ze (ih _)
  ·conv => arg 3; whnf
   exact Ze (ih _)
 ·conv => arg 3; whnf
  exact Zc rfl
def Zhv (t0 : Bool) (t1 : Bool) (t2 : Bool) (t3 : Bool) (a : Zh) : (Unit ⊕ Unit) → Ex × List V × Zm
  | (.inl r) => (.ret, [(.d (D.bool false))], [])
  | (.inr r) => (.exit 0, [.bad], [])
theorem ZkS {t0 : Bool} {t1 : Bool} {t2 : Bool} {t3 : Bool} {a : Zh} : ∀ (s0 : Int) (r : (Unit ⊕ Unit)), lp (Zdp a) s0 = some r → lpW ctx 0 [1, 3] [2] ZwH [(.ptr 0 0), (.d (Zb s0))] [(.cells (dV t0 t1 t2 t3 a))] = some ((Zhv t0 t1 t2 t3 a) r) := by
 refine Zai (Zhv t0 t1 t2 t3 a) ?_
 intro s0 rcl ih
 show ZE _ _ (lpW _ _ _ _ _ _ _)
 unfold Zdp
 rw [Zah]
 conv => arg 3; whnf
 refine Zl (ZB _ _) ?_
 conv => arg 3; whnf
 refine Zd rfl ?_ ?_
 ·conv => arg 3; whnf
  refine Zk rfl rfl fun x1 hx1 => ?_
  conv => arg 3; whnf
  refine Zi _ Zet rfl fun x2 hx2 => ?_
  conv => arg 3; whnf
  refine Zd rfl ?_ ?_
  ·conv => arg 3; whnf
   refine Zi _ Zet rfl fun x3 hx3 => ?_
   conv => arg 3; whnf
   refine Zd rfl ?_ ?_
   ·conv => arg 3; whnf
    refine Zd rfl ?_ ?_
    ·conv => arg 3; whnf
     exact Zc rfl
    ·conv => arg 3; whnf
     refine Zf _ (ZkV _) fun r6 hr6 => ?_
     clear hr6
     rcases r6 with r6 | r6
     ·conv => arg 3; whnf
      exact Zc rfl
     ·conv => arg 3; whnf
      exact Ze (ih _)
   ·conv => arg 3; whnf
    exact Zc rfl
  ·conv => arg 3; whnf
   exact Zc rfl
 ·conv => arg 3; whnf
  exact Zc rfl
theorem ZmL {t0 : Bool} {t1 : Bool} {t2 : Bool} {t3 : Bool} {a : Zh} : ∀ r, (Zfl a) = some r → evD ctx 60 [(.d (D.agg (dA t0 t1 t2 t3 a)))] = some (Zje r) := by
 show ZE _ (fun r rhs => rhs = some (Zje r)) _
 unfold Zfl
 rw [Zaq ctx 60 ZyK _ rfl rfl]
 conv => arg 3; whnf
 refine Zf _ (ZkS _) fun r7 hr7 => ?_
 clear hr7
 rcases r7 with r7 | r7
 ·conv => arg 3; whnf
  exact Zc rfl
 ·conv => arg 3; whnf
  exact Zc rfl
def ZhV (r : Bool) : D := (D.bool r)
def Zgl (t0 : Bool) (t1 : Bool) (t2 : Bool) (t3 : Bool) (a : Zh) (s0 : Int) (x1 : Zs) : (Unit ⊕ Unit) → Ex × List V × Zm
  | (.inl r) => (.ret, [(.ptr 0 0), (.d (D.bool false)), (.d (Zb s0))], [(.cells (dV t0 t1 t2 t3 a))])
  | (.inr r) => (.exit 2, [(.ptr 0 0), .bad, (.d (Zb s0))], [(.cells (dV t0 t1 t2 t3 a))])
theorem ZjB {t0 : Bool} {t1 : Bool} {t2 : Bool} {t3 : Bool} {a : Zh} {s0 : Int} {x1 : Zs} : ∀ (s5 : Int) (r : (Unit ⊕ Unit)), lp (Zcz a s0 x1) s5 = some r → lpW ctx 0 [1, 3, 4, 5] [1, 2, 3] Zu1 [(.ptr 0 0), (.d (Zb s0)), (.ptr 1 0), (.d (Zb s5))] [(.cells (dV t0 t1 t2 t3 a)), (.cells [(.d (Zb x1.maker)), (.d (Zb x1.user)), (.d (Zb x1.pos))])] = some ((Zgl t0 t1 t2 t3 a s0 x1) r) := by
 refine Zai (Zgl t0 t1 t2 t3 a s0 x1) ?_
 intro s5 rcl ih
 show ZE _ _ (lpW _ _ _ _ _ _ _)
 unfold Zcz
 rw [Zah]
 conv => arg 3; whnf
 refine Zd rfl ?_ ?_
 ·conv => arg 3; whnf
  refine Zk rfl rfl fun x6 hx6 => ?_
  conv => arg 3; whnf
  refine Zd rfl ?_ ?_
  ·conv => arg 3; whnf
   refine Zg (ZaL rfl hx6) ?_
   conv => arg 3; whnf
   refine Zd rfl ?_ ?_
   ·conv => arg 3; whnf
    exact Zc rfl
   ·conv => arg 3; whnf
    exact Ze (ih _)
  ·conv => arg 3; whnf
   exact Ze (ih _)
 ·conv => arg 3; whnf
  exact Zc rfl
def ZgE (t0 : Bool) (t1 : Bool) (t2 : Bool) (t3 : Bool) (a : Zh) : (Unit ⊕ Unit) → Ex × List V × Zm
  | (.inl r) => (.ret, [(.d (D.bool false))], [])
  | (.inr r) => (.exit 0, [.bad], [])
theorem ZjG {t0 : Bool} {t1 : Bool} {t2 : Bool} {t3 : Bool} {a : Zh} : ∀ (s0 : Int) (r : (Unit ⊕ Unit)), lp (ZcC a) s0 = some r → lpW ctx 0 [1, 3] [2] Zwg [(.ptr 0 0), (.d (Zb s0))] [(.cells (dV t0 t1 t2 t3 a))] = some ((ZgE t0 t1 t2 t3 a) r) := by
 refine Zai (ZgE t0 t1 t2 t3 a) ?_
 intro s0 rcl ih
 show ZE _ _ (lpW _ _ _ _ _ _ _)
 unfold ZcC
 rw [Zah]
 conv => arg 3; whnf
 refine Zl (ZB _ _) ?_
 conv => arg 3; whnf
 refine Zd rfl ?_ ?_
 ·conv => arg 3; whnf
  refine Zk rfl rfl fun x1 hx1 => ?_
  conv => arg 3; whnf
  refine Zi _ Zet rfl fun x2 hx2 => ?_
  conv => arg 3; whnf
  refine Zd rfl ?_ ?_
  ·conv => arg 3; whnf
   refine Zi _ Zet rfl fun x3 hx3 => ?_
   conv => arg 3; whnf
   refine Zd rfl ?_ ?_
   ·conv => arg 3; whnf
    refine Zd rfl ?_ ?_
    ·conv => arg 3; whnf
     exact Zc rfl
    ·conv => arg 3; whnf
     refine Zd rfl ?_ ?_
     ·conv => arg 3; whnf
      exact Zc rfl
     ·conv => arg 3; whnf
      refine Zk rfl rfl fun x4 hx4 => ?_
      conv => arg 3; whnf
      refine Zd rfl ?_ ?_
      ·conv => arg 3; whnf
       exact Zc rfl
      ·conv => arg 3; whnf
       refine Zf _ (ZjB _) fun r7 hr7 => ?_
       clear hr7
       rcases r7 with r7 | r7
       ·conv => arg 3; whnf
        exact Zc rfl
       ·conv => arg 3; whnf
        exact Ze (ih _)
   ·conv => arg 3; whnf
    exact Zc rfl
  ·conv => arg 3; whnf
   exact Zc rfl
 ·conv => arg 3; whnf
  exact Zc rfl
theorem ZlC {t0 : Bool} {t1 : Bool} {t2 : Bool} {t3 : Bool} {a : Zh} : ∀ r, (Zex a) = some r → evD ctx 61 [(.d (D.agg (dA t0 t1 t2 t3 a)))] = some (ZhV r) := by
 show ZE _ (fun r rhs => rhs = some (ZhV r)) _
 unfold Zex
 rw [Zaq ctx 61 Zyv _ rfl rfl]
 conv => arg 3; whnf
 refine Zf _ (ZjG _) fun r8 hr8 => ?_
 clear hr8
 rcases r8 with r8 | r8
 ·conv => arg 3; whnf
  exact Zc rfl
 ·conv => arg 3; whnf
  exact Zc rfl
def Zk3 (r : Bool) : D := (D.bool r)
def Zio (t0 : Bool) (t1 : Bool) (t2 : Bool) (t3 : Bool) (t4 : Bool) (a : Zh) (b : (List Int)) : (Unit ⊕ Unit) → Ex × List V × Zm
  | (.inl r) => (.ret, [(.d (D.list t4 (List.map Zb b))), (.d (D.bool false))], [])
  | (.inr r) => (.exit 0, [(.d (D.list t4 (List.map Zb b))), .bad], [])
theorem ZmE {t0 : Bool} {t1 : Bool} {t2 : Bool} {t3 : Bool} {t4 : Bool} {a : Zh} {b : (List Int)} : ∀ (s0 : Int) (r : (Unit ⊕ Unit)), lp (Zec a b) s0 = some r → lpW ctx 0 [1, 2, 5] [1, 4] ZwX [(.d (D.list t4 (List.map Zb b))), (.ptr 0 0), (.d (Zb s0))] [(.cells (dV t0 t1 t2 t3 a))] = some ((Zio t0 t1 t2 t3 t4 a b) r) := by
 refine Zai (Zio t0 t1 t2 t3 t4 a b) ?_
 intro s0 rcl ih
 show ZE _ _ (lpW _ _ _ _ _ _ _)
 unfold Zec
 rw [Zah]
 conv => arg 3; whnf
 refine Zl (ZB _ _) ?_
 conv => arg 3; whnf
 refine Zd rfl ?_ ?_
 ·conv => arg 3; whnf
  refine Zk rfl rfl fun x1 hx1 => ?_
  conv => arg 3; whnf
  refine Zi _ Zet rfl fun x2 hx2 => ?_
  conv => arg 3; whnf
  refine Zd rfl ?_ ?_
  ·conv => arg 3; whnf
   refine Zd rfl ?_ ?_
   ·conv => arg 3; whnf
    refine Zk rfl rfl fun x3 hx3 => ?_
    conv => arg 3; whnf
    refine Zg (ZaL rfl hx1) ?_
    conv => arg 3; whnf
    refine Zd rfl ?_ ?_
    ·conv => arg 3; whnf
     exact Zc rfl
    ·conv => arg 3; whnf
     exact Ze (ih _)
   ·conv => arg 3; whnf
    exact Ze (ih _)
  ·conv => arg 3; whnf
   exact Zc rfl
 ·conv => arg 3; whnf
  exact Zc rfl
theorem Zkv {t0 : Bool} {t1 : Bool} {t2 : Bool} {t3 : Bool} {t4 : Bool} {a : Zh} {b : (List Int)} : ∀ r, (ZfG a b) = some r → evD ctx 96 [(.d (D.agg (dA t0 t1 t2 t3 a))), (.d (D.list t4 (List.map Zb b)))] = some (Zk3 r) := by
 show ZE _ (fun r rhs => rhs = some (Zk3 r)) _
 unfold ZfG
 rw [Zaq ctx 96 Zze _ rfl rfl]
 conv => arg 3; whnf
 refine Zf _ (ZmE _) fun r4 hr4 => ?_
 clear hr4
 rcases r4 with r4 | r4
 ·conv => arg 3; whnf
  exact Zc rfl
 ·conv => arg 3; whnf
  refine Zl (ZB _ _) ?_
  conv => arg 3; whnf
  refine Zd rfl ?_ ?_
  ·conv => arg 3; whnf
   exact Zc rfl
  ·conv => arg 3; whnf
   exact Zc rfl
def ZkZ (r : Bool) : D := (D.bool r)
def Zie (t0 : Bool) (a : (List Int)) (b : Int) : (Unit ⊕ Unit) → Ex × List V × Zm
  | (.inl r) => (.ret, [(.d (D.bool true))], [])
  | (.inr r) => (.exit 0, [.bad], [])
theorem Zl1 {t0 : Bool} {a : (List Int)} {b : Int} : ∀ (s0 : Int) (r : (Unit ⊕ Unit)), lp (Zef a b) s0 = some r → lpW ctx 0 [0, 1, 5] [4] Zwv [(.d (D.list t0 (List.map Zb a))), (.d (Zb b)), (.d (Zb s0))] [] = some ((Zie t0 a b) r) := by
 refine Zai (Zie t0 a b) ?_
 intro s0 rcl ih
 show ZE _ _ (lpW _ _ _ _ _ _ _)
 unfold Zef
 rw [Zah]
 conv => arg 3; whnf
 refine Zl (ZB _ _) ?_
 conv => arg 3; whnf
 refine Zd rfl ?_ ?_
 ·conv => arg 3; whnf
  refine Zk rfl rfl fun x1 hx1 => ?_
  conv => arg 3; whnf
  refine Zd rfl ?_ ?_
  ·conv => arg 3; whnf
   exact Zc rfl
  ·conv => arg 3; whnf
   exact Ze (ih _)
 ·conv => arg 3; whnf
  exact Zc rfl
theorem Zkw {t0 : Bool} {a : (List Int)} {b : Int} : ∀ r, (ZfC a b) = some r → evD ctx 81 [(.d (D.list t0 (List.map Zb a))), (.d (Zb b))] = some (ZkZ r) := by
 show ZE _ (fun r rhs => rhs = some (ZkZ r)) _
 unfold ZfC
 rw [Zaq ctx 81 ZyB _ rfl rfl]
 conv => arg 3; whnf
 refine Zf _ (Zl1 _) fun r2 hr2 => ?_
 clear hr2
 rcases r2 with r2 | r2
 ·conv => arg 3; whnf
  exact Zc rfl
 ·conv => arg 3; whnf
  exact Zc rfl
def Zg9 (r : Bool) : D := (D.bool r)
def Zf0 (t0 : Bool) (t1 : Bool) (t2 : Bool) (t3 : Bool) (a : Zh) (s0 : Int) (x1 : Zo) : (Unit ⊕ Unit) → Ex × List V × Zm
  | (.inl r) => (.ret, [(.ptr 0 0), (.d (D.bool false)), (.d (Zb s0))], [(.cells (dV t0 t1 t2 t3 a))])
  | (.inr r) => (.exit 2, [(.ptr 0 0), .bad, (.d (Zb s0))], [(.cells (dV t0 t1 t2 t3 a))])
theorem Zi4 {t0 : Bool} {t1 : Bool} {t2 : Bool} {t3 : Bool} {a : Zh} {s0 : Int} {x1 : Zo} : ∀ (s4 : Int) (r : (Unit ⊕ Unit)), lp (Zcn x1) s4 = some r → lpW ctx 0 [1, 3, 4, 5] [1, 2, 3] Zv9 [(.ptr 0 0), (.d (Zb s0)), (.ptr 1 0), (.d (Zb s4))] [(.cells (dV t0 t1 t2 t3 a)), (.cells [(.d (D.list true (List.map Zb x1.ins))), (.d (D.list true (List.map Zb x1.outs)))])] = some ((Zf0 t0 t1 t2 t3 a s0 x1) r) := by
 refine Zai (Zf0 t0 t1 t2 t3 a s0 x1) ?_
 intro s4 rcl ih
 show ZE _ _ (lpW _ _ _ _ _ _ _)
 unfold Zcn
 rw [Zah]
 conv => arg 3; whnf
 refine Zl (ZB _ _) ?_
 conv => arg 3; whnf
 refine Zd rfl ?_ ?_
 ·conv => arg 3; whnf
  refine Zk rfl rfl fun x5 hx5 => ?_
  conv => arg 3; whnf
  refine Zi _ Zkw rfl fun x6 hx6 => ?_
  conv => arg 3; whnf
  refine Zd rfl ?_ ?_
  ·conv => arg 3; whnf
   exact Zc rfl
  ·conv => arg 3; whnf
   exact Ze (ih _)
 ·conv => arg 3; whnf
  exact Zc rfl
def ZfZ (t0 : Bool) (t1 : Bool) (t2 : Bool) (t3 : Bool) (a : Zh) : (Unit ⊕ Unit) → Ex × List V × Zm
  | (.inl r) => (.ret, [(.d (D.bool false))], [])
  | (.inr r) => (.exit 0, [.bad], [])
theorem ZiV {t0 : Bool} {t1 : Bool} {t2 : Bool} {t3 : Bool} {a : Zh} : ∀ (s0 : Int) (r : (Unit ⊕ Unit)), lp (Zcm a) s0 = some r → lpW ctx 0 [1, 3] [2] ZwU [(.ptr 0 0), (.d (Zb s0))] [(.cells (dV t0 t1 t2 t3 a))] = some ((ZfZ t0 t1 t2 t3 a) r) := by
 refine Zai (ZfZ t0 t1 t2 t3 a) ?_
 intro s0 rcl ih
 show ZE _ _ (lpW _ _ _ _ _ _ _)
 unfold Zcm
 rw [Zah]
 conv => arg 3; whnf
 refine Zl (ZB _ _) ?_
 conv => arg 3; whnf
 refine Zd rfl ?_ ?_
 ·conv => arg 3; whnf
  refine Zk rfl rfl fun x1 hx1 => ?_
  conv => arg 3; whnf
  refine Zi _ Zkv rfl fun x2 hx2 => ?_
  conv => arg 3; whnf
  refine Zd rfl ?_ ?_
  ·conv => arg 3; whnf
   refine Zi _ Zkv rfl fun x3 hx3 => ?_
   conv => arg 3; whnf
   refine Zd rfl ?_ ?_
   ·conv => arg 3; whnf
    refine Zf _ (Zi4 _) fun r7 hr7 => ?_
    clear hr7
    rcases r7 with r7 | r7
    ·conv => arg 3; whnf
     exact Zc rfl
    ·conv => arg 3; whnf
     exact Ze (ih _)
   ·conv => arg 3; whnf
    exact Zc rfl
  ·conv => arg 3; whnf
   exact Zc rfl
 ·conv => arg 3; whnf
  exact Zc rfl
theorem ZkQ {t0 : Bool} {t1 : Bool} {t2 : Bool} {t3 : Bool} {a : Zh} : ∀ r, (Zeh a) = some r → evD ctx 62 [(.d (D.agg (dA t0 t1 t2 t3 a)))] = some (Zg9 r) := by
 show ZE _ (fun r rhs => rhs = some (Zg9 r)) _
 unfold Zeh
 rw [Zaq ctx 62 Zyy _ rfl rfl]
 conv => arg 3; whnf
 refine Zf _ (ZiV _) fun r8 hr8 => ?_
 clear hr8
 rcases r8 with r8 | r8
 ·conv => arg 3; whnf
  exact Zc rfl
 ·conv => arg 3; whnf
  exact Zc rfl
def Zjf (r : Int) : D := (Zb r)
theorem Ziw {t0 : Bool} {t1 : Bool} {t2 : Bool} {t3 : Bool} {a : Zh} : ∀ r, (ZeB a) = some r → evD ctx 36 [(.d (D.agg (dA t0 t1 t2 t3 a)))] = some (Zjf r) := by
 show ZE _ (fun r rhs => rhs = some (Zjf r)) _
 unfold ZeB
 rw [Zaq ctx 36 ZyG _ rfl rfl]
 conv => arg 3; whnf
 refine Zl (ZB _ _) ?_
 conv => arg 3; whnf
 refine Zd rfl ?_ ?_
 ·conv => arg 3; whnf
  exact Zc rfl
 ·conv => arg 3; whnf
  refine Zl (ZB _ _) ?_
  conv => arg 3; whnf
  refine Zd rfl ?_ ?_
  ·conv => arg 3; whnf
   exact Zc rfl
  ·conv => arg 3; whnf
   refine Zl (ZB _ _) ?_
   conv => arg 3; whnf
   refine Zd rfl ?_ ?_
   ·conv => arg 3; whnf
    exact Zc rfl
   ·conv => arg 3; whnf
    refine Zl (ZB _ _) ?_
    conv => arg 3; whnf
    refine Zd rfl ?_ ?_
    ·conv => arg 3; whnf
     exact Zc rfl
    ·conv => arg 3; whnf
     refine Zl (ZB _ _) ?_
     conv => arg 3; whnf
     refine Zd rfl ?_ ?_
     ·conv => arg 3; whnf
      exact Zc rfl
     ·conv => arg 3; whnf
      refine Zi _ ZnG rfl fun x0 hx0 => ?_
      conv => arg 3; whnf
      refine Zd rfl ?_ ?_
      ·conv => arg 3; whnf
       refine Zi _ Zm2 rfl fun x1 hx1 => ?_
       conv => arg 3; whnf
       refine Zd rfl ?_ ?_
       ·conv => arg 3; whnf
        refine Zi _ ZmL rfl fun x2 hx2 => ?_
        conv => arg 3; whnf
        refine Zd rfl ?_ ?_
        ·conv => arg 3; whnf
         refine Zi _ ZlC rfl fun x3 hx3 => ?_
         conv => arg 3; whnf
         refine Zd rfl ?_ ?_
         ·conv => arg 3; whnf
          refine Zi _ ZkQ rfl fun x4 hx4 => ?_
          conv => arg 3; whnf
          refine Zd rfl ?_ ?_
          ·conv => arg 3; whnf
           exact Zc rfl
          ·conv => arg 3; whnf
           exact Zc rfl
         ·conv => arg 3; whnf
          exact Zc rfl
        ·conv => arg 3; whnf
         exact Zc rfl
       ·conv => arg 3; whnf
        exact Zc rfl
      ·conv => arg 3; whnf
       exact Zc rfl
def Zk7 (r : Zn) : D := (D.agg [(D.list true (List.map Zb r.work)), (D.list true (List.map Zb r.vals))])
theorem Zj6 {t0 : Bool} {t1 : Bool} {t2 : Bool} {t3 : Bool} {a : Zh} : ∀ r, (ZfE a) = some r → evD ctx 37 [(.d (D.agg (dA t0 t1 t2 t3 a)))] = some (Zk7 r) := by
 show ZE _ (fun r rhs => rhs = some (Zk7 r)) _
 unfold ZfE
 rw [Zaq ctx 37 ZyS _ rfl rfl]
 conv => arg 3; whnf
 refine Zl (ZB _ _) ?_
 conv => arg 3; whnf
 refine Zd rfl ?_ ?_
 ·conv => arg 3; whnf
  refine Zl (ZnO Zb (0 : Int) (a.parts.length : Int)) ?_
  conv => arg 3; whnf
  refine Zl (ZB _ _) ?_
  conv => arg 3; whnf
  refine Zd rfl ?_ ?_
  ·conv => arg 3; whnf
   refine Zl (ZnO Zb (0 : Int) (a.parts.length : Int)) ?_
   conv => arg 3; whnf
   exact Zc rfl
  ·exact Z0
 ·exact Z0
def Zke (r : Bool) : D := (D.bool r)
theorem Zey {t0 : Bool} {t1 : Bool} {t2 : Bool} {t3 : Bool} {t4 : Bool} {t5 : Bool} {a : Zh} {b : Zn} {c : Int} : ∀ r, (ZcG a b c) = some r → evD ctx 50 [(.d (D.agg (dA t0 t1 t2 t3 a))), (.d (D.agg [(D.list t4 (List.map Zb b.work)), (D.list t5 (List.map Zb b.vals))])), (.d (Zb c))] = some (Zke r) := by
 show ZE _ (fun r rhs => rhs = some (Zke r)) _
 unfold ZcG
 rw [Zaq ctx 50 ZzF _ rfl rfl]
 conv => arg 3; whnf
 refine Zk rfl rfl fun x0 hx0 => ?_
 conv => arg 3; whnf
 refine Zk rfl rfl fun x1 hx1 => ?_
 conv => arg 3; whnf
 refine Zd rfl ?_ ?_
 ·conv => arg 3; whnf
  exact Zc rfl
 ·conv => arg 3; whnf
  exact Zc rfl
def Zic (r : Bool) : D := (D.bool r)
def ZgU (t0 : Bool) (t1 : Bool) (t2 : Bool) (t3 : Bool) (t4 : Bool) (t5 : Bool) (a : Zh) (b : Zn) (c : Int) : (List Int) → Ex × List V × Zm
  | r => (.exit 0, [(.d (Zb c)), (.ptr 0 0), (.ptr 1 0), (.sl 2 1)], [(.cells (dV t0 t1 t2 t3 a)), (.cells [(.d (D.list t4 (List.map Zb b.work))), (.d (D.list t5 (List.map Zb b.vals)))]), (.arr 1 (List.map Zb r))])
theorem Zj8 {t0 : Bool} {t1 : Bool} {t2 : Bool} {t3 : Bool} {t4 : Bool} {t5 : Bool} {a : Zh} {b : Zn} {c : Int} : ∀ (s0 : Int × (List Int)) (r : (List Int)), lp (ZeK a c) s0 = some r → lpW ctx 0 [2, 3, 4, 7, 8] [2, 3, 4, 7] Zwp [(.d (Zb c)), (.ptr 0 0), (.ptr 1 0), (.sl 2 1), (.d (Zb s0.1))] [(.cells (dV t0 t1 t2 t3 a)), (.cells [(.d (D.list t4 (List.map Zb b.work))), (.d (D.list t5 (List.map Zb b.vals)))]), (.arr 1 (List.map Zb s0.2))] = some ((ZgU t0 t1 t2 t3 t4 t5 a b c) r) := by
 refine Zai (ZgU t0 t1 t2 t3 t4 t5 a b c) ?_
 intro s0 rcl ih
 show ZE _ _ (lpW _ _ _ _ _ _ _)
 unfold ZeK
 rw [Zah]
 conv => arg 3; whnf
 refine Zl (ZB _ _) ?_
 conv => arg 3; whnf
 refine Zd rfl ?_ ?_
 ·conv => arg 3; whnf
  refine Zk rfl rfl fun x1 hx1 => ?_
  conv => arg 3; whnf
  refine Zd rfl ?_ ?_
  ·conv => arg 3; whnf
   refine Zg (ZaL rfl hx1) ?_
   conv => arg 3; whnf
   refine ZbP rfl ?_
   conv => arg 3; whnf
   refine Zd (Zfv Zb s0.2 1) ?_ ?_
   ·conv => arg 3; whnf
    refine Zl (Ze6 Zb s0.2 [x1.src]) ?_
    conv => arg 3; whnf
    exact Ze (ih _)
   ·exact Z0
  ·conv => arg 3; whnf
   exact Ze (ih _)
 ·conv => arg 3; whnf
  exact Zc rfl
def ZgR (t0 : Bool) (t1 : Bool) (t2 : Bool) (t3 : Bool) (t4 : Bool) (t5 : Bool) (a : Zh) (b : Zn) (c : Int) : (List Int) → Ex × List V × Zm
  | r => (.exit 2, [(.ptr 0 0), (.ptr 1 0), (.sl 2 1)], [(.cells (dV t0 t1 t2 t3 a)), (.cells [(.d (D.list t4 (List.map Zb b.work))), (.d (D.list t5 (List.map Zb b.vals)))]), (.arr 1 (List.map Zb r))])
theorem ZjU {t0 : Bool} {t1 : Bool} {t2 : Bool} {t3 : Bool} {t4 : Bool} {t5 : Bool} {a : Zh} {b : Zn} {c : Int} : ∀ (s3 : Int × (List Int)) (r : (List Int)), lp (ZbR a c) s3 = some r → lpW ctx 0 [2, 3, 4, 7, 9] [3, 4, 7] ZvS [(.d (Zb c)), (.ptr 0 0), (.ptr 1 0), (.sl 2 1), (.d (Zb s3.1))] [(.cells (dV t0 t1 t2 t3 a)), (.cells [(.d (D.list t4 (List.map Zb b.work))), (.d (D.list t5 (List.map Zb b.vals)))]), (.arr 1 (List.map Zb s3.2))] = some ((ZgR t0 t1 t2 t3 t4 t5 a b c) r) := by
 refine Zai (ZgR t0 t1 t2 t3 t4 t5 a b c) ?_
 intro s3 rcl ih
 show ZE _ _ (lpW _ _ _ _ _ _ _)
 unfold ZbR
 rw [Zah]
 conv => arg 3; whnf
 refine Zl (ZB _ _) ?_
 conv => arg 3; whnf
 refine Zd rfl ?_ ?_
 ·conv => arg 3; whnf
  refine Zk rfl rfl fun x4 hx4 => ?_
  conv => arg 3; whnf
  refine Zi _ Zkw rfl fun x5 hx5 => ?_
  conv => arg 3; whnf
  refine Zd rfl ?_ ?_
  ·conv => arg 3; whnf
   refine Zg (ZaL rfl hx4) ?_
   conv => arg 3; whnf
   refine ZbP (Zfp (f := Zb) (fun _ => ⟨rfl, rfl⟩) x4.ins 0) ?_
   conv => arg 3; whnf
   refine Zd (ZvQ Zb s3.2 x4.ins) ?_ ?_
   ·conv => arg 3; whnf
    refine Zl (Ze6 Zb s3.2 x4.ins) ?_
    conv => arg 3; whnf
    exact Ze (ih _)
   ·exact Z0
  ·conv => arg 3; whnf
   exact Ze (ih _)
 ·conv => arg 3; whnf
  exact Zc rfl
def ZgN (t0 : Bool) (t1 : Bool) (t2 : Bool) (t3 : Bool) (t4 : Bool) (t5 : Bool) (a : Zh) (b : Zn) (r6 : (List Int)) : (Unit ⊕ Unit) → Ex × List V × Zm
  | (.inl r) => (.ret, [(.d (D.bool false))], [])
  | (.inr r) => (.exit 4, [.bad], [])
theorem ZjS {t0 : Bool} {t1 : Bool} {t2 : Bool} {t3 : Bool} {t4 : Bool} {t5 : Bool} {a : Zh} {b : Zn} {r6 : (List Int)} : ∀ (s7 : Int) (r : (Unit ⊕ Unit)), lp (ZcQ a b r6) s7 = some r → lpW ctx 0 [3, 4, 7, 10] [6] Zwd [(.ptr 0 0), (.ptr 1 0), (.sl 2 1), (.d (Zb s7))] [(.cells (dV t0 t1 t2 t3 a)), (.cells [(.d (D.list t4 (List.map Zb b.work))), (.d (D.list t5 (List.map Zb b.vals)))]), (.arr 1 (List.map Zb r6))] = some ((ZgN t0 t1 t2 t3 t4 t5 a b r6) r) := by
 refine Zai (ZgN t0 t1 t2 t3 t4 t5 a b r6) ?_
 intro s7 rcl ih
 show ZE _ _ (lpW _ _ _ _ _ _ _)
 unfold ZcQ
 rw [Zah]
 conv => arg 3; whnf
 refine Zl (ZB _ _) ?_
 conv => arg 3; whnf
 refine Zd rfl ?_ ?_
 ·conv => arg 3; whnf
  refine Zk rfl rfl fun x8 hx8 => ?_
  conv => arg 3; whnf
  refine Zg (Zv rfl hx8) ?_
  conv => arg 3; whnf
  refine Zi _ Zey rfl fun x9 hx9 => ?_
  conv => arg 3; whnf
  refine Zd rfl ?_ ?_
  ·conv => arg 3; whnf
   exact Ze (ih _)
  ·conv => arg 3; whnf
   exact Zc rfl
 ·conv => arg 3; whnf
  exact Zc rfl
theorem ZlY {t0 : Bool} {t1 : Bool} {t2 : Bool} {t3 : Bool} {t4 : Bool} {t5 : Bool} {a : Zh} {b : Zn} {c : Int} : ∀ r, (ZeS a b c) = some r → evD ctx 53 [(.d (D.agg (dA t0 t1 t2 t3 a))), (.d (D.agg [(D.list t4 (List.map Zb b.work)), (D.list t5 (List.map Zb b.vals))])), (.d (Zb c))] = some (Zic r) := by
 show ZE _ (fun r rhs => rhs = some (Zic r)) _
 unfold ZeS
 rw [Zaq ctx 53 ZzE _ rfl rfl]
 conv => arg 3; whnf
 refine Zf _ (Zj8 _) fun r2 hr2 => ?_
 conv => arg 3; whnf
 refine Zf _ (ZjU _) fun r6 hr6 => ?_
 conv => arg 3; whnf
 refine Zf _ (ZjS _) fun r10 hr10 => ?_
 clear hr10
 rcases r10 with r10 | r10
 ·conv => arg 3; whnf
  exact Zc rfl
 ·conv => arg 3; whnf
  exact Zc rfl
def Zka (r : Bool) : D := (D.bool r)
def ZhS (t0 : Bool) (t1 : Bool) (t2 : Bool) (t3 : Bool) (t4 : Bool) (t5 : Bool) (a : Zh) (b : Zn) (c : Int) : (Unit ⊕ Unit) → Ex × List V × Zm
  | (.inl r) => (.ret, [(.d (Zb c)), (.ptr 0 0), (.ptr 1 0), (.d (D.bool false))], [(.cells (dV t0 t1 t2 t3 a)), (.cells [(.d (D.list t4 (List.map Zb b.work))), (.d (D.list t5 (List.map Zb b.vals)))])])
  | (.inr r) => (.exit 0, [(.d (Zb c)), (.ptr 0 0), (.ptr 1 0), .bad], [(.cells (dV t0 t1 t2 t3 a)), (.cells [(.d (D.list t4 (List.map Zb b.work))), (.d (D.list t5 (List.map Zb b.vals)))])])
theorem ZlA {t0 : Bool} {t1 : Bool} {t2 : Bool} {t3 : Bool} {t4 : Bool} {t5 : Bool} {a : Zh} {b : Zn} {c : Int} : ∀ (s0 : Int) (r : (Unit ⊕ Unit)), lp (ZdJ a b c) s0 = some r → lpW ctx 0 [2, 3, 4, 7] [2, 3, 4, 6] ZuL [(.d (Zb c)), (.ptr 0 0), (.ptr 1 0), (.d (Zb s0))] [(.cells (dV t0 t1 t2 t3 a)), (.cells [(.d (D.list t4 (List.map Zb b.work))), (.d (D.list t5 (List.map Zb b.vals)))])] = some ((ZhS t0 t1 t2 t3 t4 t5 a b c) r) := by
 refine Zai (ZhS t0 t1 t2 t3 t4 t5 a b c) ?_
 intro s0 rcl ih
 show ZE _ _ (lpW _ _ _ _ _ _ _)
 unfold ZdJ
 rw [Zah]
 conv => arg 3; whnf
 refine Zl (ZB _ _) ?_
 conv => arg 3; whnf
 refine Zd rfl ?_ ?_
 ·conv => arg 3; whnf
  refine Zk rfl rfl fun x1 hx1 => ?_
  conv => arg 3; whnf
  refine Zd rfl ?_ ?_
  ·conv => arg 3; whnf
   refine Zk rfl rfl fun x2 hx2 => ?_
   conv => arg 3; whnf
   refine Zd rfl ?_ ?_
   ·conv => arg 3; whnf
    refine Zi _ Zey rfl fun x3 hx3 => ?_
    conv => arg 3; whnf
    refine Zd rfl ?_ ?_
    ·conv => arg 3; whnf
     exact Ze (ih _)
    ·conv => arg 3; whnf
     exact Zc rfl
   ·conv => arg 3; whnf
    exact Ze (ih _)
  ·conv => arg 3; whnf
   exact Ze (ih _)
 ·conv => arg 3; whnf
  exact Zc rfl
theorem ZnI {t0 : Bool} {t1 : Bool} {t2 : Bool} {t3 : Bool} {t4 : Bool} {t5 : Bool} {a : Zh} {b : Zn} {c : Int} : ∀ r, (ZfT a b c) = some r → evD ctx 51 [(.d (D.agg (dA t0 t1 t2 t3 a))), (.d (D.agg [(D.list t4 (List.map Zb b.work)), (D.list t5 (List.map Zb b.vals))])), (.d (Zb c))] = some (Zka r) := by
 show ZE _ (fun r rhs => rhs = some (Zka r)) _
 unfold ZfT
 rw [Zaq ctx 51 ZzA _ rfl rfl]
 conv => arg 3; whnf
 refine Zf _ (ZlA _) fun r4 hr4 => ?_
 clear hr4
 rcases r4 with r4 | r4
 ·conv => arg 3; whnf
  exact Zc rfl
 ·conv => arg 3; whnf
  refine Zi _ Zey rfl fun x5 hx5 => ?_
  conv => arg 3; whnf
  refine Zd rfl ?_ ?_
  ·conv => arg 3; whnf
   exact Zc rfl
  ·conv => arg 3; whnf
   refine Zk rfl rfl fun x6 hx6 => ?_
   conv => arg 3; whnf
   refine Zd rfl ?_ ?_
   ·conv => arg 3; whnf
    exact Zc rfl
   ·conv => arg 3; whnf
    refine Zi _ ZlY rfl fun x7 hx7 => ?_
    conv => arg 3; whnf
    refine Zd rfl ?_ ?_
    ·conv => arg 3; whnf
     exact Zc rfl
    ·conv => arg 3; whnf
     exact Zc rfl
def Zlc (r : (List Int)) : D := (D.list true (List.map Zb r))
def Zia (t0 : Bool) (t1 : Bool) (t2 : Bool) (t3 : Bool) (t4 : Bool) (t5 : Bool) (a : Zh) (b : Zn) : (List Int) → Ex × List V × Zm
  | r => (.exit 0, [(.sl 0 1)], [(.arr 1 (List.map Zb r))])
theorem ZlZ {t0 : Bool} {t1 : Bool} {t2 : Bool} {t3 : Bool} {t4 : Bool} {t5 : Bool} {a : Zh} {b : Zn} : ∀ (s0 : Int × (List Int)) (r : (List Int)), lp (Zeg a b) s0 = some r → lpW ctx 0 [2, 3, 5, 6] [5] ZvC [(.ptr 0 0), (.ptr 1 0), (.sl 2 1), (.d (Zb s0.1))] [(.cells (dV t0 t1 t2 t3 a)), (.cells [(.d (D.list t4 (List.map Zb b.work))), (.d (D.list t5 (List.map Zb b.vals)))]), (.arr 1 (List.map Zb s0.2))] = some ((Zia t0 t1 t2 t3 t4 t5 a b) r) := by
 refine Zai (Zia t0 t1 t2 t3 t4 t5 a b) ?_
 intro s0 rcl ih
 show ZE _ _ (lpW _ _ _ _ _ _ _)
 unfold Zeg
 rw [Zah]
 conv => arg 3; whnf
 refine Zl (ZB _ _) ?_
 conv => arg 3; whnf
 refine Zd rfl ?_ ?_
 ·conv => arg 3; whnf
  refine Zi _ ZnI rfl fun x1 hx1 => ?_
  conv => arg 3; whnf
  refine Zd rfl ?_ ?_
  ·conv => arg 3; whnf
   refine ZbP rfl ?_
   conv => arg 3; whnf
   refine Zd (Zfv Zb s0.2 1) ?_ ?_
   ·conv => arg 3; whnf
    refine Zl (Ze6 Zb s0.2 [s0.1]) ?_
    conv => arg 3; whnf
    exact Ze (ih _)
   ·exact Z0
  ·conv => arg 3; whnf
   exact Ze (ih _)
 ·conv => arg 3; whnf
  exact Zc rfl
theorem Zot {t0 : Bool} {t1 : Bool} {t2 : Bool} {t3 : Bool} {t4 : Bool} {t5 : Bool} {a : Zh} {b : Zn} : ∀ r, (ZeO a b) = some r → evD ctx 29 [(.d (D.agg (dA t0 t1 t2 t3 a))), (.d (D.agg [(D.list t4 (List.map Zb b.work)), (D.list t5 (List.map Zb b.vals))]))] = some (Zlc r) := by
 show ZE _ (fun r rhs => rhs = some (Zlc r)) _
 unfold ZeO
 rw [Zaq ctx 29 ZyQ _ rfl rfl]
 conv => arg 3; whnf
 refine Zf _ (ZlZ _) fun r2 hr2 => ?_
 conv => arg 3; whnf
 exact Zc rfl
def ZhZ (r : (List Int)) : D := (D.list true (List.map Zb r))
def Zgx (t0 : Bool) (t1 : Bool) (t2 : Bool) (t3 : Bool) (a : Zh) (b : Int) (s0 : Int × (List Int)) : (List Int) → Ex × List V × Zm
  | r => (.exit 2, [(.d (Zb b)), (.ptr 0 0), (.sl 1 1), (.d (Zb s0.1))], [(.cells (dV t0 t1 t2 t3 a)), (.arr 1 (List.map Zb r))])
theorem ZjA {t0 : Bool} {t1 : Bool} {t2 : Bool} {t3 : Bool} {a : Zh} {b : Int} {s0 : Int × (List Int)} : ∀ (s1 : Int × (List Int)) (r : (List Int)), lp (Zb3 a b s0) s1 = some r → lpW ctx 0 [1, 2, 5, 6, 7] [1, 2, 5, 6] ZtN [(.d (Zb b)), (.ptr 0 0), (.sl 1 1), (.d (Zb s0.1)), (.d (Zb s1.1))] [(.cells (dV t0 t1 t2 t3 a)), (.arr 1 (List.map Zb s1.2))] = some ((Zgx t0 t1 t2 t3 a b s0) r) := by
 refine Zai (Zgx t0 t1 t2 t3 a b s0) ?_
 intro s1 rcl ih
 show ZE _ _ (lpW _ _ _ _ _ _ _)
 unfold Zb3
 rw [Zah]
 conv => arg 3; whnf
 refine Zl (ZB _ _) ?_
 conv => arg 3; whnf
 refine Zd rfl ?_ ?_
 ·conv => arg 3; whnf
  refine Zk rfl rfl fun x2 hx2 => ?_
  conv => arg 3; whnf
  refine Zd rfl ?_ ?_
  ·conv => arg 3; whnf
   refine Zg (ZaL rfl hx2) ?_
   conv => arg 3; whnf
   refine Zd rfl ?_ ?_
   ·conv => arg 3; whnf
    refine ZbP rfl ?_
    conv => arg 3; whnf
    refine Zd (Zfv Zb s1.2 1) ?_ ?_
    ·conv => arg 3; whnf
     refine Zl (Ze6 Zb s1.2 [s1.1]) ?_
     conv => arg 3; whnf
     exact Ze (ih _)
    ·exact Z0
   ·conv => arg 3; whnf
    exact Ze (ih _)
  ·conv => arg 3; whnf
   exact Ze (ih _)
 ·conv => arg 3; whnf
  exact Zc rfl
def Zgg (t0 : Bool) (t1 : Bool) (t2 : Bool) (t3 : Bool) (a : Zh) (b : Int) : (List Int) → Ex × List V × Zm
  | r => (.exit 0, [(.sl 0 1)], [(.arr 1 (List.map Zb r))])
theorem ZjC {t0 : Bool} {t1 : Bool} {t2 : Bool} {t3 : Bool} {a : Zh} {b : Int} : ∀ (s0 : Int × (List Int)) (r : (List Int)), lp (Zds a b) s0 = some r → lpW ctx 0 [1, 2, 5, 6] [5] ZsZ [(.d (Zb b)), (.ptr 0 0), (.sl 1 1), (.d (Zb s0.1))] [(.cells (dV t0 t1 t2 t3 a)), (.arr 1 (List.map Zb s0.2))] = some ((Zgg t0 t1 t2 t3 a b) r) := by
 refine Zai (Zgg t0 t1 t2 t3 a b) ?_
 intro s0 rcl ih
 show ZE _ _ (lpW _ _ _ _ _ _ _)
 unfold Zds
 rw [Zah]
 conv => arg 3; whnf
 refine Zd rfl ?_ ?_
 ·conv => arg 3; whnf
  refine Zf _ (ZjA _) fun r3 hr3 => ?_
  conv => arg 3; whnf
  exact Ze (ih _)
 ·conv => arg 3; whnf
  exact Zc rfl
theorem ZlK {t0 : Bool} {t1 : Bool} {t2 : Bool} {t3 : Bool} {a : Zh} {b : Int} : ∀ r, (ZeA a b) = some r → evD ctx 106 [(.d (D.agg (dA t0 t1 t2 t3 a))), (.d (Zb b))] = some (ZhZ r) := by
 show ZE _ (fun r rhs => rhs = some (ZhZ r)) _
 unfold ZeA
 rw [Zaq ctx 106 Zvf _ rfl rfl]
 conv => arg 3; whnf
 refine Zf _ (ZjC _) fun r4 hr4 => ?_
 conv => arg 3; whnf
 exact Zc rfl
def Zjv (r : (List Int)) : D := (D.list true (List.map Zb r))
def Zho (t0 : Bool) (t1 : Bool) (t2 : Bool) (t3 : Bool) (a : Zh) (b : Int) : (List Int) → Ex × List V × Zm
  | r => (.exit 0, [(.d (Zb b)), (.ptr 0 0), (.sl 1 1)], [(.cells (dV t0 t1 t2 t3 a)), (.arr 1 (List.map Zb r))])
theorem ZkO {t0 : Bool} {t1 : Bool} {t2 : Bool} {t3 : Bool} {a : Zh} {b : Int} : ∀ (s0 : Int × (List Int)) (r : (List Int)), lp (Ze7 a b) s0 = some r → lpW ctx 0 [1, 2, 5, 6] [1, 2, 5] Zvz [(.d (Zb b)), (.ptr 0 0), (.sl 1 1), (.d (Zb s0.1))] [(.cells (dV t0 t1 t2 t3 a)), (.arr 1 (List.map Zb s0.2))] = some ((Zho t0 t1 t2 t3 a b) r) := by
 refine Zai (Zho t0 t1 t2 t3 a b) ?_
 intro s0 rcl ih
 show ZE _ _ (lpW _ _ _ _ _ _ _)
 unfold Ze7
 rw [Zah]
 conv => arg 3; whnf
 refine Zl (ZB _ _) ?_
 conv => arg 3; whnf
 refine Zd rfl ?_ ?_
 ·conv => arg 3; whnf
  refine Zk rfl rfl fun x1 hx1 => ?_
  conv => arg 3; whnf
  refine Zd rfl ?_ ?_
  ·conv => arg 3; whnf
   refine Zg (ZaL rfl hx1) ?_
   conv => arg 3; whnf
   refine ZbP rfl ?_
   conv => arg 3; whnf
   refine Zd (Zfv Zb s0.2 1) ?_ ?_
   ·conv => arg 3; whnf
    refine Zl (Ze6 Zb s0.2 [x1.src]) ?_
    conv => arg 3; whnf
    exact Ze (ih _)
   ·exact Z0
  ·conv => arg 3; whnf
   exact Ze (ih _)
 ·conv => arg 3; whnf
  exact Zc rfl
def Zhb (t0 : Bool) (t1 : Bool) (t2 : Bool) (t3 : Bool) (a : Zh) (x3 : (List Int)) : (List Int) → Ex × List V × Zm
  | r => (.exit 2, [(.sl 0 1)], [(.arr 1 (List.map Zb r))])
theorem ZkR {t0 : Bool} {t1 : Bool} {t2 : Bool} {t3 : Bool} {a : Zh} {x3 : (List Int)} : ∀ (s4 : Int × (List Int)) (r : (List Int)), lp (Ze4 a x3) s4 = some r → lpW ctx 0 [2, 5, 7, 8] [5] Zvh [(.ptr 0 0), (.sl 1 1), (.d (D.list true (List.map Zb x3))), (.d (Zb s4.1))] [(.cells (dV t0 t1 t2 t3 a)), (.arr 1 (List.map Zb s4.2))] = some ((Zhb t0 t1 t2 t3 a x3) r) := by
 refine Zai (Zhb t0 t1 t2 t3 a x3) ?_
 intro s4 rcl ih
 show ZE _ _ (lpW _ _ _ _ _ _ _)
 unfold Ze4
 rw [Zah]
 conv => arg 3; whnf
 refine Zl (ZB _ _) ?_
 conv => arg 3; whnf
 refine Zd rfl ?_ ?_
 ·conv => arg 3; whnf
  refine Zk rfl rfl fun x5 hx5 => ?_
  conv => arg 3; whnf
  refine Zk rfl rfl fun x6 hx6 => ?_
  conv => arg 3; whnf
  refine ZbP rfl ?_
  conv => arg 3; whnf
  refine Zd (Zfv Zb s4.2 1) ?_ ?_
  ·conv => arg 3; whnf
   refine Zl (Ze6 Zb s4.2 [x6.maker]) ?_
   conv => arg 3; whnf
   exact Ze (ih _)
  ·exact Z0
 ·conv => arg 3; whnf
  exact Zc rfl
theorem ZmI {t0 : Bool} {t1 : Bool} {t2 : Bool} {t3 : Bool} {a : Zh} {b : Int} : ∀ r, (ZeC a b) = some r → evD ctx 79 [(.d (D.agg (dA t0 t1 t2 t3 a))), (.d (Zb b))] = some (Zjv r) := by
 show ZE _ (fun r rhs => rhs = some (Zjv r)) _
 unfold ZeC
 rw [Zaq ctx 79 Zy8 _ rfl rfl]
 conv => arg 3; whnf
 refine Zf _ (ZkO _) fun r2 hr2 => ?_
 conv => arg 3; whnf
 refine Zi _ ZlK rfl fun x3 hx3 => ?_
 conv => arg 3; whnf
 refine Zf _ (ZkR _) fun r7 hr7 => ?_
 conv => arg 3; whnf
 exact Zc rfl
def Zjp (r : Int) : D := (Zb r)
theorem Zae {a : Int} : ∀ r, (Zab a) = some r → evD ctx 107 [(.d (Zb a))] = some (Zjp r) := by
 show ZE _ (fun r rhs => rhs = some (Zjp r)) _
 unfold Zab
 rw [Zaq ctx 107 ZwL _ rfl rfl]
 conv => arg 3; whnf
 refine Zaa rfl ?_
 conv => arg 3; whnf
 refine Zd rfl ?_ ?_
 ·conv => arg 3; whnf
  exact Zc rfl
 ·conv => arg 3; whnf
  exact Zc rfl
def Zjr (r : Int) : D := (Zb r)
theorem ZeZ {a : Int} {b : Int} : ∀ r, (Zde a b) = some r → evD ctx 108 [(.d (Zb a)), (.d (Zb b))] = some (Zjr r) := by
 show ZE _ (fun r rhs => rhs = some (Zjr r)) _
 unfold Zde
 rw [Zaq ctx 108 Zvk _ rfl rfl]
 conv => arg 3; whnf
 refine Zaa rfl ?_
 conv => arg 3; whnf
 refine Zaa rfl ?_
 conv => arg 3; whnf
 refine Zi _ Zae rfl fun x0 hx0 => ?_
 conv => arg 3; whnf
 refine Zaa rfl ?_
 conv => arg 3; whnf
 refine Zi _ Zae rfl fun x1 hx1 => ?_
 conv => arg 3; whnf
 exact Zc rfl
def Zl9 (r : Int) : D := (Zb r)
def Zji (t1 : Bool) (a : ZG) (c : (List Int)) : Int → Ex × List V × Zm
  | r => (.exit 1, [(.d (Zb r))], [])
theorem ZmM {t1 : Bool} {a : ZG} {c : (List Int)} : ∀ (s3 : Int × Int) (r : Int), lp (Zh4 a c) s3 = some r → lpW ctx 0 [2, 3, 7, 8] [7] Zol [(.d (D.list t1 (List.map Zb c))), (.ptr 0 0), (.d (Zb s3.1)), (.d (Zb s3.2))] [(.cells [(.d (Zb a.op)), (.d (Zb a.arg)), (.d (Zb a.work))])] = some ((Zji t1 a c) r) := by
 refine Zai (Zji t1 a c) ?_
 intro s3 rcl ih
 show ZE _ _ (lpW _ _ _ _ _ _ _)
 unfold Zh4
 rw [Zah]
 conv => arg 3; whnf
 refine Zl (ZB _ _) ?_
 conv => arg 3; whnf
 refine Zd rfl ?_ ?_
 ·conv => arg 3; whnf
  refine Zk rfl rfl fun x4 hx4 => ?_
  conv => arg 3; whnf
  refine Zi _ Zae rfl fun x5 hx5 => ?_
  conv => arg 3; whnf
  refine Zd rfl ?_ ?_
  ·conv => arg 3; whnf
   refine Zi _ Zae rfl fun x6 hx6 => ?_
   conv => arg 3; whnf
   exact Ze (ih _)
  ·conv => arg 3; whnf
   refine Zd rfl ?_ ?_
   ·conv => arg 3; whnf
    refine Zi _ ZeZ rfl fun x7 hx7 => ?_
    conv => arg 3; whnf
    exact Ze (ih _)
   ·conv => arg 3; whnf
    refine Zd rfl ?_ ?_
    ·conv => arg 3; whnf
     exact Ze (ih _)
    ·conv => arg 3; whnf
     refine Zd rfl ?_ ?_
     ·conv => arg 3; whnf
      refine Zi _ Zae rfl fun x8 hx8 => ?_
      conv => arg 3; whnf
      exact Ze (ih _)
     ·conv => arg 3; whnf
      exact Ze (ih _)
 ·conv => arg 3; whnf
  exact Zc rfl
def ZhR (t1 : Bool) (a : ZG) (c : (List Int)) : Int → Ex × List V × Zm
  | r => (.exit 1, [(.d (Zb r))], [])
theorem ZlE {t1 : Bool} {a : ZG} {c : (List Int)} : ∀ (s10 : Int × Int) (r : Int), lp (ZcZ a c) s10 = some r → lpW ctx 0 [2, 3, 7, 8] [7] Zol [(.d (D.list t1 (List.map Zb c))), (.ptr 0 0), (.d (Zb s10.1)), (.d (Zb s10.2))] [(.cells [(.d (Zb a.op)), (.d (Zb a.arg)), (.d (Zb a.work))])] = some ((ZhR t1 a c) r) := by
 refine Zai (ZhR t1 a c) ?_
 intro s10 rcl ih
 show ZE _ _ (lpW _ _ _ _ _ _ _)
 unfold ZcZ
 rw [Zah]
 conv => arg 3; whnf
 refine Zl (ZB _ _) ?_
 conv => arg 3; whnf
 refine Zd rfl ?_ ?_
 ·conv => arg 3; whnf
  refine Zk rfl rfl fun x11 hx11 => ?_
  conv => arg 3; whnf
  refine Zi _ Zae rfl fun x12 hx12 => ?_
  conv => arg 3; whnf
  refine Zd rfl ?_ ?_
  ·conv => arg 3; whnf
   refine Zi _ Zae rfl fun x13 hx13 => ?_
   conv => arg 3; whnf
   exact Ze (ih _)
  ·conv => arg 3; whnf
   refine Zd rfl ?_ ?_
   ·conv => arg 3; whnf
    refine Zi _ ZeZ rfl fun x14 hx14 => ?_
    conv => arg 3; whnf
    exact Ze (ih _)
   ·conv => arg 3; whnf
    refine Zd rfl ?_ ?_
    ·conv => arg 3; whnf
     exact Ze (ih _)
    ·conv => arg 3; whnf
     refine Zd rfl ?_ ?_
     ·conv => arg 3; whnf
      refine Zi _ Zae rfl fun x15 hx15 => ?_
      conv => arg 3; whnf
      exact Ze (ih _)
     ·conv => arg 3; whnf
      exact Ze (ih _)
 ·conv => arg 3; whnf
  exact Zc rfl
def ZhN (t1 : Bool) (a : ZG) (c : (List Int)) : Int → Ex × List V × Zm
  | r => (.exit 1, [(.d (Zb r))], [])
theorem Zlv {t1 : Bool} {a : ZG} {c : (List Int)} : ∀ (s17 : Int × Int) (r : Int), lp (Zc0 a c) s17 = some r → lpW ctx 0 [2, 3, 7, 8] [7] Zol [(.d (D.list t1 (List.map Zb c))), (.ptr 0 0), (.d (Zb s17.1)), (.d (Zb s17.2))] [(.cells [(.d (Zb a.op)), (.d (Zb a.arg)), (.d (Zb a.work))])] = some ((ZhN t1 a c) r) := by
 refine Zai (ZhN t1 a c) ?_
 intro s17 rcl ih
 show ZE _ _ (lpW _ _ _ _ _ _ _)
 unfold Zc0
 rw [Zah]
 conv => arg 3; whnf
 refine Zl (ZB _ _) ?_
 conv => arg 3; whnf
 refine Zd rfl ?_ ?_
 ·conv => arg 3; whnf
  refine Zk rfl rfl fun x18 hx18 => ?_
  conv => arg 3; whnf
  refine Zi _ Zae rfl fun x19 hx19 => ?_
  conv => arg 3; whnf
  refine Zd rfl ?_ ?_
  ·conv => arg 3; whnf
   refine Zi _ Zae rfl fun x20 hx20 => ?_
   conv => arg 3; whnf
   exact Ze (ih _)
  ·conv => arg 3; whnf
   refine Zd rfl ?_ ?_
   ·conv => arg 3; whnf
    refine Zi _ ZeZ rfl fun x21 hx21 => ?_
    conv => arg 3; whnf
    exact Ze (ih _)
   ·conv => arg 3; whnf
    refine Zd rfl ?_ ?_
    ·conv => arg 3; whnf
     exact Ze (ih _)
    ·conv => arg 3; whnf
     refine Zd rfl ?_ ?_
     ·conv => arg 3; whnf
      refine Zi _ Zae rfl fun x22 hx22 => ?_
      conv => arg 3; whnf
      exact Ze (ih _)
     ·conv => arg 3; whnf
      exact Ze (ih _)
 ·conv => arg 3; whnf
  exact Zc rfl
def Zhx (t1 : Bool) (a : ZG) (c : (List Int)) : Int → Ex × List V × Zm
  | r => (.exit 1, [(.d (Zb r))], [])
theorem ZlF {t1 : Bool} {a : ZG} {c : (List Int)} : ∀ (s24 : Int × Int) (r : Int), lp (Zbc a c) s24 = some r → lpW ctx 0 [2, 3, 7, 8] [7] Zol [(.d (D.list t1 (List.map Zb c))), (.ptr 0 0), (.d (Zb s24.1)), (.d (Zb s24.2))] [(.cells [(.d (Zb a.op)), (.d (Zb a.arg)), (.d (Zb a.work))])] = some ((Zhx t1 a c) r) := by
 refine Zai (Zhx t1 a c) ?_
 intro s24 rcl ih
 show ZE _ _ (lpW _ _ _ _ _ _ _)
 unfold Zbc
 rw [Zah]
 conv => arg 3; whnf
 refine Zl (ZB _ _) ?_
 conv => arg 3; whnf
 refine Zd rfl ?_ ?_
 ·conv => arg 3; whnf
  refine Zk rfl rfl fun x25 hx25 => ?_
  conv => arg 3; whnf
  refine Zi _ Zae rfl fun x26 hx26 => ?_
  conv => arg 3; whnf
  refine Zd rfl ?_ ?_
  ·conv => arg 3; whnf
   refine Zi _ Zae rfl fun x27 hx27 => ?_
   conv => arg 3; whnf
   exact Ze (ih _)
  ·conv => arg 3; whnf
   refine Zd rfl ?_ ?_
   ·conv => arg 3; whnf
    refine Zi _ ZeZ rfl fun x28 hx28 => ?_
    conv => arg 3; whnf
    exact Ze (ih _)
   ·conv => arg 3; whnf
    refine Zd rfl ?_ ?_
    ·conv => arg 3; whnf
     exact Ze (ih _)
    ·conv => arg 3; whnf
     refine Zd rfl ?_ ?_
     ·conv => arg 3; whnf
      refine Zi _ Zae rfl fun x29 hx29 => ?_
      conv => arg 3; whnf
      exact Ze (ih _)
     ·conv => arg 3; whnf
      exact Ze (ih _)
 ·conv => arg 3; whnf
  exact Zc rfl
theorem Zps {t0 : Bool} {t1 : Bool} {a : ZG} {b : (List Int)} {c : (List Int)} : ∀ r, (Zhg a b c) = some r → evD ctx 80 [(.d (D.agg [(Zb a.op), (Zb a.arg), (Zb a.work)])), (.d (D.list t0 (List.map Zb b))), (.d (D.list t1 (List.map Zb c)))] = some (Zl9 r) := by
 show ZE _ (fun r rhs => rhs = some (Zl9 r)) _
 unfold Zhg
 rw [Zaq ctx 80 Zzs _ rfl rfl]
 conv => arg 3; whnf
 refine Zd rfl ?_ ?_
 ·conv => arg 3; whnf
  refine Zd rfl ?_ ?_
  ·conv => arg 3; whnf
   exact Zc rfl
  ·conv => arg 3; whnf
   refine Zl (ZB _ _) ?_
   conv => arg 3; whnf
   refine Zd rfl ?_ ?_
   ·conv => arg 3; whnf
    exact Zc rfl
   ·conv => arg 3; whnf
    refine Zk rfl rfl fun x0 hx0 => ?_
    conv => arg 3; whnf
    refine Zi _ Zae rfl fun x1 hx1 => ?_
    conv => arg 3; whnf
    exact Zc rfl
 ·conv => arg 3; whnf
  refine Zd rfl ?_ ?_
  ·conv => arg 3; whnf
   refine Zi _ Zae rfl fun x2 hx2 => ?_
   conv => arg 3; whnf
   exact Zc rfl
  ·conv => arg 3; whnf
   refine Zd rfl ?_ ?_
   ·conv => arg 3; whnf
    exact Zc rfl
   ·conv => arg 3; whnf
    refine Zd rfl ?_ ?_
    ·conv => arg 3; whnf
     exact Zc rfl
    ·conv => arg 3; whnf
     refine Zd rfl ?_ ?_
     ·conv => arg 3; whnf
      refine Zd rfl ?_ ?_
      ·conv => arg 3; whnf
       refine Zf _ (ZmM _) fun r9 hr9 => ?_
       conv => arg 3; whnf
       exact Zc rfl
      ·conv => arg 3; whnf
       refine Zf _ (ZlE _) fun r16 hr16 => ?_
       conv => arg 3; whnf
       exact Zc rfl
     ·conv => arg 3; whnf
      refine Zd rfl ?_ ?_
      ·conv => arg 3; whnf
       refine Zf _ (Zlv _) fun r23 hr23 => ?_
       conv => arg 3; whnf
       exact Zc rfl
      ·conv => arg 3; whnf
       refine Zf _ (ZlF _) fun r30 hr30 => ?_
       conv => arg 3; whnf
       exact Zc rfl
def Zko (r : Zn) : D := (D.agg [(D.list true (List.map Zb r.work)), (D.list true (List.map Zb r.vals))])
def ZhF (t0 : Bool) (t1 : Bool) (t2 : Bool) (t3 : Bool) (t4 : Bool) (a : Zh) (b : (List Int)) (c : Zn) (d : Int) (x0 : Int) (x2 : (List Int)) : (List Int) → Ex × List V × Zm
  | r => (.exit 0, [(.d (D.list t4 (List.map Zb b))), (.d (Zb d)), (.ptr 0 0), (.ptr 1 0), (.ptr 2 0), (.sl 3 1)], [(.cells (dV t0 t1 t2 t3 a)), (.cells [(.sl 4 1), (.sl 5 1)]), (.cells [(.sl 6 1), (.sl 7 1)]), (.arr 1 (List.map Zb r)), (.arr 1 []), (.arr 1 []), (.arr 1 (List.map Zb (List.set c.work d.toNat (w64 (x0 + 1))))), (.arr 1 (List.map Zb c.vals))])
theorem ZlH {t0 : Bool} {t1 : Bool} {t2 : Bool} {t3 : Bool} {t4 : Bool} {a : Zh} {b : (List Int)} {c : Zn} {d : Int} {x0 : Int} {x2 : (List Int)} : ∀ (s3 : Int × (List Int)) (r : (List Int)), lp (Zft c x2) s3 = some r → lpW ctx 0 [1, 3, 4, 8, 9, 10, 11, 12] [1, 3, 4, 8, 9, 10] ZuK [(.d (D.list t4 (List.map Zb b))), (.d (Zb d)), (.ptr 0 0), (.ptr 1 0), (.ptr 2 0), (.sl 3 1), (.d (D.list true (List.map Zb x2))), (.d (Zb s3.1))] [(.cells (dV t0 t1 t2 t3 a)), (.cells [(.sl 4 1), (.sl 5 1)]), (.cells [(.sl 6 1), (.sl 7 1)]), (.arr 1 (List.map Zb s3.2)), (.arr 1 []), (.arr 1 []), (.arr 1 (List.map Zb (List.set c.work d.toNat (w64 (x0 + 1))))), (.arr 1 (List.map Zb c.vals))] = some ((ZhF t0 t1 t2 t3 t4 a b c d x0 x2) r) := by
 refine Zai (ZhF t0 t1 t2 t3 t4 a b c d x0 x2) ?_
 intro s3 rcl ih
 show ZE _ _ (lpW _ _ _ _ _ _ _)
 unfold Zft
 rw [Zah]
 conv => arg 3; whnf
 refine Zl (ZB _ _) ?_
 conv => arg 3; whnf
 refine Zd rfl ?_ ?_
 ·conv => arg 3; whnf
  refine Zk rfl rfl fun x4 hx4 => ?_
  conv => arg 3; whnf
  refine Zk rfl rfl fun x5 hx5 => ?_
  conv => arg 3; whnf
  refine Zg (Zv rfl hx5) ?_
  conv => arg 3; whnf
  refine ZbP rfl ?_
  conv => arg 3; whnf
  refine Zd (Zfv Zb s3.2 1) ?_ ?_
  ·conv => arg 3; whnf
   refine Zl (Ze6 Zb s3.2 [x5]) ?_
   conv => arg 3; whnf
   exact Ze (ih _)
  ·exact Z0
 ·conv => arg 3; whnf
  exact Zc rfl
theorem ZnM {t0 : Bool} {t1 : Bool} {t2 : Bool} {t3 : Bool} {t4 : Bool} {t5 : Bool} {t6 : Bool} {a : Zh} {b : (List Int)} {c : Zn} {d : Int} : ∀ r, (Ze8 a b c d) = some r → evD ctx 52 [(.d (D.agg (dA t0 t1 t2 t3 a))), (.d (D.list t4 (List.map Zb b))), (.d (D.agg [(D.list t5 (List.map Zb c.work)), (D.list t6 (List.map Zb c.vals))])), (.d (Zb d))] = some (Zko r) := by
 show ZE _ (fun r rhs => rhs = some (Zko r)) _
 unfold Ze8
 rw [Zaq ctx 52 Zy9 _ rfl rfl]
 conv => arg 3; whnf
 refine ZbP (Zfp (f := Zb) (fun _ => ⟨rfl, rfl⟩) c.work 0) ?_
 conv => arg 3; whnf
 refine Zd (ZfQ Zb c.work) ?_ ?_
 ·conv => arg 3; whnf
  refine Zl (rfl : _ = List.map Zb c.work) ?_
  conv => arg 3; whnf
  refine ZbP (Zfp (f := Zb) (fun _ => ⟨rfl, rfl⟩) c.vals 0) ?_
  conv => arg 3; whnf
  refine Zd (ZfQ Zb c.vals) ?_ ?_
  ·conv => arg 3; whnf
   refine Zl (rfl : _ = List.map Zb c.vals) ?_
   conv => arg 3; whnf
   refine Zk rfl rfl fun x0 hx0 => ?_
   conv => arg 3; whnf
   refine Zg (Zv rfl hx0) ?_
   conv => arg 3; whnf
   refine Zg (ZaL rfl hx0) ?_
   conv => arg 3; whnf
   refine Zg (Zv rfl hx0) ?_
   conv => arg 3; whnf
   refine Zl (Zan Zb c.work d.toNat (w64 (x0 + 1))) ?_
   conv => arg 3; whnf
   refine Zi _ Zey rfl fun x1 hx1 => ?_
   conv => arg 3; whnf
   refine Zd rfl ?_ ?_
   ·conv => arg 3; whnf
    refine Zi _ ZmI rfl fun x2 hx2 => ?_
    conv => arg 3; whnf
    refine Zf _ (ZlH _) fun r6 hr6 => ?_
    conv => arg 3; whnf
    refine Zk rfl rfl fun x7 hx7 => ?_
    conv => arg 3; whnf
    refine Zi _ Zps rfl fun x8 hx8 => ?_
    conv => arg 3; whnf
    refine Zk rfl rfl fun x9 hx9 => ?_
    conv => arg 3; whnf
    refine Zg (Zv rfl hx9) ?_
    conv => arg 3; whnf
    refine Zl (Zan Zb c.vals d.toNat x8) ?_
    conv => arg 3; whnf
    exact Zc rfl
   ·conv => arg 3; whnf
    exact Zc rfl
  ·exact Z0
 ·exact Z0
def Zk0 (r : ((List Int) × Int)) : D := (D.tup [(D.list true (List.map Zb r.1)), (Zb r.2)])
def ZiD (t0 : Bool) (t1 : Bool) (t2 : Bool) (t3 : Bool) (t4 : Bool) (a : Zh) (b : (List Int)) : ((List Int) × (List Int)) → Ex × List V × Zm
  | r => (.exit 0, [(.ptr 0 0), (.ptr 1 0)], [(.cells (dV t0 t1 t2 t3 a)), (.cells [(.d (D.list true (List.map Zb r.1))), (.d (D.list true (List.map Zb r.2)))])])
theorem Zl3 {t0 : Bool} {t1 : Bool} {t2 : Bool} {t3 : Bool} {t4 : Bool} {a : Zh} {b : (List Int)} : ∀ (s2 : (List Int) × (List Int)) (r : ((List Int) × (List Int))), lp (Zdx a b) s2 = some r → lpW ctx 0 [1, 2, 7] [2, 7] Zwl [(.d (D.list t4 (List.map Zb b))), (.ptr 0 0), (.ptr 1 0)] [(.cells (dV t0 t1 t2 t3 a)), (.cells [(.d (D.list true (List.map Zb s2.1))), (.d (D.list true (List.map Zb s2.2)))])] = some ((ZiD t0 t1 t2 t3 t4 a b) r) := by
 refine Zai (ZiD t0 t1 t2 t3 t4 a b) ?_
 intro s2 rcl ih
 show ZE _ _ (lpW _ _ _ _ _ _ _)
 unfold Zdx
 rw [Zah]
 conv => arg 3; whnf
 refine Zi _ Zot rfl fun x3 hx3 => ?_
 conv => arg 3; whnf
 refine Zl (ZB _ _) ?_
 conv => arg 3; whnf
 refine Zd rfl ?_ ?_
 ·conv => arg 3; whnf
  exact Zc rfl
 ·conv => arg 3; whnf
  refine Zl (ZB _ _) ?_
  conv => arg 3; whnf
  refine Zk rfl rfl fun x4 hx4 => ?_
  conv => arg 3; whnf
  refine Zi _ ZnM rfl fun x5 hx5 => ?_
  conv => arg 3; whnf
  exact Ze (ih _)
def ZiC (t0 : Bool) (t1 : Bool) (t2 : Bool) (t3 : Bool) (a : Zh) (r6 : ((List Int) × (List Int))) : (Unit ⊕ Unit) → Ex × List V × Zm
  | (.inl r) => (.ret, [(.nilsl 1), (.d (Zb 94)), (.ptr 0 0)], [(.cells [(.d (D.list true (List.map Zb r6.1))), (.d (D.list true (List.map Zb r6.2)))])])
  | (.inr r) => (.exit 2, [.bad, .bad, (.ptr 0 0)], [(.cells [(.d (D.list true (List.map Zb r6.1))), (.d (D.list true (List.map Zb r6.2)))])])
theorem ZmF {t0 : Bool} {t1 : Bool} {t2 : Bool} {t3 : Bool} {a : Zh} {r6 : ((List Int) × (List Int))} : ∀ (s7 : Int) (r : (Unit ⊕ Unit)), lp (Zdv a r6) s7 = some r → lpW ctx 0 [2, 7, 9] [4, 5, 7] ZwE [(.ptr 0 0), (.ptr 1 0), (.d (Zb s7))] [(.cells (dV t0 t1 t2 t3 a)), (.cells [(.d (D.list true (List.map Zb r6.1))), (.d (D.list true (List.map Zb r6.2)))])] = some ((ZiC t0 t1 t2 t3 a r6) r) := by
 refine Zai (ZiC t0 t1 t2 t3 a r6) ?_
 intro s7 rcl ih
 show ZE _ _ (lpW _ _ _ _ _ _ _)
 unfold Zdv
 rw [Zah]
 conv => arg 3; whnf
 refine Zl (ZB _ _) ?_
 conv => arg 3; whnf
 refine Zd rfl ?_ ?_
 ·conv => arg 3; whnf
  refine Zi _ Zey rfl fun x8 hx8 => ?_
  conv => arg 3; whnf
  refine Zd rfl ?_ ?_
  ·conv => arg 3; whnf
   exact Ze (ih _)
  ·conv => arg 3; whnf
   exact Zc rfl
 ·conv => arg 3; whnf
  exact Zc rfl
theorem Zpm {t0 : Bool} {t1 : Bool} {t2 : Bool} {t3 : Bool} {t4 : Bool} {a : Zh} {b : (List Int)} : ∀ r, (ZeU a b) = some r → evD ctx 34 [(.d (D.agg (dA t0 t1 t2 t3 a))), (.d (D.list t4 (List.map Zb b)))] = some (Zk0 r) := by
 show ZE _ (fun r rhs => rhs = some (Zk0 r)) _
 unfold ZeU
 rw [Zaq ctx 34 ZzD _ rfl rfl]
 conv => arg 3; whnf
 refine Zi _ Ziw rfl fun x0 hx0 => ?_
 conv => arg 3; whnf
 refine Zd rfl ?_ ?_
 ·conv => arg 3; whnf
  exact Zc rfl
 ·conv => arg 3; whnf
  refine Zi _ Zj6 rfl fun x1 hx1 => ?_
  conv => arg 3; whnf
  refine Zf _ (Zl3 _) fun r6 hr6 => ?_
  conv => arg 3; whnf
  refine Zf _ (ZmF _) fun r9 hr9 => ?_
  clear hr9
  rcases r9 with r9 | r9
  ·conv => arg 3; whnf
   exact Zc rfl
  ·conv => arg 3; whnf
   exact Zc rfl
def Zkg (r : Bool) : D := (D.bool r)
def Zh0 (t0 : Bool) (t1 : Bool) (a : (List Int)) (b : (List Int)) : (Unit ⊕ Unit) → Ex × List V × Zm
  | (.inl r) => (.ret, [(.d (D.bool false))], [])
  | (.inr r) => (.exit 0, [.bad], [])
theorem ZlP {t0 : Bool} {t1 : Bool} {a : (List Int)} {b : (List Int)} : ∀ (s0 : Int) (r : (Unit ⊕ Unit)), lp (ZdK a b) s0 = some r → lpW ctx 0 [0, 1, 5] [4] ZwF [(.d (D.list t0 (List.map Zb a))), (.d (D.list t1 (List.map Zb b))), (.d (Zb s0))] [] = some ((Zh0 t0 t1 a b) r) := by
 refine Zai (Zh0 t0 t1 a b) ?_
 intro s0 rcl ih
 show ZE _ _ (lpW _ _ _ _ _ _ _)
 unfold ZdK
 rw [Zah]
 conv => arg 3; whnf
 refine Zl (ZB _ _) ?_
 conv => arg 3; whnf
 refine Zd rfl ?_ ?_
 ·conv => arg 3; whnf
  refine Zk rfl rfl fun x1 hx1 => ?_
  conv => arg 3; whnf
  refine Zk rfl rfl fun x2 hx2 => ?_
  conv => arg 3; whnf
  refine Zd rfl ?_ ?_
  ·conv => arg 3; whnf
   exact Zc rfl
  ·conv => arg 3; whnf
   exact Ze (ih _)
 ·conv => arg 3; whnf
  exact Zc rfl
theorem ZgL {t0 : Bool} {t1 : Bool} {a : (List Int)} {b : (List Int)} : ∀ r, (Zep a b) = some r → evD ctx 20 [(.d (D.list t0 (List.map Zb a))), (.d (D.list t1 (List.map Zb b)))] = some (Zkg r) := by
 show ZE _ (fun r rhs => rhs = some (Zkg r)) _
 unfold Zep
 rw [Zaq ctx 20 ZyA _ rfl rfl]
 conv => arg 3; whnf
 refine Zl (ZB _ _) ?_
 conv => arg 3; whnf
 refine Zl (ZB _ _) ?_
 conv => arg 3; whnf
 refine Zd rfl ?_ ?_
 ·conv => arg 3; whnf
  exact Zc rfl
 ·conv => arg 3; whnf
  refine Zf _ (ZlP _) fun r3 hr3 => ?_
  clear hr3
  rcases r3 with r3 | r3
  ·conv => arg 3; whnf
   exact Zc rfl
  ·conv => arg 3; whnf
   exact Zc rfl
def ZjZ (r : Bool) : D := (D.bool r)
theorem Zjo {t0 : Bool} {t1 : Bool} {t2 : Bool} {t3 : Bool} {a : Zn} {b : Zn} : ∀ r, (Ze9 a b) = some r → evD ctx 30 [(.d (D.agg [(D.list t0 (List.map Zb a.work)), (D.list t1 (List.map Zb a.vals))])), (.d (D.agg [(D.list t2 (List.map Zb b.work)), (D.list t3 (List.map Zb b.vals))]))] = some (ZjZ r) := by
 show ZE _ (fun r rhs => rhs = some (ZjZ r)) _
 unfold Ze9
 rw [Zaq ctx 30 Zzt _ rfl rfl]
 conv => arg 3; whnf
 refine Zi _ ZgL rfl fun x0 hx0 => ?_
 conv => arg 3; whnf
 refine Zd rfl ?_ ?_
 ·conv => arg 3; whnf
  refine Zi _ ZgL rfl fun x1 hx1 => ?_
  conv => arg 3; whnf
  refine Zd rfl ?_ ?_
  ·conv => arg 3; whnf
   exact Zc rfl
  ·conv => arg 3; whnf
   exact Zc rfl
 ·conv => arg 3; whnf
  exact Zc rfl
def Zgz (r : Bool) : D := (D.bool r)
theorem Zjz {t0 : Bool} {t1 : Bool} {t2 : Bool} {t3 : Bool} {t4 : Bool} {a : Zh} {b : (List Int)} : ∀ r, (Zel a b) = some r → evD ctx 7 [(.d (D.agg (dA t0 t1 t2 t3 a))), (.d (D.list t4 (List.map Zb b)))] = some (Zgz r) := by
 show ZE _ (fun r rhs => rhs = some (Zgz r)) _
 unfold Zel
 rw [Zaq ctx 7 fn7 _ rfl rfl]
 conv => arg 3; whnf
 refine Zi _ Zf8 rfl fun x0 hx0 => ?_
 conv => arg 3; whnf
 refine Zd rfl ?_ ?_
 ·conv => arg 3; whnf
  refine Zi _ Zpe rfl fun x1 hx1 => ?_
  conv => arg 3; whnf
  refine Zd rfl ?_ ?_
  ·conv => arg 3; whnf
   refine Zf _ Zj9 fun x2 hx2 => ?_
   conv => arg 3; whnf
   refine ZbP (Zfp (f := Zb) (fun _ => ⟨rfl, rfl⟩) b 0) ?_
   conv => arg 3; whnf
   refine Zd (ZfQ Zb b) ?_ ?_
   ·conv => arg 3; whnf
    refine Zl (rfl : _ = List.map Zb b) ?_
    conv => arg 3; whnf
    refine Zi _ ZnH rfl fun x3 hx3 => ?_
    conv => arg 3; whnf
    refine Zi _ Zpm rfl fun x4 hx4 => ?_
    conv => arg 3; whnf
    refine Zf _ Zj9 fun x5 hx5 => ?_
    conv => arg 3; whnf
    refine Zi _ Zjs rfl fun x6 hx6 => ?_
    conv => arg 3; whnf
    refine Zi _ Ziw rfl fun x7 hx7 => ?_
    conv => arg 3; whnf
    refine Zd rfl ?_ ?_
    ·conv => arg 3; whnf
     refine Zl (ZB _ _) ?_
     conv => arg 3; whnf
     refine Zd rfl ?_ ?_
     ·conv => arg 3; whnf
      refine Zd rfl ?_ ?_
      ·conv => arg 3; whnf
       refine Zd rfl ?_ ?_
       ·conv => arg 3; whnf
        refine Zi _ Zjo rfl fun x8 hx8 => ?_
        conv => arg 3; whnf
        refine Zd rfl ?_ ?_
        ·conv => arg 3; whnf
         exact Zc rfl
        ·conv => arg 3; whnf
         exact Zc rfl
       ·conv => arg 3; whnf
        exact Zc rfl
      ·conv => arg 3; whnf
       exact Zc rfl
     ·conv => arg 3; whnf
      exact Zc rfl
    ·conv => arg 3; whnf
     refine Zi _ ZgL rfl fun x9 hx9 => ?_
     conv => arg 3; whnf
     refine Zd rfl ?_ ?_
     ·conv => arg 3; whnf
      refine Zd rfl ?_ ?_
      ·conv => arg 3; whnf
       refine Zd rfl ?_ ?_
       ·conv => arg 3; whnf
        refine Zi _ Zj6 rfl fun x10 hx10 => ?_
        conv => arg 3; whnf
        refine Zi _ Zjo rfl fun x11 hx11 => ?_
        conv => arg 3; whnf
        refine Zd rfl ?_ ?_
        ·conv => arg 3; whnf
         exact Zc rfl
        ·conv => arg 3; whnf
         exact Zc rfl
       ·conv => arg 3; whnf
        exact Zc rfl
      ·conv => arg 3; whnf
       exact Zc rfl
     ·conv => arg 3; whnf
      exact Zc rfl
   ·exact Z0
  ·conv => arg 3; whnf
   refine Zi _ Zf8 rfl fun x12 hx12 => ?_
   conv => arg 3; whnf
   refine Zd rfl ?_ ?_
   ·conv => arg 3; whnf
    exact Zc rfl
   ·conv => arg 3; whnf
    exact Zc rfl
 ·conv => arg 3; whnf
  refine Zi _ Zf8 rfl fun x13 hx13 => ?_
  conv => arg 3; whnf
  refine Zd rfl ?_ ?_
  ·conv => arg 3; whnf
   exact Zc rfl
  ·conv => arg 3; whnf
   exact Zc rfl
end Go.Proofs.YtnmbdjkbaihicaaDoor
namespace Go.Proofs.YtnmbdjkbaihicaaDoor
open Go Go.Proofs.YtnmbdjkbaihicaaDoorE
abbrev Zru : List Lf × Bool := ([.int .i64, .int .i64, .sl true [.int .i64, .int .i64, .int .i64], .sl true [.int .i64, .int .i64], .sl true [.int .i64, .int .i64, .int .i64], .sl true [.sl false [.int .i64], .sl false [.int .i64]]], true)
abbrev Zra : List Lf × Bool := ([.sl false [.int .i64]], false)
end Go.Proofs.YtnmbdjkbaihicaaDoor
namespace Go.Proofs.YtnmbdjkbaihicaaDoor
open Go Go.Proofs.YtnmbdjkbaihicaaDoorE
set_option linter.unusedVariables false
set_option linter.unusedSimpArgs false
theorem Zo6 (d : Zh) (input : List Int) (wi : Znl input) : Zel d input = some true := by
 unfold Zel
 simp only [Zfj, ZzC, Option.bind_some, cond_true]
 cases hf : ZwD d input ⟨[], []⟩ with
 | false => rfl
 | true =>
  obtain ⟨sd, hi, _, _⟩ := Zxy hf
  have sh := sd.short
  simp only [cond_true, ZBa d sd, Option.bind_some, ZuF, ZvV d sh, ZiM (show input.length ≤ 1073741824 by omega), Zne d sh]
  by_cases hc : Zb4 d = 0
  ·have g := Zfg hc
   obtain ⟨t, t1, t2, t3⟩ := ZAN hc sh input (by omega)
   obtain ⟨u, u1, u2, u3⟩ := ZtU hc sd input (by omega) wi
   have hw := Zvq g t1 t2 u1 u2
   have hl : d.parts.length ≤ 16 := g.pl
   have nl : (Zjy d).work.length < 9223372036854775808 ∧ (Zjy d).vals.length < 9223372036854775808 := by unfold Zjy; simp only [List.length_replicate]; omega
   rw [t3, u3, hc]
   simp only [beq_self_eq_true, cond_true, Option.bind_some, bne_self_eq_false, cond_false, ZsW (show d.parts.length ≤ 1000 by omega), Zno _ _ nl.1 nl.2, decide_true, Bool.and_self]
   rw [hw]
   cases hb : ZfB d u with
   | false =>
    simp only [cond_false]
    rw [Zmk [] [] (by simp)]
    simp
   | true =>
    have hv := Zxv hc sh t1 u1 (hw.trans hb) hb
    have hl : t.vals.length < 9223372036854775808 := by rw [(t1.right g).o.v]; omega
    simp only [cond_true]
    rw [Zmk _ _ hl, decide_eq_true hv]
    simp
  ·have e : ∃ b, ZeU d input = some b := by
    unfold ZeU
    rw [Zne d sh]
    simp only [Option.bind_some]
    rw [show (Zb4 d != 0) = true by simpa using hc]
    exact ⟨_, rfl⟩
   obtain ⟨b, e⟩ := e
   rw [ZxN hc sh input, e, show (Zb4 d == 0) = false by simpa using hc, show (Zb4 d != 0) = true by simpa using hc]
   simp only [cond_false, cond_true, Option.bind_some, List.length_nil, beq_self_eq_true]
   rw [Zno _ _ (by simp) (by simp)]
   rfl
theorem Zpw (xs : List D) (h : Zgr Zru.1 xs) (ys : List D) (k : Zgr Zra.1 ys) :
  ∃ H', evW ctx 7 (ZcA [Zq9 Zru.2 xs, Zq9 Zra.2 ys]) [] = some (.d (.bool true), H') := by
 obtain ⟨d, hd, _⟩ := ZxQ h
 obtain ⟨a, ha, oka⟩ := Zxc k
 show ∃ H', evW ctx 7 [.d (D.agg xs), .d (Zq9 false ys)] [] = _
 rw [hd, ha]
 exact ZwC (Zjz true (Zo6 d a oka.2))
end Go.Proofs.YtnmbdjkbaihicaaDoor
namespace Go.Proofs.YtnmbdjkbaihicaaDoor.LawSourceRuns
open Go.ChangeShapes Go.WideShapes Go.ChangeAt Go.RowKit Go.Proofs.YtnmbdjkbaihicaaDoorE
set_option linter.unusedVariables false
theorem own : ownKnob Tryd.prog.godebug = none := by kernel_rfl
theorem Zs4 : laidOutB Tryd.prog = true := by kernel_rfl
def Zor : List (String × DataW Unit) := [("math/bits.deBruijn32tab", Rows.laid_math_bits_deBruijn32tab), ("math/bits.deBruijn64tab", Rows.laid_math_bits_deBruijn64tab)]
theorem Zwc (os : Os) (args : Array Value) : laidMetH Tryd.prog Zor ((World.doorLaid Tryd.prog 19 os).forCall (fun _ _ => 0) ⟨#[], args, []⟩).memory :=
 laidMetH_of_parts3 (fuel := 8) (laidMet_of_run' 8 (by kernel_rfl) (by kernel_rfl)) (by kernel_rfl) (by kernel_rfl)
theorem Zw2 {W : World} (h : laidMetH Tryd.prog Zor W) : GOK Zr R0 W := by
 intro g l hg
 unfold Zr at hg
 split at hg
 ·cases hg
  exact ZoK (t := 148) (N := 32) (e := 5) (k := .u8) h (by kernel_rfl) (n := "math/bits.deBruijn32tab") (by rw [show DataW.agg (ZlJ Zyk) = Rows.laid_math_bits_deBruijn32tab by kernel_rfl]; simp [Zor]) (by kernel_rfl) (by kernel_rfl) (by kernel_rfl) (by kernel_rfl) (by kernel_rfl) (by kernel_rfl) (by decide)
 ·cases hg
  exact ZoK (t := 149) (N := 64) (e := 5) (k := .u8) h (by kernel_rfl) (n := "math/bits.deBruijn64tab") (by rw [show DataW.agg (ZlJ Zyj) = Rows.laid_math_bits_deBruijn64tab by kernel_rfl]; simp [Zor]) (by kernel_rfl) (by kernel_rfl) (by kernel_rfl) (by kernel_rfl) (by kernel_rfl) (by kernel_rfl) (by decide)
 ·cases hg
theorem Zzw (os : Os) (started : os.Started) (H : Type) (enc : TypeId × Value → H) :
  ReturnsInHanded {} Tryd.checked os 7 .any (fun w args => (Rows.sourceRunsSpec.pre enc Tryd.prog Tryd.f7 [] false w args ∧ laidMetH Tryd.prog Zor w) ∧ sizedMet enc Tryd.prog Tryd.f7 (OpenSpec.ofChange Rows.sourceRunsSpec) false w args) (Rows.sourceRunsSpec.post enc Tryd.prog Tryd.f7 false true false false) := by
 refine returnsInHanded_of_change_and (C := Tryd.checked) (X := fun w _ => laidMetH Tryd.prog Zor w) (fun _ _ _ hh h => h.of_heap hh) own started (by kernel_rfl) Tryd.func7
  (ChangeSpec.witness_shaped (enc := enc) (C := Tryd.checked) (os := os) (X := fun w _ => laidMetH Tryd.prog Zor w) false (World.doorLaid Tryd.prog 19 os) #[.agg #[.int .i64 0, .int .i64 0, .slice none 0 0, .slice none 0 0, .slice none 0 0, .slice none 0 0], .slice none 0 0] 8 rfl (World.shaped_of_RefB (by kernel_rfl) (by kernel_rfl)) (by kernel_rfl) (by kernel_rfl) (by kernel_rfl) (Zwc os _)) ?_
 intro W base args ds gs before hval0 hW _ _ hL _
 have hval : ∀ (j : Nat) t v, Tryd.f7.params[j]? = some t → args[j]? = some v → Value.okWide Tryd.prog W .any base t v := hval0
 have hW' := hW
 obtain ⟨p, q, hA0, hV, rfl, hfz, hnd⟩ := hW
 have hA : DataW.TrodAll enc Tryd.prog W 0 (fun _ => true) true Tryd.f7.params.toList args.toList ds p := hA0
 rw [Tryd.params7] at hA hval
 obtain ⟨v0, vs0, d0, ds0, p0, q0, hargs, rfl, rfl, h0, r0⟩ := trodAll_cons hA
 obtain ⟨v1, vs1, d1, ds1, p1, q1, rfl, rfl, rfl, h1, r1⟩ := trodAll_cons r0
 obtain ⟨rfl, rfl, rfl⟩ := trodAll_nil r1
 obtain rfl : args = #[v0, v1] := by cases args; simp_all
 obtain ⟨rfl, rfl⟩ := trodVars_none hV
 have lt0 : ∀ x ∈ p0, x.block < W.heap.size := by obtain ⟨m, hm⟩ := h0; exact DataW.trod_lt m _ _ _ hm
 obtain ⟨x0, ok0, den0⟩ := ZuN (P := Tryd.prog) (n := 8) (t := 27) (l := Zru.1) (ag := Zru.2) (by kernel_rfl) (hval 0 27 v0 rfl rfl) h0
 have lt1 : ∀ x ∈ p1, x.block < W.heap.size := by obtain ⟨m, hm⟩ := h1; exact DataW.trod_lt m _ _ _ hm
 obtain ⟨x1, ok1, den1⟩ := ZuN (P := Tryd.prog) (n := 8) (t := 28) (l := Zra.1) (ag := Zra.2) (by kernel_rfl) (hval 1 28 v1 rfl rfl) h1
 obtain ⟨H1, ev⟩ := Zpw x0 ok0 x1 ok1
 have den : ZaP All All All W [Zq9 Zru.2 x0, Zq9 Zra.2 x1] [v0, v1] := ⟨_, _, rfl, den0, ⟨_, _, rfl, den1, rfl⟩⟩
 refine (Zt7 ZzZ (Zw2 hL) den ev).mono fun e W' ⟨he, bel⟩ => ?_
 subst he
 exact ⟨_, rfl, _, _, _, [], _, [], hW', trodAll_mk1 (shut_bool Tryd.underlying4 _), (trodAll_cons_mk (Below.trod Zs4 (by kernel_rfl) (of_decide_eq_true (by kernel_rfl)) h0 bel lt0) (trodAll_cons_mk (Below.trod Zs4 (by kernel_rfl) (of_decide_eq_true (by kernel_rfl)) h1 bel lt1) trodAll_mk0)), rfl, bel.frame _, fun h => by cases h⟩
theorem over : Rows.sourceRunsRow.holds Tryd.pinned (OpenSpec.ofChange Rows.sourceRunsSpec) :=
 OpenClaim.holds_of_wide 7 Tryd.f7 rfl rfl rfl rfl rfl rfl rfl ⟨rfl, rfl, rfl, rfl, rfl⟩ rfl rfl rfl rfl rfl (by kernel_rfl) Tryd.func7 (by kernel_rfl)
  (of_decide_eq_true (by kernel_rfl)) (by unfold Func.isWrapper; first | (rw [if_pos (by decide +kernel)]; kernel_rfl) | (rw [if_neg (by decide +kernel)]; exact ⟨rfl, rfl⟩))
  (fun os started H enc _ => Zzw os started H enc)
theorem proved : Rows.SourceRunsSaid := over
theorem carded : Rows.SourceRunsCardSaid :=
 Claim7.holds_tied_plain_at .later [] [.data, .data] true (true, "3ab9be834fa2b7d026ba399aa683e49be0919143fbbd24a24d6e9902cb90d35e") false
  proved (fun _ h => by cases h) (by kernel_rfl) (fun _ h => by cases h) sourceRuns_row_tie rfl ⟨rfl, rfl⟩ (by kernel_rfl) rfl
  (fun f fn hf hfn => by
   obtain rfl : f = 7 := Option.some.inj ((show Tryd.prog.funcNamed "trefoil/trefoillaw09.SourceRuns" = some 7 by kernel_rfl).symm.trans hf) |>.symm
   obtain rfl : fn = Tryd.f7 := (Option.some.inj (Tryd.func7.symm.trans hfn)).symm
   exact ⟨by kernel_rfl, fun j t ht => by
    rw [Tryd.params7] at ht
    have hm : t ∈ [27, 28] := by simpa using Array.mem_of_getElem? ht
    have hall : ([27, 28].all fun u => !Tryd.prog.wantsStandIn u) = true := by kernel_rfl
    exact (show Tryd.prog.wantsStandIn t = false by simpa using List.all_eq_true.1 hall t hm)⟩)
  (by kernel_rfl)
end Go.Proofs.YtnmbdjkbaihicaaDoor.LawSourceRuns
namespace Go.Proofs.YtnmbdjkbaihicaaDoor
theorem sourceRuns_holds : Rows.SourceRunsCardSaid := LawSourceRuns.carded
#print axioms sourceRuns_holds
end Go.Proofs.YtnmbdjkbaihicaaDoor
