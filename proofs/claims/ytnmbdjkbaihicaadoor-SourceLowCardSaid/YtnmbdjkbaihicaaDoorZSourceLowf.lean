/- SourceLow: part 6 of 6 of the proof: the row and the card of the law, out of what the evaluator says of it; without conditions. -/
import Derived.Test.YtnmbdjkbaihicaaDoorZSourceLowe
import Derived.KernelRfl
import Derived.Test.YtnmbdjkbaihicaaDoorRows
import Derived.Test.YtnmbdjkbaihicaaDoorCards
import Derived.Test.YtnmbdjkbaihicaaDoorTie
import Derived.WalkKit
import Derived.ProofKit
import Derived.OpenShut
import Derived.ShutString
import Derived.ChangeOld
import Derived.Below
import Derived.SizedLaws
import Derived.Handed
import Derived.LaidMore
import Derived.Stop.Joined
import Derived.ChangeShapes
import Derived.Carry
import Derived.SevenTiedAt
set_option maxRecDepth 100000
set_option maxHeartbeats 40000000
namespace Go.Proofs.YtnmbdjkbaihicaaDoor
open Go Go.Proofs.YtnmbdjkbaihicaaDoorE
set_option linter.unusedVariables false
set_option linter.unusedSimpArgs false
def Za (t0:Bool) (t1:Bool) (t2:Bool) (t3:Bool) (b:Int) (c:Int) (d:Int) (m0_0:(List Int)) (m1_0:Int) (m1_1:Int) (m1_2:(List ZV)) (m1_3:(List Zm)) (m1_4:(List Zj)) (m1_5:(List Zr)):(List Int)→V×Zo
  | r=>((.d (D.tup [])),[(.arr 1 (List.map Zb r)),(.cells [(.d (Zb m1_0)),(.d (Zb m1_1)),(.d (D.list t0 (List.map Z1 m1_2))),(.d (D.list t1 (List.map ZF m1_3))),(.d (D.list t2 (List.map Zq m1_4))),(.d (D.list t3 (List.map Zv m1_5)))])])
def Zb0 (t0:Bool) (t1:Bool) (t2:Bool) (t3:Bool) (m1_0:Int) (m1_1:Int) (m1_2:(List ZV)) (m1_3:(List Zm)) (m1_4:(List Zj)) (m1_5:(List Zr)) (rc:Int→Int→Int→(Int→Int→Option Int)→(List Int)→Option (List Int)):(List Int)→Ex×List V×Zo
  | r=>(.ret,[],[(.arr 1 (List.map Zb r)),(.cells [(.d (Zb m1_0)),(.d (Zb m1_1)),(.d (D.list t0 (List.map Z1 m1_2))),(.d (D.list t1 (List.map ZF m1_3))),(.d (D.list t2 (List.map Zq m1_4))),(.d (D.list t3 (List.map Zv m1_5)))])])
theorem ZdW {t0:Bool}{t1:Bool}{t2:Bool}{t3:Bool}{m1_0:Int}{m1_1:Int}{m1_2:(List ZV)}{m1_3:(List Zm)}{m1_4:(List Zj)}{m1_5:(List Zr)}{rc:Int→Int→Int→(Int→Int→Option Int)→(List Int)→Option (List Int)} (hrc:∀(t0:Bool) (t1:Bool) (t2:Bool) (t3:Bool) (b:Int) (c:Int) (d:Int) (m0_0:(List Int)) (m1_0:Int) (m1_1:Int) (m1_2:(List ZV)) (m1_3:(List Zm)) (m1_4:(List Zj)) (m1_5:(List Zr)) (r:(List Int)),rc b c d (fun z0 z1=>Zt z0 z1 m1_4) m0_0=some r→evW ctx 124 [(.sl 0 1),(.d (Zb b)),(.d (Zb c)),(.d (Zb d)),(.fn 118 [(.ptr 1 0)])] [(.arr 1 (List.map Zb m0_0)),(.cells [(.d (Zb m1_0)),(.d (Zb m1_1)),(.d (D.list t0 (List.map Z1 m1_2))),(.d (D.list t1 (List.map ZF m1_3))),(.d (D.list t2 (List.map Zq m1_4))),(.d (D.list t3 (List.map Zv m1_5)))])]=some ((Za t0 t1 t2 t3 b c d m0_0 m1_0 m1_1 m1_2 m1_3 m1_4 m1_5) r)):∀(s0:Int×Int×Int×Bool×Bool×(List Int)) (r:(List Int)),lp (ZR (fun z0 z1=>Zt z0 z1 m1_4) rc) s0=some r→lpW ctx 2 [0,1,2,3,4,10,11] [] Zvs [(.sl 0 1),(.d (Zb s0.1)),(.d (Zb s0.2.1)),(.d (Zb s0.2.2.1)),(.fn 118 [(.ptr 1 0)]),(.d (D.bool s0.2.2.2.1)),(.d (D.bool s0.2.2.2.2.1))] [(.arr 1 (List.map Zb s0.2.2.2.2.2)),(.cells [(.d (Zb m1_0)),(.d (Zb m1_1)),(.d (D.list t0 (List.map Z1 m1_2))),(.d (D.list t1 (List.map ZF m1_3))),(.d (D.list t2 (List.map Zq m1_4))),(.d (D.list t3 (List.map Zv m1_5)))])]=some ((Zb0 t0 t1 t2 t3 m1_0 m1_1 m1_2 m1_3 m1_4 m1_5 rc) r):=by
 refine ZaM (Zb0 t0 t1 t2 t3 m1_0 m1_1 m1_2 m1_3 m1_4 m1_5 rc) ?_
 intro s0 rcl ih
 show ZO _ _ (lpW _ _ _ _ _ _ _)
 unfold ZR
 rw[ZaN]
 rcases hb:s0.2.2.2.1 with _ | _
 ·refine ZuD ?_
  rcases hb:s0.2.2.2.2.1 with _ | _
  ·refine ZuD ?_;conv=>arg 3;whnf
   refine Zf rfl ?_ ?_<;>conv=>arg 3;whnf
   ·refine Zc _ Zaa fun x170 hx170=>?_;conv=>arg 3;whnf
    exact Zd rfl
   ·refine Zf rfl ?_ ?_<;>conv=>arg 3;whnf
    ·refine Zc _ Zaq fun x171 hx171=>?_;conv=>arg 3;whnf
     exact Zd rfl
    ·refine Zc _ ZbA fun x172 hx172=>?_;conv=>arg 3;whnf
     refine Zc _ Zah fun x173 hx173=>?_;conv=>arg 3;whnf
     refine Zf rfl ?_ ?_<;>conv=>arg 3;whnf
     ·refine Zc _ Zag fun x174 hx174=>?_;conv=>arg 3;whnf
      refine Zf rfl ?_ ?_<;>conv=>arg 3;whnf
      ·refine Zl rfl rfl fun x175 hx175=>?_;conv=>arg 3;whnf
       refine Zg (Zy rfl hx175) ?_;conv=>arg 3;whnf
       refine Zl rfl rfl fun x176 hx176=>?_;conv=>arg 3;whnf
       refine Zg (Zy rfl hx176) ?_;conv=>arg 3;whnf
       refine Zp _ ZG rfl fun x177 hx177=>?_;conv=>arg 3;whnf
       refine Zf rfl ?_ ?_<;>conv=>arg 3;whnf
       ·refine Zc _ Zk fun x178 hx178=>?_
        clear hx178
        rcases x178 with x178 | x178
        ·conv=>arg 3;whnf
         refine ZbH rfl ?_;conv=>arg 3;whnf
         refine Zal rfl ?_;conv=>arg 3;whnf
         refine Zf rfl ?_ ?_<;>conv=>arg 3;whnf
         ·refine Zf rfl ?_ ?_<;>conv=>arg 3;whnf
          ·refine Zc (Za t0 t1 t2 t3 s0.1 x178.1 (w64 (s0.2.2.1-1)) x178.2 m1_0 m1_1 m1_2 m1_3 m1_4 m1_5) (hrc t0 t1 t2 t3 s0.1 x178.1 (w64 (s0.2.2.1-1)) x178.2 m1_0 m1_1 m1_2 m1_3 m1_4 m1_5) fun x179 hx179=>?_;conv=>arg 3;whnf
           exact Ze (ih _)
          ·refine Zc (Za t0 t1 t2 t3 s0.1 x178.1 (w64 (s0.2.2.1-1)) x178.2 m1_0 m1_1 m1_2 m1_3 m1_4 m1_5) (hrc t0 t1 t2 t3 s0.1 x178.1 (w64 (s0.2.2.1-1)) x178.2 m1_0 m1_1 m1_2 m1_3 m1_4 m1_5) fun x180 hx180=>?_;conv=>arg 3;whnf
           exact Ze (ih _)
         ·refine Zf rfl ?_ ?_<;>conv=>arg 3;whnf
          ·refine Zc (Za t0 t1 t2 t3 (w64 (x178.1+1)) s0.2.1 (w64 (s0.2.2.1-1)) x178.2 m1_0 m1_1 m1_2 m1_3 m1_4 m1_5) (hrc t0 t1 t2 t3 (w64 (x178.1+1)) s0.2.1 (w64 (s0.2.2.1-1)) x178.2 m1_0 m1_1 m1_2 m1_3 m1_4 m1_5) fun x181 hx181=>?_;conv=>arg 3;whnf
           exact Ze (ih _)
          ·refine Zc (Za t0 t1 t2 t3 (w64 (x178.1+1)) s0.2.1 (w64 (s0.2.2.1-1)) x178.2 m1_0 m1_1 m1_2 m1_3 m1_4 m1_5) (hrc t0 t1 t2 t3 (w64 (x178.1+1)) s0.2.1 (w64 (s0.2.2.1-1)) x178.2 m1_0 m1_1 m1_2 m1_3 m1_4 m1_5) fun x182 hx182=>?_;conv=>arg 3;whnf
           exact Ze (ih _)
        ·conv=>arg 3;whnf
         refine Zal rfl ?_;conv=>arg 3;whnf
         refine Zal rfl ?_;conv=>arg 3;whnf
         refine Zf rfl ?_ ?_<;>conv=>arg 3;whnf
         ·refine Zf rfl ?_ ?_<;>conv=>arg 3;whnf
          ·refine Zc (Za t0 t1 t2 t3 s0.1 x178.1 (w64 (s0.2.2.1-1)) x178.2 m1_0 m1_1 m1_2 m1_3 m1_4 m1_5) (hrc t0 t1 t2 t3 s0.1 x178.1 (w64 (s0.2.2.1-1)) x178.2 m1_0 m1_1 m1_2 m1_3 m1_4 m1_5) fun x183 hx183=>?_;conv=>arg 3;whnf
           exact Ze (ih _)
          ·refine Zc (Za t0 t1 t2 t3 s0.1 x178.1 (w64 (s0.2.2.1-1)) x178.2 m1_0 m1_1 m1_2 m1_3 m1_4 m1_5) (hrc t0 t1 t2 t3 s0.1 x178.1 (w64 (s0.2.2.1-1)) x178.2 m1_0 m1_1 m1_2 m1_3 m1_4 m1_5) fun x184 hx184=>?_;conv=>arg 3;whnf
           exact Ze (ih _)
         ·refine Zf rfl ?_ ?_<;>conv=>arg 3;whnf
          ·refine Zc (Za t0 t1 t2 t3 (w64 (x178.1+1)) s0.2.1 (w64 (s0.2.2.1-1)) x178.2 m1_0 m1_1 m1_2 m1_3 m1_4 m1_5) (hrc t0 t1 t2 t3 (w64 (x178.1+1)) s0.2.1 (w64 (s0.2.2.1-1)) x178.2 m1_0 m1_1 m1_2 m1_3 m1_4 m1_5) fun x185 hx185=>?_;conv=>arg 3;whnf
           exact Ze (ih _)
          ·refine Zc (Za t0 t1 t2 t3 (w64 (x178.1+1)) s0.2.1 (w64 (s0.2.2.1-1)) x178.2 m1_0 m1_1 m1_2 m1_3 m1_4 m1_5) (hrc t0 t1 t2 t3 (w64 (x178.1+1)) s0.2.1 (w64 (s0.2.2.1-1)) x178.2 m1_0 m1_1 m1_2 m1_3 m1_4 m1_5) fun x186 hx186=>?_;conv=>arg 3;whnf
           exact Ze (ih _)
       ·refine Zc _ Zz fun x187 hx187=>?_;conv=>arg 3;whnf
        exact Ze (ih _)
      ·refine Zc _ Zk fun x188 hx188=>?_
       clear hx188
       rcases x188 with x188 | x188
       ·conv=>arg 3;whnf
        refine ZbH rfl ?_;conv=>arg 3;whnf
        refine Zal rfl ?_;conv=>arg 3;whnf
        refine Zf rfl ?_ ?_<;>conv=>arg 3;whnf
        ·refine Zf rfl ?_ ?_<;>conv=>arg 3;whnf
         ·refine Zc (Za t0 t1 t2 t3 s0.1 x188.1 (w64 (s0.2.2.1-1)) x188.2 m1_0 m1_1 m1_2 m1_3 m1_4 m1_5) (hrc t0 t1 t2 t3 s0.1 x188.1 (w64 (s0.2.2.1-1)) x188.2 m1_0 m1_1 m1_2 m1_3 m1_4 m1_5) fun x189 hx189=>?_;conv=>arg 3;whnf
          exact Ze (ih _)
         ·refine Zc (Za t0 t1 t2 t3 s0.1 x188.1 (w64 (s0.2.2.1-1)) x188.2 m1_0 m1_1 m1_2 m1_3 m1_4 m1_5) (hrc t0 t1 t2 t3 s0.1 x188.1 (w64 (s0.2.2.1-1)) x188.2 m1_0 m1_1 m1_2 m1_3 m1_4 m1_5) fun x190 hx190=>?_;conv=>arg 3;whnf
          exact Ze (ih _)
        ·refine Zf rfl ?_ ?_<;>conv=>arg 3;whnf
         ·refine Zc (Za t0 t1 t2 t3 (w64 (x188.1+1)) s0.2.1 (w64 (s0.2.2.1-1)) x188.2 m1_0 m1_1 m1_2 m1_3 m1_4 m1_5) (hrc t0 t1 t2 t3 (w64 (x188.1+1)) s0.2.1 (w64 (s0.2.2.1-1)) x188.2 m1_0 m1_1 m1_2 m1_3 m1_4 m1_5) fun x191 hx191=>?_;conv=>arg 3;whnf
          exact Ze (ih _)
         ·refine Zc (Za t0 t1 t2 t3 (w64 (x188.1+1)) s0.2.1 (w64 (s0.2.2.1-1)) x188.2 m1_0 m1_1 m1_2 m1_3 m1_4 m1_5) (hrc t0 t1 t2 t3 (w64 (x188.1+1)) s0.2.1 (w64 (s0.2.2.1-1)) x188.2 m1_0 m1_1 m1_2 m1_3 m1_4 m1_5) fun x192 hx192=>?_;conv=>arg 3;whnf
          exact Ze (ih _)
       ·conv=>arg 3;whnf
        refine Zal rfl ?_;conv=>arg 3;whnf
        refine Zal rfl ?_;conv=>arg 3;whnf
        refine Zf rfl ?_ ?_<;>conv=>arg 3;whnf
        ·refine Zf rfl ?_ ?_<;>conv=>arg 3;whnf
         ·refine Zc (Za t0 t1 t2 t3 s0.1 x188.1 (w64 (s0.2.2.1-1)) x188.2 m1_0 m1_1 m1_2 m1_3 m1_4 m1_5) (hrc t0 t1 t2 t3 s0.1 x188.1 (w64 (s0.2.2.1-1)) x188.2 m1_0 m1_1 m1_2 m1_3 m1_4 m1_5) fun x193 hx193=>?_;conv=>arg 3;whnf
          exact Ze (ih _)
         ·refine Zc (Za t0 t1 t2 t3 s0.1 x188.1 (w64 (s0.2.2.1-1)) x188.2 m1_0 m1_1 m1_2 m1_3 m1_4 m1_5) (hrc t0 t1 t2 t3 s0.1 x188.1 (w64 (s0.2.2.1-1)) x188.2 m1_0 m1_1 m1_2 m1_3 m1_4 m1_5) fun x194 hx194=>?_;conv=>arg 3;whnf
          exact Ze (ih _)
        ·refine Zf rfl ?_ ?_<;>conv=>arg 3;whnf
         ·refine Zc (Za t0 t1 t2 t3 (w64 (x188.1+1)) s0.2.1 (w64 (s0.2.2.1-1)) x188.2 m1_0 m1_1 m1_2 m1_3 m1_4 m1_5) (hrc t0 t1 t2 t3 (w64 (x188.1+1)) s0.2.1 (w64 (s0.2.2.1-1)) x188.2 m1_0 m1_1 m1_2 m1_3 m1_4 m1_5) fun x195 hx195=>?_;conv=>arg 3;whnf
          exact Ze (ih _)
         ·refine Zc (Za t0 t1 t2 t3 (w64 (x188.1+1)) s0.2.1 (w64 (s0.2.2.1-1)) x188.2 m1_0 m1_1 m1_2 m1_3 m1_4 m1_5) (hrc t0 t1 t2 t3 (w64 (x188.1+1)) s0.2.1 (w64 (s0.2.2.1-1)) x188.2 m1_0 m1_1 m1_2 m1_3 m1_4 m1_5) fun x196 hx196=>?_;conv=>arg 3;whnf
          exact Ze (ih _)
     ·refine Zf rfl ?_ ?_<;>conv=>arg 3;whnf
      ·refine Zl rfl rfl fun x197 hx197=>?_;conv=>arg 3;whnf
       refine Zg (Zy rfl hx197) ?_;conv=>arg 3;whnf
       refine Zl rfl rfl fun x198 hx198=>?_;conv=>arg 3;whnf
       refine Zg (Zy rfl hx198) ?_;conv=>arg 3;whnf
       refine Zp _ ZG rfl fun x199 hx199=>?_;conv=>arg 3;whnf
       refine Zf rfl ?_ ?_<;>conv=>arg 3;whnf
       ·refine Zc _ Zk fun x200 hx200=>?_
        clear hx200
        rcases x200 with x200 | x200
        ·conv=>arg 3;whnf
         refine ZbH rfl ?_;conv=>arg 3;whnf
         refine Zal rfl ?_;conv=>arg 3;whnf
         refine Zf rfl ?_ ?_<;>conv=>arg 3;whnf
         ·refine Zf rfl ?_ ?_<;>conv=>arg 3;whnf
          ·refine Zc (Za t0 t1 t2 t3 s0.1 x200.1 (w64 (s0.2.2.1-1)) x200.2 m1_0 m1_1 m1_2 m1_3 m1_4 m1_5) (hrc t0 t1 t2 t3 s0.1 x200.1 (w64 (s0.2.2.1-1)) x200.2 m1_0 m1_1 m1_2 m1_3 m1_4 m1_5) fun x201 hx201=>?_;conv=>arg 3;whnf
           exact Ze (ih _)
          ·refine Zc (Za t0 t1 t2 t3 s0.1 x200.1 (w64 (s0.2.2.1-1)) x200.2 m1_0 m1_1 m1_2 m1_3 m1_4 m1_5) (hrc t0 t1 t2 t3 s0.1 x200.1 (w64 (s0.2.2.1-1)) x200.2 m1_0 m1_1 m1_2 m1_3 m1_4 m1_5) fun x202 hx202=>?_;conv=>arg 3;whnf
           exact Ze (ih _)
         ·refine Zf rfl ?_ ?_<;>conv=>arg 3;whnf
          ·refine Zc (Za t0 t1 t2 t3 (w64 (x200.1+1)) s0.2.1 (w64 (s0.2.2.1-1)) x200.2 m1_0 m1_1 m1_2 m1_3 m1_4 m1_5) (hrc t0 t1 t2 t3 (w64 (x200.1+1)) s0.2.1 (w64 (s0.2.2.1-1)) x200.2 m1_0 m1_1 m1_2 m1_3 m1_4 m1_5) fun x203 hx203=>?_;conv=>arg 3;whnf
           exact Ze (ih _)
          ·refine Zc (Za t0 t1 t2 t3 (w64 (x200.1+1)) s0.2.1 (w64 (s0.2.2.1-1)) x200.2 m1_0 m1_1 m1_2 m1_3 m1_4 m1_5) (hrc t0 t1 t2 t3 (w64 (x200.1+1)) s0.2.1 (w64 (s0.2.2.1-1)) x200.2 m1_0 m1_1 m1_2 m1_3 m1_4 m1_5) fun x204 hx204=>?_;conv=>arg 3;whnf
           exact Ze (ih _)
        ·conv=>arg 3;whnf
         refine Zal rfl ?_;conv=>arg 3;whnf
         refine Zal rfl ?_;conv=>arg 3;whnf
         refine Zf rfl ?_ ?_<;>conv=>arg 3;whnf
         ·refine Zf rfl ?_ ?_<;>conv=>arg 3;whnf
          ·refine Zc (Za t0 t1 t2 t3 s0.1 x200.1 (w64 (s0.2.2.1-1)) x200.2 m1_0 m1_1 m1_2 m1_3 m1_4 m1_5) (hrc t0 t1 t2 t3 s0.1 x200.1 (w64 (s0.2.2.1-1)) x200.2 m1_0 m1_1 m1_2 m1_3 m1_4 m1_5) fun x205 hx205=>?_;conv=>arg 3;whnf
           exact Ze (ih _)
          ·refine Zc (Za t0 t1 t2 t3 s0.1 x200.1 (w64 (s0.2.2.1-1)) x200.2 m1_0 m1_1 m1_2 m1_3 m1_4 m1_5) (hrc t0 t1 t2 t3 s0.1 x200.1 (w64 (s0.2.2.1-1)) x200.2 m1_0 m1_1 m1_2 m1_3 m1_4 m1_5) fun x206 hx206=>?_;conv=>arg 3;whnf
           exact Ze (ih _)
         ·refine Zf rfl ?_ ?_<;>conv=>arg 3;whnf
          ·refine Zc (Za t0 t1 t2 t3 (w64 (x200.1+1)) s0.2.1 (w64 (s0.2.2.1-1)) x200.2 m1_0 m1_1 m1_2 m1_3 m1_4 m1_5) (hrc t0 t1 t2 t3 (w64 (x200.1+1)) s0.2.1 (w64 (s0.2.2.1-1)) x200.2 m1_0 m1_1 m1_2 m1_3 m1_4 m1_5) fun x207 hx207=>?_;conv=>arg 3;whnf
           exact Ze (ih _)
          ·refine Zc (Za t0 t1 t2 t3 (w64 (x200.1+1)) s0.2.1 (w64 (s0.2.2.1-1)) x200.2 m1_0 m1_1 m1_2 m1_3 m1_4 m1_5) (hrc t0 t1 t2 t3 (w64 (x200.1+1)) s0.2.1 (w64 (s0.2.2.1-1)) x200.2 m1_0 m1_1 m1_2 m1_3 m1_4 m1_5) fun x208 hx208=>?_;conv=>arg 3;whnf
           exact Ze (ih _)
       ·refine Zc _ Zz fun x209 hx209=>?_;conv=>arg 3;whnf
        exact Ze (ih _)
      ·refine Zc _ Zk fun x210 hx210=>?_
       clear hx210
       rcases x210 with x210 | x210
       ·conv=>arg 3;whnf
        refine ZbH rfl ?_;conv=>arg 3;whnf
        refine Zal rfl ?_;conv=>arg 3;whnf
        refine Zf rfl ?_ ?_<;>conv=>arg 3;whnf
        ·refine Zf rfl ?_ ?_<;>conv=>arg 3;whnf
         ·refine Zc (Za t0 t1 t2 t3 s0.1 x210.1 (w64 (s0.2.2.1-1)) x210.2 m1_0 m1_1 m1_2 m1_3 m1_4 m1_5) (hrc t0 t1 t2 t3 s0.1 x210.1 (w64 (s0.2.2.1-1)) x210.2 m1_0 m1_1 m1_2 m1_3 m1_4 m1_5) fun x211 hx211=>?_;conv=>arg 3;whnf
          exact Ze (ih _)
         ·refine Zc (Za t0 t1 t2 t3 s0.1 x210.1 (w64 (s0.2.2.1-1)) x210.2 m1_0 m1_1 m1_2 m1_3 m1_4 m1_5) (hrc t0 t1 t2 t3 s0.1 x210.1 (w64 (s0.2.2.1-1)) x210.2 m1_0 m1_1 m1_2 m1_3 m1_4 m1_5) fun x212 hx212=>?_;conv=>arg 3;whnf
          exact Ze (ih _)
        ·refine Zf rfl ?_ ?_<;>conv=>arg 3;whnf
         ·refine Zc (Za t0 t1 t2 t3 (w64 (x210.1+1)) s0.2.1 (w64 (s0.2.2.1-1)) x210.2 m1_0 m1_1 m1_2 m1_3 m1_4 m1_5) (hrc t0 t1 t2 t3 (w64 (x210.1+1)) s0.2.1 (w64 (s0.2.2.1-1)) x210.2 m1_0 m1_1 m1_2 m1_3 m1_4 m1_5) fun x213 hx213=>?_;conv=>arg 3;whnf
          exact Ze (ih _)
         ·refine Zc (Za t0 t1 t2 t3 (w64 (x210.1+1)) s0.2.1 (w64 (s0.2.2.1-1)) x210.2 m1_0 m1_1 m1_2 m1_3 m1_4 m1_5) (hrc t0 t1 t2 t3 (w64 (x210.1+1)) s0.2.1 (w64 (s0.2.2.1-1)) x210.2 m1_0 m1_1 m1_2 m1_3 m1_4 m1_5) fun x214 hx214=>?_;conv=>arg 3;whnf
          exact Ze (ih _)
       ·conv=>arg 3;whnf
        refine Zal rfl ?_;conv=>arg 3;whnf
        refine Zal rfl ?_;conv=>arg 3;whnf
        refine Zf rfl ?_ ?_<;>conv=>arg 3;whnf
        ·refine Zf rfl ?_ ?_<;>conv=>arg 3;whnf
         ·refine Zc (Za t0 t1 t2 t3 s0.1 x210.1 (w64 (s0.2.2.1-1)) x210.2 m1_0 m1_1 m1_2 m1_3 m1_4 m1_5) (hrc t0 t1 t2 t3 s0.1 x210.1 (w64 (s0.2.2.1-1)) x210.2 m1_0 m1_1 m1_2 m1_3 m1_4 m1_5) fun x215 hx215=>?_;conv=>arg 3;whnf
          exact Ze (ih _)
         ·refine Zc (Za t0 t1 t2 t3 s0.1 x210.1 (w64 (s0.2.2.1-1)) x210.2 m1_0 m1_1 m1_2 m1_3 m1_4 m1_5) (hrc t0 t1 t2 t3 s0.1 x210.1 (w64 (s0.2.2.1-1)) x210.2 m1_0 m1_1 m1_2 m1_3 m1_4 m1_5) fun x216 hx216=>?_;conv=>arg 3;whnf
          exact Ze (ih _)
        ·refine Zf rfl ?_ ?_<;>conv=>arg 3;whnf
         ·refine Zc (Za t0 t1 t2 t3 (w64 (x210.1+1)) s0.2.1 (w64 (s0.2.2.1-1)) x210.2 m1_0 m1_1 m1_2 m1_3 m1_4 m1_5) (hrc t0 t1 t2 t3 (w64 (x210.1+1)) s0.2.1 (w64 (s0.2.2.1-1)) x210.2 m1_0 m1_1 m1_2 m1_3 m1_4 m1_5) fun x217 hx217=>?_;conv=>arg 3;whnf
          exact Ze (ih _)
         ·refine Zc (Za t0 t1 t2 t3 (w64 (x210.1+1)) s0.2.1 (w64 (s0.2.2.1-1)) x210.2 m1_0 m1_1 m1_2 m1_3 m1_4 m1_5) (hrc t0 t1 t2 t3 (w64 (x210.1+1)) s0.2.1 (w64 (s0.2.2.1-1)) x210.2 m1_0 m1_1 m1_2 m1_3 m1_4 m1_5) fun x218 hx218=>?_;conv=>arg 3;whnf
          exact Ze (ih _)
  ·refine ZtZ ?_;conv=>arg 3;whnf
   refine Zf rfl ?_ ?_<;>conv=>arg 3;whnf
   ·refine Zc _ Zaa fun x121 hx121=>?_;conv=>arg 3;whnf
    exact Zd rfl
   ·refine Zf rfl ?_ ?_<;>conv=>arg 3;whnf
    ·refine Zc _ Zaq fun x122 hx122=>?_;conv=>arg 3;whnf
     exact Zd rfl
    ·refine Zc _ ZbA fun x123 hx123=>?_;conv=>arg 3;whnf
     refine Zc _ Zah fun x124 hx124=>?_;conv=>arg 3;whnf
     refine Zf rfl ?_ ?_<;>conv=>arg 3;whnf
     ·refine Zc _ Zag fun x125 hx125=>?_;conv=>arg 3;whnf
      refine Zf rfl ?_ ?_<;>conv=>arg 3;whnf
      ·refine Zl rfl rfl fun x126 hx126=>?_;conv=>arg 3;whnf
       refine Zg (Zy rfl hx126) ?_;conv=>arg 3;whnf
       refine Zl rfl rfl fun x127 hx127=>?_;conv=>arg 3;whnf
       refine Zg (Zy rfl hx127) ?_;conv=>arg 3;whnf
       refine Zp _ ZG rfl fun x128 hx128=>?_;conv=>arg 3;whnf
       refine Zf rfl ?_ ?_<;>conv=>arg 3;whnf
       ·refine Zc _ Zk fun x129 hx129=>?_
        clear hx129
        rcases x129 with x129 | x129
        ·conv=>arg 3;whnf
         refine ZbH rfl ?_;conv=>arg 3;whnf
         refine Zal rfl ?_;conv=>arg 3;whnf
         refine Zf rfl ?_ ?_<;>conv=>arg 3;whnf
         ·refine Zf rfl ?_ ?_<;>conv=>arg 3;whnf
          ·refine Zc (Za t0 t1 t2 t3 s0.1 x129.1 (w64 (s0.2.2.1-1)) x129.2 m1_0 m1_1 m1_2 m1_3 m1_4 m1_5) (hrc t0 t1 t2 t3 s0.1 x129.1 (w64 (s0.2.2.1-1)) x129.2 m1_0 m1_1 m1_2 m1_3 m1_4 m1_5) fun x130 hx130=>?_;conv=>arg 3;whnf
           exact Ze (ih _)
          ·refine Zc (Za t0 t1 t2 t3 s0.1 x129.1 (w64 (s0.2.2.1-1)) x129.2 m1_0 m1_1 m1_2 m1_3 m1_4 m1_5) (hrc t0 t1 t2 t3 s0.1 x129.1 (w64 (s0.2.2.1-1)) x129.2 m1_0 m1_1 m1_2 m1_3 m1_4 m1_5) fun x131 hx131=>?_;conv=>arg 3;whnf
           exact Ze (ih _)
         ·refine Zf rfl ?_ ?_<;>conv=>arg 3;whnf
          ·refine Zc (Za t0 t1 t2 t3 (w64 (x129.1+1)) s0.2.1 (w64 (s0.2.2.1-1)) x129.2 m1_0 m1_1 m1_2 m1_3 m1_4 m1_5) (hrc t0 t1 t2 t3 (w64 (x129.1+1)) s0.2.1 (w64 (s0.2.2.1-1)) x129.2 m1_0 m1_1 m1_2 m1_3 m1_4 m1_5) fun x132 hx132=>?_;conv=>arg 3;whnf
           exact Ze (ih _)
          ·refine Zc (Za t0 t1 t2 t3 (w64 (x129.1+1)) s0.2.1 (w64 (s0.2.2.1-1)) x129.2 m1_0 m1_1 m1_2 m1_3 m1_4 m1_5) (hrc t0 t1 t2 t3 (w64 (x129.1+1)) s0.2.1 (w64 (s0.2.2.1-1)) x129.2 m1_0 m1_1 m1_2 m1_3 m1_4 m1_5) fun x133 hx133=>?_;conv=>arg 3;whnf
           exact Ze (ih _)
        ·conv=>arg 3;whnf
         refine Zal rfl ?_;conv=>arg 3;whnf
         refine Zal rfl ?_;conv=>arg 3;whnf
         refine Zf rfl ?_ ?_<;>conv=>arg 3;whnf
         ·refine Zf rfl ?_ ?_<;>conv=>arg 3;whnf
          ·refine Zc (Za t0 t1 t2 t3 s0.1 x129.1 (w64 (s0.2.2.1-1)) x129.2 m1_0 m1_1 m1_2 m1_3 m1_4 m1_5) (hrc t0 t1 t2 t3 s0.1 x129.1 (w64 (s0.2.2.1-1)) x129.2 m1_0 m1_1 m1_2 m1_3 m1_4 m1_5) fun x134 hx134=>?_;conv=>arg 3;whnf
           exact Ze (ih _)
          ·refine Zc (Za t0 t1 t2 t3 s0.1 x129.1 (w64 (s0.2.2.1-1)) x129.2 m1_0 m1_1 m1_2 m1_3 m1_4 m1_5) (hrc t0 t1 t2 t3 s0.1 x129.1 (w64 (s0.2.2.1-1)) x129.2 m1_0 m1_1 m1_2 m1_3 m1_4 m1_5) fun x135 hx135=>?_;conv=>arg 3;whnf
           exact Ze (ih _)
         ·refine Zf rfl ?_ ?_<;>conv=>arg 3;whnf
          ·refine Zc (Za t0 t1 t2 t3 (w64 (x129.1+1)) s0.2.1 (w64 (s0.2.2.1-1)) x129.2 m1_0 m1_1 m1_2 m1_3 m1_4 m1_5) (hrc t0 t1 t2 t3 (w64 (x129.1+1)) s0.2.1 (w64 (s0.2.2.1-1)) x129.2 m1_0 m1_1 m1_2 m1_3 m1_4 m1_5) fun x136 hx136=>?_;conv=>arg 3;whnf
           exact Ze (ih _)
          ·refine Zc (Za t0 t1 t2 t3 (w64 (x129.1+1)) s0.2.1 (w64 (s0.2.2.1-1)) x129.2 m1_0 m1_1 m1_2 m1_3 m1_4 m1_5) (hrc t0 t1 t2 t3 (w64 (x129.1+1)) s0.2.1 (w64 (s0.2.2.1-1)) x129.2 m1_0 m1_1 m1_2 m1_3 m1_4 m1_5) fun x137 hx137=>?_;conv=>arg 3;whnf
           exact Ze (ih _)
       ·refine Zc _ Zz fun x138 hx138=>?_;conv=>arg 3;whnf
        exact Ze (ih _)
      ·refine Zc _ Zk fun x139 hx139=>?_
       clear hx139
       rcases x139 with x139 | x139
       ·conv=>arg 3;whnf
        refine ZbH rfl ?_;conv=>arg 3;whnf
        refine Zal rfl ?_;conv=>arg 3;whnf
        refine Zf rfl ?_ ?_<;>conv=>arg 3;whnf
        ·refine Zf rfl ?_ ?_<;>conv=>arg 3;whnf
         ·refine Zc (Za t0 t1 t2 t3 s0.1 x139.1 (w64 (s0.2.2.1-1)) x139.2 m1_0 m1_1 m1_2 m1_3 m1_4 m1_5) (hrc t0 t1 t2 t3 s0.1 x139.1 (w64 (s0.2.2.1-1)) x139.2 m1_0 m1_1 m1_2 m1_3 m1_4 m1_5) fun x140 hx140=>?_;conv=>arg 3;whnf
          exact Ze (ih _)
         ·refine Zc (Za t0 t1 t2 t3 s0.1 x139.1 (w64 (s0.2.2.1-1)) x139.2 m1_0 m1_1 m1_2 m1_3 m1_4 m1_5) (hrc t0 t1 t2 t3 s0.1 x139.1 (w64 (s0.2.2.1-1)) x139.2 m1_0 m1_1 m1_2 m1_3 m1_4 m1_5) fun x141 hx141=>?_;conv=>arg 3;whnf
          exact Ze (ih _)
        ·refine Zf rfl ?_ ?_<;>conv=>arg 3;whnf
         ·refine Zc (Za t0 t1 t2 t3 (w64 (x139.1+1)) s0.2.1 (w64 (s0.2.2.1-1)) x139.2 m1_0 m1_1 m1_2 m1_3 m1_4 m1_5) (hrc t0 t1 t2 t3 (w64 (x139.1+1)) s0.2.1 (w64 (s0.2.2.1-1)) x139.2 m1_0 m1_1 m1_2 m1_3 m1_4 m1_5) fun x142 hx142=>?_;conv=>arg 3;whnf
          exact Ze (ih _)
         ·refine Zc (Za t0 t1 t2 t3 (w64 (x139.1+1)) s0.2.1 (w64 (s0.2.2.1-1)) x139.2 m1_0 m1_1 m1_2 m1_3 m1_4 m1_5) (hrc t0 t1 t2 t3 (w64 (x139.1+1)) s0.2.1 (w64 (s0.2.2.1-1)) x139.2 m1_0 m1_1 m1_2 m1_3 m1_4 m1_5) fun x143 hx143=>?_;conv=>arg 3;whnf
          exact Ze (ih _)
       ·conv=>arg 3;whnf
        refine Zal rfl ?_;conv=>arg 3;whnf
        refine Zal rfl ?_;conv=>arg 3;whnf
        refine Zf rfl ?_ ?_<;>conv=>arg 3;whnf
        ·refine Zf rfl ?_ ?_<;>conv=>arg 3;whnf
         ·refine Zc (Za t0 t1 t2 t3 s0.1 x139.1 (w64 (s0.2.2.1-1)) x139.2 m1_0 m1_1 m1_2 m1_3 m1_4 m1_5) (hrc t0 t1 t2 t3 s0.1 x139.1 (w64 (s0.2.2.1-1)) x139.2 m1_0 m1_1 m1_2 m1_3 m1_4 m1_5) fun x144 hx144=>?_;conv=>arg 3;whnf
          exact Ze (ih _)
         ·refine Zc (Za t0 t1 t2 t3 s0.1 x139.1 (w64 (s0.2.2.1-1)) x139.2 m1_0 m1_1 m1_2 m1_3 m1_4 m1_5) (hrc t0 t1 t2 t3 s0.1 x139.1 (w64 (s0.2.2.1-1)) x139.2 m1_0 m1_1 m1_2 m1_3 m1_4 m1_5) fun x145 hx145=>?_;conv=>arg 3;whnf
          exact Ze (ih _)
        ·refine Zf rfl ?_ ?_<;>conv=>arg 3;whnf
         ·refine Zc (Za t0 t1 t2 t3 (w64 (x139.1+1)) s0.2.1 (w64 (s0.2.2.1-1)) x139.2 m1_0 m1_1 m1_2 m1_3 m1_4 m1_5) (hrc t0 t1 t2 t3 (w64 (x139.1+1)) s0.2.1 (w64 (s0.2.2.1-1)) x139.2 m1_0 m1_1 m1_2 m1_3 m1_4 m1_5) fun x146 hx146=>?_;conv=>arg 3;whnf
          exact Ze (ih _)
         ·refine Zc (Za t0 t1 t2 t3 (w64 (x139.1+1)) s0.2.1 (w64 (s0.2.2.1-1)) x139.2 m1_0 m1_1 m1_2 m1_3 m1_4 m1_5) (hrc t0 t1 t2 t3 (w64 (x139.1+1)) s0.2.1 (w64 (s0.2.2.1-1)) x139.2 m1_0 m1_1 m1_2 m1_3 m1_4 m1_5) fun x147 hx147=>?_;conv=>arg 3;whnf
          exact Ze (ih _)
     ·refine Zf rfl ?_ ?_<;>conv=>arg 3;whnf
      ·refine Zl rfl rfl fun x148 hx148=>?_;conv=>arg 3;whnf
       refine Zg (Zy rfl hx148) ?_;conv=>arg 3;whnf
       refine Zl rfl rfl fun x149 hx149=>?_;conv=>arg 3;whnf
       refine Zg (Zy rfl hx149) ?_;conv=>arg 3;whnf
       refine Zp _ ZG rfl fun x150 hx150=>?_;conv=>arg 3;whnf
       refine Zf rfl ?_ ?_<;>conv=>arg 3;whnf
       ·refine Zc _ Zk fun x151 hx151=>?_
        clear hx151
        rcases x151 with x151 | x151
        ·conv=>arg 3;whnf
         refine ZbH rfl ?_;conv=>arg 3;whnf
         refine Zal rfl ?_;conv=>arg 3;whnf
         refine Zf rfl ?_ ?_<;>conv=>arg 3;whnf
         ·refine Zf rfl ?_ ?_<;>conv=>arg 3;whnf
          ·refine Zc (Za t0 t1 t2 t3 s0.1 x151.1 (w64 (s0.2.2.1-1)) x151.2 m1_0 m1_1 m1_2 m1_3 m1_4 m1_5) (hrc t0 t1 t2 t3 s0.1 x151.1 (w64 (s0.2.2.1-1)) x151.2 m1_0 m1_1 m1_2 m1_3 m1_4 m1_5) fun x152 hx152=>?_;conv=>arg 3;whnf
           exact Ze (ih _)
          ·refine Zc (Za t0 t1 t2 t3 s0.1 x151.1 (w64 (s0.2.2.1-1)) x151.2 m1_0 m1_1 m1_2 m1_3 m1_4 m1_5) (hrc t0 t1 t2 t3 s0.1 x151.1 (w64 (s0.2.2.1-1)) x151.2 m1_0 m1_1 m1_2 m1_3 m1_4 m1_5) fun x153 hx153=>?_;conv=>arg 3;whnf
           exact Ze (ih _)
         ·refine Zf rfl ?_ ?_<;>conv=>arg 3;whnf
          ·refine Zc (Za t0 t1 t2 t3 (w64 (x151.1+1)) s0.2.1 (w64 (s0.2.2.1-1)) x151.2 m1_0 m1_1 m1_2 m1_3 m1_4 m1_5) (hrc t0 t1 t2 t3 (w64 (x151.1+1)) s0.2.1 (w64 (s0.2.2.1-1)) x151.2 m1_0 m1_1 m1_2 m1_3 m1_4 m1_5) fun x154 hx154=>?_;conv=>arg 3;whnf
           exact Ze (ih _)
          ·refine Zc (Za t0 t1 t2 t3 (w64 (x151.1+1)) s0.2.1 (w64 (s0.2.2.1-1)) x151.2 m1_0 m1_1 m1_2 m1_3 m1_4 m1_5) (hrc t0 t1 t2 t3 (w64 (x151.1+1)) s0.2.1 (w64 (s0.2.2.1-1)) x151.2 m1_0 m1_1 m1_2 m1_3 m1_4 m1_5) fun x155 hx155=>?_;conv=>arg 3;whnf
           exact Ze (ih _)
        ·conv=>arg 3;whnf
         refine Zal rfl ?_;conv=>arg 3;whnf
         refine Zal rfl ?_;conv=>arg 3;whnf
         refine Zf rfl ?_ ?_<;>conv=>arg 3;whnf
         ·refine Zf rfl ?_ ?_<;>conv=>arg 3;whnf
          ·refine Zc (Za t0 t1 t2 t3 s0.1 x151.1 (w64 (s0.2.2.1-1)) x151.2 m1_0 m1_1 m1_2 m1_3 m1_4 m1_5) (hrc t0 t1 t2 t3 s0.1 x151.1 (w64 (s0.2.2.1-1)) x151.2 m1_0 m1_1 m1_2 m1_3 m1_4 m1_5) fun x156 hx156=>?_;conv=>arg 3;whnf
           exact Ze (ih _)
          ·refine Zc (Za t0 t1 t2 t3 s0.1 x151.1 (w64 (s0.2.2.1-1)) x151.2 m1_0 m1_1 m1_2 m1_3 m1_4 m1_5) (hrc t0 t1 t2 t3 s0.1 x151.1 (w64 (s0.2.2.1-1)) x151.2 m1_0 m1_1 m1_2 m1_3 m1_4 m1_5) fun x157 hx157=>?_;conv=>arg 3;whnf
           exact Ze (ih _)
         ·refine Zf rfl ?_ ?_<;>conv=>arg 3;whnf
          ·refine Zc (Za t0 t1 t2 t3 (w64 (x151.1+1)) s0.2.1 (w64 (s0.2.2.1-1)) x151.2 m1_0 m1_1 m1_2 m1_3 m1_4 m1_5) (hrc t0 t1 t2 t3 (w64 (x151.1+1)) s0.2.1 (w64 (s0.2.2.1-1)) x151.2 m1_0 m1_1 m1_2 m1_3 m1_4 m1_5) fun x158 hx158=>?_;conv=>arg 3;whnf
           exact Ze (ih _)
          ·refine Zc (Za t0 t1 t2 t3 (w64 (x151.1+1)) s0.2.1 (w64 (s0.2.2.1-1)) x151.2 m1_0 m1_1 m1_2 m1_3 m1_4 m1_5) (hrc t0 t1 t2 t3 (w64 (x151.1+1)) s0.2.1 (w64 (s0.2.2.1-1)) x151.2 m1_0 m1_1 m1_2 m1_3 m1_4 m1_5) fun x159 hx159=>?_;conv=>arg 3;whnf
           exact Ze (ih _)
       ·refine Zc _ Zz fun x160 hx160=>?_;conv=>arg 3;whnf
        exact Ze (ih _)
      ·refine Zc _ Zk fun x161 hx161=>?_
       clear hx161
       rcases x161 with x161 | x161
       ·conv=>arg 3;whnf
        refine ZbH rfl ?_;conv=>arg 3;whnf
        refine Zal rfl ?_;conv=>arg 3;whnf
        refine Zf rfl ?_ ?_<;>conv=>arg 3;whnf
        ·refine Zf rfl ?_ ?_<;>conv=>arg 3;whnf
         ·refine Zc (Za t0 t1 t2 t3 s0.1 x161.1 (w64 (s0.2.2.1-1)) x161.2 m1_0 m1_1 m1_2 m1_3 m1_4 m1_5) (hrc t0 t1 t2 t3 s0.1 x161.1 (w64 (s0.2.2.1-1)) x161.2 m1_0 m1_1 m1_2 m1_3 m1_4 m1_5) fun x162 hx162=>?_;conv=>arg 3;whnf
          exact Ze (ih _)
         ·refine Zc (Za t0 t1 t2 t3 s0.1 x161.1 (w64 (s0.2.2.1-1)) x161.2 m1_0 m1_1 m1_2 m1_3 m1_4 m1_5) (hrc t0 t1 t2 t3 s0.1 x161.1 (w64 (s0.2.2.1-1)) x161.2 m1_0 m1_1 m1_2 m1_3 m1_4 m1_5) fun x163 hx163=>?_;conv=>arg 3;whnf
          exact Ze (ih _)
        ·refine Zf rfl ?_ ?_<;>conv=>arg 3;whnf
         ·refine Zc (Za t0 t1 t2 t3 (w64 (x161.1+1)) s0.2.1 (w64 (s0.2.2.1-1)) x161.2 m1_0 m1_1 m1_2 m1_3 m1_4 m1_5) (hrc t0 t1 t2 t3 (w64 (x161.1+1)) s0.2.1 (w64 (s0.2.2.1-1)) x161.2 m1_0 m1_1 m1_2 m1_3 m1_4 m1_5) fun x164 hx164=>?_;conv=>arg 3;whnf
          exact Ze (ih _)
         ·refine Zc (Za t0 t1 t2 t3 (w64 (x161.1+1)) s0.2.1 (w64 (s0.2.2.1-1)) x161.2 m1_0 m1_1 m1_2 m1_3 m1_4 m1_5) (hrc t0 t1 t2 t3 (w64 (x161.1+1)) s0.2.1 (w64 (s0.2.2.1-1)) x161.2 m1_0 m1_1 m1_2 m1_3 m1_4 m1_5) fun x165 hx165=>?_;conv=>arg 3;whnf
          exact Ze (ih _)
       ·conv=>arg 3;whnf
        refine Zal rfl ?_;conv=>arg 3;whnf
        refine Zal rfl ?_;conv=>arg 3;whnf
        refine Zf rfl ?_ ?_<;>conv=>arg 3;whnf
        ·refine Zf rfl ?_ ?_<;>conv=>arg 3;whnf
         ·refine Zc (Za t0 t1 t2 t3 s0.1 x161.1 (w64 (s0.2.2.1-1)) x161.2 m1_0 m1_1 m1_2 m1_3 m1_4 m1_5) (hrc t0 t1 t2 t3 s0.1 x161.1 (w64 (s0.2.2.1-1)) x161.2 m1_0 m1_1 m1_2 m1_3 m1_4 m1_5) fun x166 hx166=>?_;conv=>arg 3;whnf
          exact Ze (ih _)
         ·refine Zc (Za t0 t1 t2 t3 s0.1 x161.1 (w64 (s0.2.2.1-1)) x161.2 m1_0 m1_1 m1_2 m1_3 m1_4 m1_5) (hrc t0 t1 t2 t3 s0.1 x161.1 (w64 (s0.2.2.1-1)) x161.2 m1_0 m1_1 m1_2 m1_3 m1_4 m1_5) fun x167 hx167=>?_;conv=>arg 3;whnf
          exact Ze (ih _)
        ·refine Zf rfl ?_ ?_<;>conv=>arg 3;whnf
         ·refine Zc (Za t0 t1 t2 t3 (w64 (x161.1+1)) s0.2.1 (w64 (s0.2.2.1-1)) x161.2 m1_0 m1_1 m1_2 m1_3 m1_4 m1_5) (hrc t0 t1 t2 t3 (w64 (x161.1+1)) s0.2.1 (w64 (s0.2.2.1-1)) x161.2 m1_0 m1_1 m1_2 m1_3 m1_4 m1_5) fun x168 hx168=>?_;conv=>arg 3;whnf
          exact Ze (ih _)
         ·refine Zc (Za t0 t1 t2 t3 (w64 (x161.1+1)) s0.2.1 (w64 (s0.2.2.1-1)) x161.2 m1_0 m1_1 m1_2 m1_3 m1_4 m1_5) (hrc t0 t1 t2 t3 (w64 (x161.1+1)) s0.2.1 (w64 (s0.2.2.1-1)) x161.2 m1_0 m1_1 m1_2 m1_3 m1_4 m1_5) fun x169 hx169=>?_;conv=>arg 3;whnf
          exact Ze (ih _)
 ·refine ZtZ ?_
  rcases hb:s0.2.2.2.2.1 with _ | _
  ·refine ZuD ?_;conv=>arg 3;whnf
   refine Zf rfl ?_ ?_<;>conv=>arg 3;whnf
   ·refine Zc _ Zaa fun x73 hx73=>?_;conv=>arg 3;whnf
    exact Zd rfl
   ·refine Zf rfl ?_ ?_<;>conv=>arg 3;whnf
    ·refine Zc _ Zaq fun x74 hx74=>?_;conv=>arg 3;whnf
     exact Zd rfl
    ·refine Zc _ Zah fun x75 hx75=>?_;conv=>arg 3;whnf
     refine Zf rfl ?_ ?_<;>conv=>arg 3;whnf
     ·refine Zc _ Zag fun x76 hx76=>?_;conv=>arg 3;whnf
      refine Zf rfl ?_ ?_<;>conv=>arg 3;whnf
      ·refine Zl rfl rfl fun x77 hx77=>?_;conv=>arg 3;whnf
       refine Zg (Zy rfl hx77) ?_;conv=>arg 3;whnf
       refine Zl rfl rfl fun x78 hx78=>?_;conv=>arg 3;whnf
       refine Zg (Zy rfl hx78) ?_;conv=>arg 3;whnf
       refine Zp _ ZG rfl fun x79 hx79=>?_;conv=>arg 3;whnf
       refine Zf rfl ?_ ?_<;>conv=>arg 3;whnf
       ·refine Zc _ Zk fun x80 hx80=>?_
        clear hx80
        rcases x80 with x80 | x80
        ·conv=>arg 3;whnf
         refine ZbH rfl ?_;conv=>arg 3;whnf
         refine Zal rfl ?_;conv=>arg 3;whnf
         refine Zf rfl ?_ ?_<;>conv=>arg 3;whnf
         ·refine Zf rfl ?_ ?_<;>conv=>arg 3;whnf
          ·refine Zc (Za t0 t1 t2 t3 s0.1 x80.1 s0.2.2.1 x80.2 m1_0 m1_1 m1_2 m1_3 m1_4 m1_5) (hrc t0 t1 t2 t3 s0.1 x80.1 s0.2.2.1 x80.2 m1_0 m1_1 m1_2 m1_3 m1_4 m1_5) fun x81 hx81=>?_;conv=>arg 3;whnf
           exact Ze (ih _)
          ·refine Zc (Za t0 t1 t2 t3 s0.1 x80.1 s0.2.2.1 x80.2 m1_0 m1_1 m1_2 m1_3 m1_4 m1_5) (hrc t0 t1 t2 t3 s0.1 x80.1 s0.2.2.1 x80.2 m1_0 m1_1 m1_2 m1_3 m1_4 m1_5) fun x82 hx82=>?_;conv=>arg 3;whnf
           exact Ze (ih _)
         ·refine Zf rfl ?_ ?_<;>conv=>arg 3;whnf
          ·refine Zc (Za t0 t1 t2 t3 (w64 (x80.1+1)) s0.2.1 s0.2.2.1 x80.2 m1_0 m1_1 m1_2 m1_3 m1_4 m1_5) (hrc t0 t1 t2 t3 (w64 (x80.1+1)) s0.2.1 s0.2.2.1 x80.2 m1_0 m1_1 m1_2 m1_3 m1_4 m1_5) fun x83 hx83=>?_;conv=>arg 3;whnf
           exact Ze (ih _)
          ·refine Zc (Za t0 t1 t2 t3 (w64 (x80.1+1)) s0.2.1 s0.2.2.1 x80.2 m1_0 m1_1 m1_2 m1_3 m1_4 m1_5) (hrc t0 t1 t2 t3 (w64 (x80.1+1)) s0.2.1 s0.2.2.1 x80.2 m1_0 m1_1 m1_2 m1_3 m1_4 m1_5) fun x84 hx84=>?_;conv=>arg 3;whnf
           exact Ze (ih _)
        ·conv=>arg 3;whnf
         refine Zal rfl ?_;conv=>arg 3;whnf
         refine Zal rfl ?_;conv=>arg 3;whnf
         refine Zf rfl ?_ ?_<;>conv=>arg 3;whnf
         ·refine Zf rfl ?_ ?_<;>conv=>arg 3;whnf
          ·refine Zc (Za t0 t1 t2 t3 s0.1 x80.1 s0.2.2.1 x80.2 m1_0 m1_1 m1_2 m1_3 m1_4 m1_5) (hrc t0 t1 t2 t3 s0.1 x80.1 s0.2.2.1 x80.2 m1_0 m1_1 m1_2 m1_3 m1_4 m1_5) fun x85 hx85=>?_;conv=>arg 3;whnf
           exact Ze (ih _)
          ·refine Zc (Za t0 t1 t2 t3 s0.1 x80.1 s0.2.2.1 x80.2 m1_0 m1_1 m1_2 m1_3 m1_4 m1_5) (hrc t0 t1 t2 t3 s0.1 x80.1 s0.2.2.1 x80.2 m1_0 m1_1 m1_2 m1_3 m1_4 m1_5) fun x86 hx86=>?_;conv=>arg 3;whnf
           exact Ze (ih _)
         ·refine Zf rfl ?_ ?_<;>conv=>arg 3;whnf
          ·refine Zc (Za t0 t1 t2 t3 (w64 (x80.1+1)) s0.2.1 s0.2.2.1 x80.2 m1_0 m1_1 m1_2 m1_3 m1_4 m1_5) (hrc t0 t1 t2 t3 (w64 (x80.1+1)) s0.2.1 s0.2.2.1 x80.2 m1_0 m1_1 m1_2 m1_3 m1_4 m1_5) fun x87 hx87=>?_;conv=>arg 3;whnf
           exact Ze (ih _)
          ·refine Zc (Za t0 t1 t2 t3 (w64 (x80.1+1)) s0.2.1 s0.2.2.1 x80.2 m1_0 m1_1 m1_2 m1_3 m1_4 m1_5) (hrc t0 t1 t2 t3 (w64 (x80.1+1)) s0.2.1 s0.2.2.1 x80.2 m1_0 m1_1 m1_2 m1_3 m1_4 m1_5) fun x88 hx88=>?_;conv=>arg 3;whnf
           exact Ze (ih _)
       ·refine Zc _ Zz fun x89 hx89=>?_;conv=>arg 3;whnf
        exact Ze (ih _)
      ·refine Zc _ Zk fun x90 hx90=>?_
       clear hx90
       rcases x90 with x90 | x90
       ·conv=>arg 3;whnf
        refine ZbH rfl ?_;conv=>arg 3;whnf
        refine Zal rfl ?_;conv=>arg 3;whnf
        refine Zf rfl ?_ ?_<;>conv=>arg 3;whnf
        ·refine Zf rfl ?_ ?_<;>conv=>arg 3;whnf
         ·refine Zc (Za t0 t1 t2 t3 s0.1 x90.1 s0.2.2.1 x90.2 m1_0 m1_1 m1_2 m1_3 m1_4 m1_5) (hrc t0 t1 t2 t3 s0.1 x90.1 s0.2.2.1 x90.2 m1_0 m1_1 m1_2 m1_3 m1_4 m1_5) fun x91 hx91=>?_;conv=>arg 3;whnf
          exact Ze (ih _)
         ·refine Zc (Za t0 t1 t2 t3 s0.1 x90.1 s0.2.2.1 x90.2 m1_0 m1_1 m1_2 m1_3 m1_4 m1_5) (hrc t0 t1 t2 t3 s0.1 x90.1 s0.2.2.1 x90.2 m1_0 m1_1 m1_2 m1_3 m1_4 m1_5) fun x92 hx92=>?_;conv=>arg 3;whnf
          exact Ze (ih _)
        ·refine Zf rfl ?_ ?_<;>conv=>arg 3;whnf
         ·refine Zc (Za t0 t1 t2 t3 (w64 (x90.1+1)) s0.2.1 s0.2.2.1 x90.2 m1_0 m1_1 m1_2 m1_3 m1_4 m1_5) (hrc t0 t1 t2 t3 (w64 (x90.1+1)) s0.2.1 s0.2.2.1 x90.2 m1_0 m1_1 m1_2 m1_3 m1_4 m1_5) fun x93 hx93=>?_;conv=>arg 3;whnf
          exact Ze (ih _)
         ·refine Zc (Za t0 t1 t2 t3 (w64 (x90.1+1)) s0.2.1 s0.2.2.1 x90.2 m1_0 m1_1 m1_2 m1_3 m1_4 m1_5) (hrc t0 t1 t2 t3 (w64 (x90.1+1)) s0.2.1 s0.2.2.1 x90.2 m1_0 m1_1 m1_2 m1_3 m1_4 m1_5) fun x94 hx94=>?_;conv=>arg 3;whnf
          exact Ze (ih _)
       ·conv=>arg 3;whnf
        refine Zal rfl ?_;conv=>arg 3;whnf
        refine Zal rfl ?_;conv=>arg 3;whnf
        refine Zf rfl ?_ ?_<;>conv=>arg 3;whnf
        ·refine Zf rfl ?_ ?_<;>conv=>arg 3;whnf
         ·refine Zc (Za t0 t1 t2 t3 s0.1 x90.1 s0.2.2.1 x90.2 m1_0 m1_1 m1_2 m1_3 m1_4 m1_5) (hrc t0 t1 t2 t3 s0.1 x90.1 s0.2.2.1 x90.2 m1_0 m1_1 m1_2 m1_3 m1_4 m1_5) fun x95 hx95=>?_;conv=>arg 3;whnf
          exact Ze (ih _)
         ·refine Zc (Za t0 t1 t2 t3 s0.1 x90.1 s0.2.2.1 x90.2 m1_0 m1_1 m1_2 m1_3 m1_4 m1_5) (hrc t0 t1 t2 t3 s0.1 x90.1 s0.2.2.1 x90.2 m1_0 m1_1 m1_2 m1_3 m1_4 m1_5) fun x96 hx96=>?_;conv=>arg 3;whnf
          exact Ze (ih _)
        ·refine Zf rfl ?_ ?_<;>conv=>arg 3;whnf
         ·refine Zc (Za t0 t1 t2 t3 (w64 (x90.1+1)) s0.2.1 s0.2.2.1 x90.2 m1_0 m1_1 m1_2 m1_3 m1_4 m1_5) (hrc t0 t1 t2 t3 (w64 (x90.1+1)) s0.2.1 s0.2.2.1 x90.2 m1_0 m1_1 m1_2 m1_3 m1_4 m1_5) fun x97 hx97=>?_;conv=>arg 3;whnf
          exact Ze (ih _)
         ·refine Zc (Za t0 t1 t2 t3 (w64 (x90.1+1)) s0.2.1 s0.2.2.1 x90.2 m1_0 m1_1 m1_2 m1_3 m1_4 m1_5) (hrc t0 t1 t2 t3 (w64 (x90.1+1)) s0.2.1 s0.2.2.1 x90.2 m1_0 m1_1 m1_2 m1_3 m1_4 m1_5) fun x98 hx98=>?_;conv=>arg 3;whnf
          exact Ze (ih _)
     ·refine Zf rfl ?_ ?_<;>conv=>arg 3;whnf
      ·refine Zl rfl rfl fun x99 hx99=>?_;conv=>arg 3;whnf
       refine Zg (Zy rfl hx99) ?_;conv=>arg 3;whnf
       refine Zl rfl rfl fun x100 hx100=>?_;conv=>arg 3;whnf
       refine Zg (Zy rfl hx100) ?_;conv=>arg 3;whnf
       refine Zp _ ZG rfl fun x101 hx101=>?_;conv=>arg 3;whnf
       refine Zf rfl ?_ ?_<;>conv=>arg 3;whnf
       ·refine Zc _ Zk fun x102 hx102=>?_
        clear hx102
        rcases x102 with x102 | x102
        ·conv=>arg 3;whnf
         refine ZbH rfl ?_;conv=>arg 3;whnf
         refine Zal rfl ?_;conv=>arg 3;whnf
         refine Zf rfl ?_ ?_<;>conv=>arg 3;whnf
         ·refine Zf rfl ?_ ?_<;>conv=>arg 3;whnf
          ·refine Zc (Za t0 t1 t2 t3 s0.1 x102.1 s0.2.2.1 x102.2 m1_0 m1_1 m1_2 m1_3 m1_4 m1_5) (hrc t0 t1 t2 t3 s0.1 x102.1 s0.2.2.1 x102.2 m1_0 m1_1 m1_2 m1_3 m1_4 m1_5) fun x103 hx103=>?_;conv=>arg 3;whnf
           exact Ze (ih _)
          ·refine Zc (Za t0 t1 t2 t3 s0.1 x102.1 s0.2.2.1 x102.2 m1_0 m1_1 m1_2 m1_3 m1_4 m1_5) (hrc t0 t1 t2 t3 s0.1 x102.1 s0.2.2.1 x102.2 m1_0 m1_1 m1_2 m1_3 m1_4 m1_5) fun x104 hx104=>?_;conv=>arg 3;whnf
           exact Ze (ih _)
         ·refine Zf rfl ?_ ?_<;>conv=>arg 3;whnf
          ·refine Zc (Za t0 t1 t2 t3 (w64 (x102.1+1)) s0.2.1 s0.2.2.1 x102.2 m1_0 m1_1 m1_2 m1_3 m1_4 m1_5) (hrc t0 t1 t2 t3 (w64 (x102.1+1)) s0.2.1 s0.2.2.1 x102.2 m1_0 m1_1 m1_2 m1_3 m1_4 m1_5) fun x105 hx105=>?_;conv=>arg 3;whnf
           exact Ze (ih _)
          ·refine Zc (Za t0 t1 t2 t3 (w64 (x102.1+1)) s0.2.1 s0.2.2.1 x102.2 m1_0 m1_1 m1_2 m1_3 m1_4 m1_5) (hrc t0 t1 t2 t3 (w64 (x102.1+1)) s0.2.1 s0.2.2.1 x102.2 m1_0 m1_1 m1_2 m1_3 m1_4 m1_5) fun x106 hx106=>?_;conv=>arg 3;whnf
           exact Ze (ih _)
        ·conv=>arg 3;whnf
         refine Zal rfl ?_;conv=>arg 3;whnf
         refine Zal rfl ?_;conv=>arg 3;whnf
         refine Zf rfl ?_ ?_<;>conv=>arg 3;whnf
         ·refine Zf rfl ?_ ?_<;>conv=>arg 3;whnf
          ·refine Zc (Za t0 t1 t2 t3 s0.1 x102.1 s0.2.2.1 x102.2 m1_0 m1_1 m1_2 m1_3 m1_4 m1_5) (hrc t0 t1 t2 t3 s0.1 x102.1 s0.2.2.1 x102.2 m1_0 m1_1 m1_2 m1_3 m1_4 m1_5) fun x107 hx107=>?_;conv=>arg 3;whnf
           exact Ze (ih _)
          ·refine Zc (Za t0 t1 t2 t3 s0.1 x102.1 s0.2.2.1 x102.2 m1_0 m1_1 m1_2 m1_3 m1_4 m1_5) (hrc t0 t1 t2 t3 s0.1 x102.1 s0.2.2.1 x102.2 m1_0 m1_1 m1_2 m1_3 m1_4 m1_5) fun x108 hx108=>?_;conv=>arg 3;whnf
           exact Ze (ih _)
         ·refine Zf rfl ?_ ?_<;>conv=>arg 3;whnf
          ·refine Zc (Za t0 t1 t2 t3 (w64 (x102.1+1)) s0.2.1 s0.2.2.1 x102.2 m1_0 m1_1 m1_2 m1_3 m1_4 m1_5) (hrc t0 t1 t2 t3 (w64 (x102.1+1)) s0.2.1 s0.2.2.1 x102.2 m1_0 m1_1 m1_2 m1_3 m1_4 m1_5) fun x109 hx109=>?_;conv=>arg 3;whnf
           exact Ze (ih _)
          ·refine Zc (Za t0 t1 t2 t3 (w64 (x102.1+1)) s0.2.1 s0.2.2.1 x102.2 m1_0 m1_1 m1_2 m1_3 m1_4 m1_5) (hrc t0 t1 t2 t3 (w64 (x102.1+1)) s0.2.1 s0.2.2.1 x102.2 m1_0 m1_1 m1_2 m1_3 m1_4 m1_5) fun x110 hx110=>?_;conv=>arg 3;whnf
           exact Ze (ih _)
       ·refine Zc _ Zz fun x111 hx111=>?_;conv=>arg 3;whnf
        exact Ze (ih _)
      ·refine Zc _ Zk fun x112 hx112=>?_
       clear hx112
       rcases x112 with x112 | x112
       ·conv=>arg 3;whnf
        refine ZbH rfl ?_;conv=>arg 3;whnf
        refine Zal rfl ?_;conv=>arg 3;whnf
        refine Zf rfl ?_ ?_<;>conv=>arg 3;whnf
        ·refine Zf rfl ?_ ?_<;>conv=>arg 3;whnf
         ·refine Zc (Za t0 t1 t2 t3 s0.1 x112.1 s0.2.2.1 x112.2 m1_0 m1_1 m1_2 m1_3 m1_4 m1_5) (hrc t0 t1 t2 t3 s0.1 x112.1 s0.2.2.1 x112.2 m1_0 m1_1 m1_2 m1_3 m1_4 m1_5) fun x113 hx113=>?_;conv=>arg 3;whnf
          exact Ze (ih _)
         ·refine Zc (Za t0 t1 t2 t3 s0.1 x112.1 s0.2.2.1 x112.2 m1_0 m1_1 m1_2 m1_3 m1_4 m1_5) (hrc t0 t1 t2 t3 s0.1 x112.1 s0.2.2.1 x112.2 m1_0 m1_1 m1_2 m1_3 m1_4 m1_5) fun x114 hx114=>?_;conv=>arg 3;whnf
          exact Ze (ih _)
        ·refine Zf rfl ?_ ?_<;>conv=>arg 3;whnf
         ·refine Zc (Za t0 t1 t2 t3 (w64 (x112.1+1)) s0.2.1 s0.2.2.1 x112.2 m1_0 m1_1 m1_2 m1_3 m1_4 m1_5) (hrc t0 t1 t2 t3 (w64 (x112.1+1)) s0.2.1 s0.2.2.1 x112.2 m1_0 m1_1 m1_2 m1_3 m1_4 m1_5) fun x115 hx115=>?_;conv=>arg 3;whnf
          exact Ze (ih _)
         ·refine Zc (Za t0 t1 t2 t3 (w64 (x112.1+1)) s0.2.1 s0.2.2.1 x112.2 m1_0 m1_1 m1_2 m1_3 m1_4 m1_5) (hrc t0 t1 t2 t3 (w64 (x112.1+1)) s0.2.1 s0.2.2.1 x112.2 m1_0 m1_1 m1_2 m1_3 m1_4 m1_5) fun x116 hx116=>?_;conv=>arg 3;whnf
          exact Ze (ih _)
       ·conv=>arg 3;whnf
        refine Zal rfl ?_;conv=>arg 3;whnf
        refine Zal rfl ?_;conv=>arg 3;whnf
        refine Zf rfl ?_ ?_<;>conv=>arg 3;whnf
        ·refine Zf rfl ?_ ?_<;>conv=>arg 3;whnf
         ·refine Zc (Za t0 t1 t2 t3 s0.1 x112.1 s0.2.2.1 x112.2 m1_0 m1_1 m1_2 m1_3 m1_4 m1_5) (hrc t0 t1 t2 t3 s0.1 x112.1 s0.2.2.1 x112.2 m1_0 m1_1 m1_2 m1_3 m1_4 m1_5) fun x117 hx117=>?_;conv=>arg 3;whnf
          exact Ze (ih _)
         ·refine Zc (Za t0 t1 t2 t3 s0.1 x112.1 s0.2.2.1 x112.2 m1_0 m1_1 m1_2 m1_3 m1_4 m1_5) (hrc t0 t1 t2 t3 s0.1 x112.1 s0.2.2.1 x112.2 m1_0 m1_1 m1_2 m1_3 m1_4 m1_5) fun x118 hx118=>?_;conv=>arg 3;whnf
          exact Ze (ih _)
        ·refine Zf rfl ?_ ?_<;>conv=>arg 3;whnf
         ·refine Zc (Za t0 t1 t2 t3 (w64 (x112.1+1)) s0.2.1 s0.2.2.1 x112.2 m1_0 m1_1 m1_2 m1_3 m1_4 m1_5) (hrc t0 t1 t2 t3 (w64 (x112.1+1)) s0.2.1 s0.2.2.1 x112.2 m1_0 m1_1 m1_2 m1_3 m1_4 m1_5) fun x119 hx119=>?_;conv=>arg 3;whnf
          exact Ze (ih _)
         ·refine Zc (Za t0 t1 t2 t3 (w64 (x112.1+1)) s0.2.1 s0.2.2.1 x112.2 m1_0 m1_1 m1_2 m1_3 m1_4 m1_5) (hrc t0 t1 t2 t3 (w64 (x112.1+1)) s0.2.1 s0.2.2.1 x112.2 m1_0 m1_1 m1_2 m1_3 m1_4 m1_5) fun x120 hx120=>?_;conv=>arg 3;whnf
          exact Ze (ih _)
  ·refine ZtZ ?_;conv=>arg 3;whnf
   refine Zf rfl ?_ ?_<;>conv=>arg 3;whnf
   ·refine Zc _ Zaa fun x1 hx1=>?_;conv=>arg 3;whnf
    exact Zd rfl
   ·refine Zf rfl ?_ ?_<;>conv=>arg 3;whnf
    ·refine Zc _ Zaq fun x2 hx2=>?_;conv=>arg 3;whnf
     exact Zd rfl
    ·refine Zc _ Zah fun x3 hx3=>?_;conv=>arg 3;whnf
     refine Zf rfl ?_ ?_<;>conv=>arg 3;whnf
     ·refine Zc _ Zag fun x4 hx4=>?_;conv=>arg 3;whnf
      refine ZbH rfl ?_;conv=>arg 3;whnf
      refine Zc _ Zbc fun x5 hx5=>?_
      clear hx5
      rcases x5 with x5 | x5
      ·conv=>arg 3;whnf
       exact Zd rfl
      ·conv=>arg 3;whnf
       refine Zf rfl ?_ ?_<;>conv=>arg 3;whnf
       ·refine Zl rfl rfl fun x6 hx6=>?_;conv=>arg 3;whnf
        refine Zg (Zy rfl hx6) ?_;conv=>arg 3;whnf
        refine Zl rfl rfl fun x7 hx7=>?_;conv=>arg 3;whnf
        refine Zg (Zy rfl hx7) ?_;conv=>arg 3;whnf
        refine Zp _ ZG rfl fun x8 hx8=>?_;conv=>arg 3;whnf
        refine Zf rfl ?_ ?_<;>conv=>arg 3;whnf
        ·refine Zc _ Zk fun x9 hx9=>?_
         clear hx9
         rcases x9 with x9 | x9
         ·conv=>arg 3;whnf
          refine ZbH rfl ?_;conv=>arg 3;whnf
          refine Zal rfl ?_;conv=>arg 3;whnf
          refine Zf rfl ?_ ?_<;>conv=>arg 3;whnf
          ·refine Zf rfl ?_ ?_<;>conv=>arg 3;whnf
           ·refine Zc (Za t0 t1 t2 t3 s0.1 x9.1 s0.2.2.1 x9.2 m1_0 m1_1 m1_2 m1_3 m1_4 m1_5) (hrc t0 t1 t2 t3 s0.1 x9.1 s0.2.2.1 x9.2 m1_0 m1_1 m1_2 m1_3 m1_4 m1_5) fun x10 hx10=>?_;conv=>arg 3;whnf
            exact Ze (ih _)
           ·refine Zc (Za t0 t1 t2 t3 s0.1 x9.1 s0.2.2.1 x9.2 m1_0 m1_1 m1_2 m1_3 m1_4 m1_5) (hrc t0 t1 t2 t3 s0.1 x9.1 s0.2.2.1 x9.2 m1_0 m1_1 m1_2 m1_3 m1_4 m1_5) fun x11 hx11=>?_;conv=>arg 3;whnf
            exact Ze (ih _)
          ·refine Zf rfl ?_ ?_<;>conv=>arg 3;whnf
           ·refine Zc (Za t0 t1 t2 t3 (w64 (x9.1+1)) s0.2.1 s0.2.2.1 x9.2 m1_0 m1_1 m1_2 m1_3 m1_4 m1_5) (hrc t0 t1 t2 t3 (w64 (x9.1+1)) s0.2.1 s0.2.2.1 x9.2 m1_0 m1_1 m1_2 m1_3 m1_4 m1_5) fun x12 hx12=>?_;conv=>arg 3;whnf
            exact Ze (ih _)
           ·refine Zc (Za t0 t1 t2 t3 (w64 (x9.1+1)) s0.2.1 s0.2.2.1 x9.2 m1_0 m1_1 m1_2 m1_3 m1_4 m1_5) (hrc t0 t1 t2 t3 (w64 (x9.1+1)) s0.2.1 s0.2.2.1 x9.2 m1_0 m1_1 m1_2 m1_3 m1_4 m1_5) fun x13 hx13=>?_;conv=>arg 3;whnf
            exact Ze (ih _)
         ·conv=>arg 3;whnf
          refine Zal rfl ?_;conv=>arg 3;whnf
          refine Zal rfl ?_;conv=>arg 3;whnf
          refine Zf rfl ?_ ?_<;>conv=>arg 3;whnf
          ·refine Zf rfl ?_ ?_<;>conv=>arg 3;whnf
           ·refine Zc (Za t0 t1 t2 t3 s0.1 x9.1 s0.2.2.1 x9.2 m1_0 m1_1 m1_2 m1_3 m1_4 m1_5) (hrc t0 t1 t2 t3 s0.1 x9.1 s0.2.2.1 x9.2 m1_0 m1_1 m1_2 m1_3 m1_4 m1_5) fun x14 hx14=>?_;conv=>arg 3;whnf
            exact Ze (ih _)
           ·refine Zc (Za t0 t1 t2 t3 s0.1 x9.1 s0.2.2.1 x9.2 m1_0 m1_1 m1_2 m1_3 m1_4 m1_5) (hrc t0 t1 t2 t3 s0.1 x9.1 s0.2.2.1 x9.2 m1_0 m1_1 m1_2 m1_3 m1_4 m1_5) fun x15 hx15=>?_;conv=>arg 3;whnf
            exact Ze (ih _)
          ·refine Zf rfl ?_ ?_<;>conv=>arg 3;whnf
           ·refine Zc (Za t0 t1 t2 t3 (w64 (x9.1+1)) s0.2.1 s0.2.2.1 x9.2 m1_0 m1_1 m1_2 m1_3 m1_4 m1_5) (hrc t0 t1 t2 t3 (w64 (x9.1+1)) s0.2.1 s0.2.2.1 x9.2 m1_0 m1_1 m1_2 m1_3 m1_4 m1_5) fun x16 hx16=>?_;conv=>arg 3;whnf
            exact Ze (ih _)
           ·refine Zc (Za t0 t1 t2 t3 (w64 (x9.1+1)) s0.2.1 s0.2.2.1 x9.2 m1_0 m1_1 m1_2 m1_3 m1_4 m1_5) (hrc t0 t1 t2 t3 (w64 (x9.1+1)) s0.2.1 s0.2.2.1 x9.2 m1_0 m1_1 m1_2 m1_3 m1_4 m1_5) fun x17 hx17=>?_;conv=>arg 3;whnf
            exact Ze (ih _)
        ·refine Zc _ Zz fun x18 hx18=>?_;conv=>arg 3;whnf
         exact Ze (ih _)
       ·refine Zc _ Zk fun x19 hx19=>?_
        clear hx19
        rcases x19 with x19 | x19
        ·conv=>arg 3;whnf
         refine ZbH rfl ?_;conv=>arg 3;whnf
         refine Zal rfl ?_;conv=>arg 3;whnf
         refine Zf rfl ?_ ?_<;>conv=>arg 3;whnf
         ·refine Zf rfl ?_ ?_<;>conv=>arg 3;whnf
          ·refine Zc (Za t0 t1 t2 t3 s0.1 x19.1 s0.2.2.1 x19.2 m1_0 m1_1 m1_2 m1_3 m1_4 m1_5) (hrc t0 t1 t2 t3 s0.1 x19.1 s0.2.2.1 x19.2 m1_0 m1_1 m1_2 m1_3 m1_4 m1_5) fun x20 hx20=>?_;conv=>arg 3;whnf
           exact Ze (ih _)
          ·refine Zc (Za t0 t1 t2 t3 s0.1 x19.1 s0.2.2.1 x19.2 m1_0 m1_1 m1_2 m1_3 m1_4 m1_5) (hrc t0 t1 t2 t3 s0.1 x19.1 s0.2.2.1 x19.2 m1_0 m1_1 m1_2 m1_3 m1_4 m1_5) fun x21 hx21=>?_;conv=>arg 3;whnf
           exact Ze (ih _)
         ·refine Zf rfl ?_ ?_<;>conv=>arg 3;whnf
          ·refine Zc (Za t0 t1 t2 t3 (w64 (x19.1+1)) s0.2.1 s0.2.2.1 x19.2 m1_0 m1_1 m1_2 m1_3 m1_4 m1_5) (hrc t0 t1 t2 t3 (w64 (x19.1+1)) s0.2.1 s0.2.2.1 x19.2 m1_0 m1_1 m1_2 m1_3 m1_4 m1_5) fun x22 hx22=>?_;conv=>arg 3;whnf
           exact Ze (ih _)
          ·refine Zc (Za t0 t1 t2 t3 (w64 (x19.1+1)) s0.2.1 s0.2.2.1 x19.2 m1_0 m1_1 m1_2 m1_3 m1_4 m1_5) (hrc t0 t1 t2 t3 (w64 (x19.1+1)) s0.2.1 s0.2.2.1 x19.2 m1_0 m1_1 m1_2 m1_3 m1_4 m1_5) fun x23 hx23=>?_;conv=>arg 3;whnf
           exact Ze (ih _)
        ·conv=>arg 3;whnf
         refine Zal rfl ?_;conv=>arg 3;whnf
         refine Zal rfl ?_;conv=>arg 3;whnf
         refine Zf rfl ?_ ?_<;>conv=>arg 3;whnf
         ·refine Zf rfl ?_ ?_<;>conv=>arg 3;whnf
          ·refine Zc (Za t0 t1 t2 t3 s0.1 x19.1 s0.2.2.1 x19.2 m1_0 m1_1 m1_2 m1_3 m1_4 m1_5) (hrc t0 t1 t2 t3 s0.1 x19.1 s0.2.2.1 x19.2 m1_0 m1_1 m1_2 m1_3 m1_4 m1_5) fun x24 hx24=>?_;conv=>arg 3;whnf
           exact Ze (ih _)
          ·refine Zc (Za t0 t1 t2 t3 s0.1 x19.1 s0.2.2.1 x19.2 m1_0 m1_1 m1_2 m1_3 m1_4 m1_5) (hrc t0 t1 t2 t3 s0.1 x19.1 s0.2.2.1 x19.2 m1_0 m1_1 m1_2 m1_3 m1_4 m1_5) fun x25 hx25=>?_;conv=>arg 3;whnf
           exact Ze (ih _)
         ·refine Zf rfl ?_ ?_<;>conv=>arg 3;whnf
          ·refine Zc (Za t0 t1 t2 t3 (w64 (x19.1+1)) s0.2.1 s0.2.2.1 x19.2 m1_0 m1_1 m1_2 m1_3 m1_4 m1_5) (hrc t0 t1 t2 t3 (w64 (x19.1+1)) s0.2.1 s0.2.2.1 x19.2 m1_0 m1_1 m1_2 m1_3 m1_4 m1_5) fun x26 hx26=>?_;conv=>arg 3;whnf
           exact Ze (ih _)
          ·refine Zc (Za t0 t1 t2 t3 (w64 (x19.1+1)) s0.2.1 s0.2.2.1 x19.2 m1_0 m1_1 m1_2 m1_3 m1_4 m1_5) (hrc t0 t1 t2 t3 (w64 (x19.1+1)) s0.2.1 s0.2.2.1 x19.2 m1_0 m1_1 m1_2 m1_3 m1_4 m1_5) fun x27 hx27=>?_;conv=>arg 3;whnf
           exact Ze (ih _)
     ·refine Zf rfl ?_ ?_<;>conv=>arg 3;whnf
      ·refine Zc _ Zbc fun x28 hx28=>?_
       clear hx28
       rcases x28 with x28 | x28
       ·conv=>arg 3;whnf
        exact Zd rfl
       ·conv=>arg 3;whnf
        refine Zf rfl ?_ ?_<;>conv=>arg 3;whnf
        ·refine Zl rfl rfl fun x29 hx29=>?_;conv=>arg 3;whnf
         refine Zg (Zy rfl hx29) ?_;conv=>arg 3;whnf
         refine Zl rfl rfl fun x30 hx30=>?_;conv=>arg 3;whnf
         refine Zg (Zy rfl hx30) ?_;conv=>arg 3;whnf
         refine Zp _ ZG rfl fun x31 hx31=>?_;conv=>arg 3;whnf
         refine Zf rfl ?_ ?_<;>conv=>arg 3;whnf
         ·refine Zc _ Zk fun x32 hx32=>?_
          clear hx32
          rcases x32 with x32 | x32
          ·conv=>arg 3;whnf
           refine ZbH rfl ?_;conv=>arg 3;whnf
           refine Zal rfl ?_;conv=>arg 3;whnf
           refine Zf rfl ?_ ?_<;>conv=>arg 3;whnf
           ·refine Zf rfl ?_ ?_<;>conv=>arg 3;whnf
            ·refine Zc (Za t0 t1 t2 t3 s0.1 x32.1 s0.2.2.1 x32.2 m1_0 m1_1 m1_2 m1_3 m1_4 m1_5) (hrc t0 t1 t2 t3 s0.1 x32.1 s0.2.2.1 x32.2 m1_0 m1_1 m1_2 m1_3 m1_4 m1_5) fun x33 hx33=>?_;conv=>arg 3;whnf
             exact Ze (ih _)
            ·refine Zc (Za t0 t1 t2 t3 s0.1 x32.1 s0.2.2.1 x32.2 m1_0 m1_1 m1_2 m1_3 m1_4 m1_5) (hrc t0 t1 t2 t3 s0.1 x32.1 s0.2.2.1 x32.2 m1_0 m1_1 m1_2 m1_3 m1_4 m1_5) fun x34 hx34=>?_;conv=>arg 3;whnf
             exact Ze (ih _)
           ·refine Zf rfl ?_ ?_<;>conv=>arg 3;whnf
            ·refine Zc (Za t0 t1 t2 t3 (w64 (x32.1+1)) s0.2.1 s0.2.2.1 x32.2 m1_0 m1_1 m1_2 m1_3 m1_4 m1_5) (hrc t0 t1 t2 t3 (w64 (x32.1+1)) s0.2.1 s0.2.2.1 x32.2 m1_0 m1_1 m1_2 m1_3 m1_4 m1_5) fun x35 hx35=>?_;conv=>arg 3;whnf
             exact Ze (ih _)
            ·refine Zc (Za t0 t1 t2 t3 (w64 (x32.1+1)) s0.2.1 s0.2.2.1 x32.2 m1_0 m1_1 m1_2 m1_3 m1_4 m1_5) (hrc t0 t1 t2 t3 (w64 (x32.1+1)) s0.2.1 s0.2.2.1 x32.2 m1_0 m1_1 m1_2 m1_3 m1_4 m1_5) fun x36 hx36=>?_;conv=>arg 3;whnf
             exact Ze (ih _)
          ·conv=>arg 3;whnf
           refine Zal rfl ?_;conv=>arg 3;whnf
           refine Zal rfl ?_;conv=>arg 3;whnf
           refine Zf rfl ?_ ?_<;>conv=>arg 3;whnf
           ·refine Zf rfl ?_ ?_<;>conv=>arg 3;whnf
            ·refine Zc (Za t0 t1 t2 t3 s0.1 x32.1 s0.2.2.1 x32.2 m1_0 m1_1 m1_2 m1_3 m1_4 m1_5) (hrc t0 t1 t2 t3 s0.1 x32.1 s0.2.2.1 x32.2 m1_0 m1_1 m1_2 m1_3 m1_4 m1_5) fun x37 hx37=>?_;conv=>arg 3;whnf
             exact Ze (ih _)
            ·refine Zc (Za t0 t1 t2 t3 s0.1 x32.1 s0.2.2.1 x32.2 m1_0 m1_1 m1_2 m1_3 m1_4 m1_5) (hrc t0 t1 t2 t3 s0.1 x32.1 s0.2.2.1 x32.2 m1_0 m1_1 m1_2 m1_3 m1_4 m1_5) fun x38 hx38=>?_;conv=>arg 3;whnf
             exact Ze (ih _)
           ·refine Zf rfl ?_ ?_<;>conv=>arg 3;whnf
            ·refine Zc (Za t0 t1 t2 t3 (w64 (x32.1+1)) s0.2.1 s0.2.2.1 x32.2 m1_0 m1_1 m1_2 m1_3 m1_4 m1_5) (hrc t0 t1 t2 t3 (w64 (x32.1+1)) s0.2.1 s0.2.2.1 x32.2 m1_0 m1_1 m1_2 m1_3 m1_4 m1_5) fun x39 hx39=>?_;conv=>arg 3;whnf
             exact Ze (ih _)
            ·refine Zc (Za t0 t1 t2 t3 (w64 (x32.1+1)) s0.2.1 s0.2.2.1 x32.2 m1_0 m1_1 m1_2 m1_3 m1_4 m1_5) (hrc t0 t1 t2 t3 (w64 (x32.1+1)) s0.2.1 s0.2.2.1 x32.2 m1_0 m1_1 m1_2 m1_3 m1_4 m1_5) fun x40 hx40=>?_;conv=>arg 3;whnf
             exact Ze (ih _)
         ·refine Zc _ Zz fun x41 hx41=>?_;conv=>arg 3;whnf
          exact Ze (ih _)
        ·refine Zc _ Zk fun x42 hx42=>?_
         clear hx42
         rcases x42 with x42 | x42
         ·conv=>arg 3;whnf
          refine ZbH rfl ?_;conv=>arg 3;whnf
          refine Zal rfl ?_;conv=>arg 3;whnf
          refine Zf rfl ?_ ?_<;>conv=>arg 3;whnf
          ·refine Zf rfl ?_ ?_<;>conv=>arg 3;whnf
           ·refine Zc (Za t0 t1 t2 t3 s0.1 x42.1 s0.2.2.1 x42.2 m1_0 m1_1 m1_2 m1_3 m1_4 m1_5) (hrc t0 t1 t2 t3 s0.1 x42.1 s0.2.2.1 x42.2 m1_0 m1_1 m1_2 m1_3 m1_4 m1_5) fun x43 hx43=>?_;conv=>arg 3;whnf
            exact Ze (ih _)
           ·refine Zc (Za t0 t1 t2 t3 s0.1 x42.1 s0.2.2.1 x42.2 m1_0 m1_1 m1_2 m1_3 m1_4 m1_5) (hrc t0 t1 t2 t3 s0.1 x42.1 s0.2.2.1 x42.2 m1_0 m1_1 m1_2 m1_3 m1_4 m1_5) fun x44 hx44=>?_;conv=>arg 3;whnf
            exact Ze (ih _)
          ·refine Zf rfl ?_ ?_<;>conv=>arg 3;whnf
           ·refine Zc (Za t0 t1 t2 t3 (w64 (x42.1+1)) s0.2.1 s0.2.2.1 x42.2 m1_0 m1_1 m1_2 m1_3 m1_4 m1_5) (hrc t0 t1 t2 t3 (w64 (x42.1+1)) s0.2.1 s0.2.2.1 x42.2 m1_0 m1_1 m1_2 m1_3 m1_4 m1_5) fun x45 hx45=>?_;conv=>arg 3;whnf
            exact Ze (ih _)
           ·refine Zc (Za t0 t1 t2 t3 (w64 (x42.1+1)) s0.2.1 s0.2.2.1 x42.2 m1_0 m1_1 m1_2 m1_3 m1_4 m1_5) (hrc t0 t1 t2 t3 (w64 (x42.1+1)) s0.2.1 s0.2.2.1 x42.2 m1_0 m1_1 m1_2 m1_3 m1_4 m1_5) fun x46 hx46=>?_;conv=>arg 3;whnf
            exact Ze (ih _)
         ·conv=>arg 3;whnf
          refine Zal rfl ?_;conv=>arg 3;whnf
          refine Zal rfl ?_;conv=>arg 3;whnf
          refine Zf rfl ?_ ?_<;>conv=>arg 3;whnf
          ·refine Zf rfl ?_ ?_<;>conv=>arg 3;whnf
           ·refine Zc (Za t0 t1 t2 t3 s0.1 x42.1 s0.2.2.1 x42.2 m1_0 m1_1 m1_2 m1_3 m1_4 m1_5) (hrc t0 t1 t2 t3 s0.1 x42.1 s0.2.2.1 x42.2 m1_0 m1_1 m1_2 m1_3 m1_4 m1_5) fun x47 hx47=>?_;conv=>arg 3;whnf
            exact Ze (ih _)
           ·refine Zc (Za t0 t1 t2 t3 s0.1 x42.1 s0.2.2.1 x42.2 m1_0 m1_1 m1_2 m1_3 m1_4 m1_5) (hrc t0 t1 t2 t3 s0.1 x42.1 s0.2.2.1 x42.2 m1_0 m1_1 m1_2 m1_3 m1_4 m1_5) fun x48 hx48=>?_;conv=>arg 3;whnf
            exact Ze (ih _)
          ·refine Zf rfl ?_ ?_<;>conv=>arg 3;whnf
           ·refine Zc (Za t0 t1 t2 t3 (w64 (x42.1+1)) s0.2.1 s0.2.2.1 x42.2 m1_0 m1_1 m1_2 m1_3 m1_4 m1_5) (hrc t0 t1 t2 t3 (w64 (x42.1+1)) s0.2.1 s0.2.2.1 x42.2 m1_0 m1_1 m1_2 m1_3 m1_4 m1_5) fun x49 hx49=>?_;conv=>arg 3;whnf
            exact Ze (ih _)
           ·refine Zc (Za t0 t1 t2 t3 (w64 (x42.1+1)) s0.2.1 s0.2.2.1 x42.2 m1_0 m1_1 m1_2 m1_3 m1_4 m1_5) (hrc t0 t1 t2 t3 (w64 (x42.1+1)) s0.2.1 s0.2.2.1 x42.2 m1_0 m1_1 m1_2 m1_3 m1_4 m1_5) fun x50 hx50=>?_;conv=>arg 3;whnf
            exact Ze (ih _)
      ·refine Zf rfl ?_ ?_<;>conv=>arg 3;whnf
       ·refine Zl rfl rfl fun x51 hx51=>?_;conv=>arg 3;whnf
        refine Zg (Zy rfl hx51) ?_;conv=>arg 3;whnf
        refine Zl rfl rfl fun x52 hx52=>?_;conv=>arg 3;whnf
        refine Zg (Zy rfl hx52) ?_;conv=>arg 3;whnf
        refine Zp _ ZG rfl fun x53 hx53=>?_;conv=>arg 3;whnf
        refine Zf rfl ?_ ?_<;>conv=>arg 3;whnf
        ·refine Zc _ Zk fun x54 hx54=>?_
         clear hx54
         rcases x54 with x54 | x54
         ·conv=>arg 3;whnf
          refine ZbH rfl ?_;conv=>arg 3;whnf
          refine Zal rfl ?_;conv=>arg 3;whnf
          refine Zf rfl ?_ ?_<;>conv=>arg 3;whnf
          ·refine Zf rfl ?_ ?_<;>conv=>arg 3;whnf
           ·refine Zc (Za t0 t1 t2 t3 s0.1 x54.1 s0.2.2.1 x54.2 m1_0 m1_1 m1_2 m1_3 m1_4 m1_5) (hrc t0 t1 t2 t3 s0.1 x54.1 s0.2.2.1 x54.2 m1_0 m1_1 m1_2 m1_3 m1_4 m1_5) fun x55 hx55=>?_;conv=>arg 3;whnf
            exact Ze (ih _)
           ·refine Zc (Za t0 t1 t2 t3 s0.1 x54.1 s0.2.2.1 x54.2 m1_0 m1_1 m1_2 m1_3 m1_4 m1_5) (hrc t0 t1 t2 t3 s0.1 x54.1 s0.2.2.1 x54.2 m1_0 m1_1 m1_2 m1_3 m1_4 m1_5) fun x56 hx56=>?_;conv=>arg 3;whnf
            exact Ze (ih _)
          ·refine Zf rfl ?_ ?_<;>conv=>arg 3;whnf
           ·refine Zc (Za t0 t1 t2 t3 (w64 (x54.1+1)) s0.2.1 s0.2.2.1 x54.2 m1_0 m1_1 m1_2 m1_3 m1_4 m1_5) (hrc t0 t1 t2 t3 (w64 (x54.1+1)) s0.2.1 s0.2.2.1 x54.2 m1_0 m1_1 m1_2 m1_3 m1_4 m1_5) fun x57 hx57=>?_;conv=>arg 3;whnf
            exact Ze (ih _)
           ·refine Zc (Za t0 t1 t2 t3 (w64 (x54.1+1)) s0.2.1 s0.2.2.1 x54.2 m1_0 m1_1 m1_2 m1_3 m1_4 m1_5) (hrc t0 t1 t2 t3 (w64 (x54.1+1)) s0.2.1 s0.2.2.1 x54.2 m1_0 m1_1 m1_2 m1_3 m1_4 m1_5) fun x58 hx58=>?_;conv=>arg 3;whnf
            exact Ze (ih _)
         ·conv=>arg 3;whnf
          refine Zal rfl ?_;conv=>arg 3;whnf
          refine Zal rfl ?_;conv=>arg 3;whnf
          refine Zf rfl ?_ ?_<;>conv=>arg 3;whnf
          ·refine Zf rfl ?_ ?_<;>conv=>arg 3;whnf
           ·refine Zc (Za t0 t1 t2 t3 s0.1 x54.1 s0.2.2.1 x54.2 m1_0 m1_1 m1_2 m1_3 m1_4 m1_5) (hrc t0 t1 t2 t3 s0.1 x54.1 s0.2.2.1 x54.2 m1_0 m1_1 m1_2 m1_3 m1_4 m1_5) fun x59 hx59=>?_;conv=>arg 3;whnf
            exact Ze (ih _)
           ·refine Zc (Za t0 t1 t2 t3 s0.1 x54.1 s0.2.2.1 x54.2 m1_0 m1_1 m1_2 m1_3 m1_4 m1_5) (hrc t0 t1 t2 t3 s0.1 x54.1 s0.2.2.1 x54.2 m1_0 m1_1 m1_2 m1_3 m1_4 m1_5) fun x60 hx60=>?_;conv=>arg 3;whnf
            exact Ze (ih _)
          ·refine Zf rfl ?_ ?_<;>conv=>arg 3;whnf
           ·refine Zc (Za t0 t1 t2 t3 (w64 (x54.1+1)) s0.2.1 s0.2.2.1 x54.2 m1_0 m1_1 m1_2 m1_3 m1_4 m1_5) (hrc t0 t1 t2 t3 (w64 (x54.1+1)) s0.2.1 s0.2.2.1 x54.2 m1_0 m1_1 m1_2 m1_3 m1_4 m1_5) fun x61 hx61=>?_;conv=>arg 3;whnf
            exact Ze (ih _)
           ·refine Zc (Za t0 t1 t2 t3 (w64 (x54.1+1)) s0.2.1 s0.2.2.1 x54.2 m1_0 m1_1 m1_2 m1_3 m1_4 m1_5) (hrc t0 t1 t2 t3 (w64 (x54.1+1)) s0.2.1 s0.2.2.1 x54.2 m1_0 m1_1 m1_2 m1_3 m1_4 m1_5) fun x62 hx62=>?_;conv=>arg 3;whnf
            exact Ze (ih _)
        ·refine Zc _ Zz fun x63 hx63=>?_;conv=>arg 3;whnf
         exact Ze (ih _)
       ·refine Zc _ Zk fun x64 hx64=>?_
        clear hx64
        rcases x64 with x64 | x64
        ·conv=>arg 3;whnf
         refine ZbH rfl ?_;conv=>arg 3;whnf
         refine Zal rfl ?_;conv=>arg 3;whnf
         refine Zf rfl ?_ ?_<;>conv=>arg 3;whnf
         ·refine Zf rfl ?_ ?_<;>conv=>arg 3;whnf
          ·refine Zc (Za t0 t1 t2 t3 s0.1 x64.1 s0.2.2.1 x64.2 m1_0 m1_1 m1_2 m1_3 m1_4 m1_5) (hrc t0 t1 t2 t3 s0.1 x64.1 s0.2.2.1 x64.2 m1_0 m1_1 m1_2 m1_3 m1_4 m1_5) fun x65 hx65=>?_;conv=>arg 3;whnf
           exact Ze (ih _)
          ·refine Zc (Za t0 t1 t2 t3 s0.1 x64.1 s0.2.2.1 x64.2 m1_0 m1_1 m1_2 m1_3 m1_4 m1_5) (hrc t0 t1 t2 t3 s0.1 x64.1 s0.2.2.1 x64.2 m1_0 m1_1 m1_2 m1_3 m1_4 m1_5) fun x66 hx66=>?_;conv=>arg 3;whnf
           exact Ze (ih _)
         ·refine Zf rfl ?_ ?_<;>conv=>arg 3;whnf
          ·refine Zc (Za t0 t1 t2 t3 (w64 (x64.1+1)) s0.2.1 s0.2.2.1 x64.2 m1_0 m1_1 m1_2 m1_3 m1_4 m1_5) (hrc t0 t1 t2 t3 (w64 (x64.1+1)) s0.2.1 s0.2.2.1 x64.2 m1_0 m1_1 m1_2 m1_3 m1_4 m1_5) fun x67 hx67=>?_;conv=>arg 3;whnf
           exact Ze (ih _)
          ·refine Zc (Za t0 t1 t2 t3 (w64 (x64.1+1)) s0.2.1 s0.2.2.1 x64.2 m1_0 m1_1 m1_2 m1_3 m1_4 m1_5) (hrc t0 t1 t2 t3 (w64 (x64.1+1)) s0.2.1 s0.2.2.1 x64.2 m1_0 m1_1 m1_2 m1_3 m1_4 m1_5) fun x68 hx68=>?_;conv=>arg 3;whnf
           exact Ze (ih _)
        ·conv=>arg 3;whnf
         refine Zal rfl ?_;conv=>arg 3;whnf
         refine Zal rfl ?_;conv=>arg 3;whnf
         refine Zf rfl ?_ ?_<;>conv=>arg 3;whnf
         ·refine Zf rfl ?_ ?_<;>conv=>arg 3;whnf
          ·refine Zc (Za t0 t1 t2 t3 s0.1 x64.1 s0.2.2.1 x64.2 m1_0 m1_1 m1_2 m1_3 m1_4 m1_5) (hrc t0 t1 t2 t3 s0.1 x64.1 s0.2.2.1 x64.2 m1_0 m1_1 m1_2 m1_3 m1_4 m1_5) fun x69 hx69=>?_;conv=>arg 3;whnf
           exact Ze (ih _)
          ·refine Zc (Za t0 t1 t2 t3 s0.1 x64.1 s0.2.2.1 x64.2 m1_0 m1_1 m1_2 m1_3 m1_4 m1_5) (hrc t0 t1 t2 t3 s0.1 x64.1 s0.2.2.1 x64.2 m1_0 m1_1 m1_2 m1_3 m1_4 m1_5) fun x70 hx70=>?_;conv=>arg 3;whnf
           exact Ze (ih _)
         ·refine Zf rfl ?_ ?_<;>conv=>arg 3;whnf
          ·refine Zc (Za t0 t1 t2 t3 (w64 (x64.1+1)) s0.2.1 s0.2.2.1 x64.2 m1_0 m1_1 m1_2 m1_3 m1_4 m1_5) (hrc t0 t1 t2 t3 (w64 (x64.1+1)) s0.2.1 s0.2.2.1 x64.2 m1_0 m1_1 m1_2 m1_3 m1_4 m1_5) fun x71 hx71=>?_;conv=>arg 3;whnf
           exact Ze (ih _)
          ·refine Zc (Za t0 t1 t2 t3 (w64 (x64.1+1)) s0.2.1 s0.2.2.1 x64.2 m1_0 m1_1 m1_2 m1_3 m1_4 m1_5) (hrc t0 t1 t2 t3 (w64 (x64.1+1)) s0.2.1 s0.2.2.1 x64.2 m1_0 m1_1 m1_2 m1_3 m1_4 m1_5) fun x72 hx72=>?_;conv=>arg 3;whnf
           exact Ze (ih _)
theorem Zd3 (rc:Int→Int→Int→(Int→Int→Option Int)→(List Int)→Option (List Int)) (hrc:∀(t0:Bool) (t1:Bool) (t2:Bool) (t3:Bool) (b:Int) (c:Int) (d:Int) (m0_0:(List Int)) (m1_0:Int) (m1_1:Int) (m1_2:(List ZV)) (m1_3:(List Zm)) (m1_4:(List Zj)) (m1_5:(List Zr)) (r:(List Int)),rc b c d (fun z0 z1=>Zt z0 z1 m1_4) m0_0=some r→evW ctx 124 [(.sl 0 1),(.d (Zb b)),(.d (Zb c)),(.d (Zb d)),(.fn 118 [(.ptr 1 0)])] [(.arr 1 (List.map Zb m0_0)),(.cells [(.d (Zb m1_0)),(.d (Zb m1_1)),(.d (D.list t0 (List.map Z1 m1_2))),(.d (D.list t1 (List.map ZF m1_3))),(.d (D.list t2 (List.map Zq m1_4))),(.d (D.list t3 (List.map Zv m1_5)))])]=some ((Za t0 t1 t2 t3 b c d m0_0 m1_0 m1_1 m1_2 m1_3 m1_4 m1_5) r)) (t0:Bool) (t1:Bool) (t2:Bool) (t3:Bool) (b:Int) (c:Int) (d:Int) (m0_0:(List Int)) (m1_0:Int) (m1_1:Int) (m1_2:(List ZV)) (m1_3:(List Zm)) (m1_4:(List Zj)) (m1_5:(List Zr)):∀r,(Zas rc b c d (fun z0 z1=>Zt z0 z1 m1_4) m0_0)=some r→evW ctx 124 [(.sl 0 1),(.d (Zb b)),(.d (Zb c)),(.d (Zb d)),(.fn 118 [(.ptr 1 0)])] [(.arr 1 (List.map Zb m0_0)),(.cells [(.d (Zb m1_0)),(.d (Zb m1_1)),(.d (D.list t0 (List.map Z1 m1_2))),(.d (D.list t1 (List.map ZF m1_3))),(.d (D.list t2 (List.map Zq m1_4))),(.d (D.list t3 (List.map Zv m1_5)))])]=some ((Za t0 t1 t2 t3 b c d m0_0 m1_0 m1_1 m1_2 m1_3 m1_4 m1_5) r):=by
 show ZO _ (fun r rhs=>rhs=some ((Za t0 t1 t2 t3 b c d m0_0 m1_0 m1_1 m1_2 m1_3 m1_4 m1_5) r)) _
 unfold Zas
 rw[ZfE ctx 124 Zy0 _ _ rfl rfl]
 conv=>arg 3;whnf
 refine Zc _ (ZdW hrc _) fun r219 hr219=>?_;conv=>arg 3;whnf
 exact Zd rfl
theorem ZbZ:∀(n:Nat) (t0:Bool) (t1:Bool) (t2:Bool) (t3:Bool) (b:Int) (c:Int) (d:Int) (m0_0:(List Int)) (m1_0:Int) (m1_1:Int) (m1_2:(List ZV)) (m1_3:(List Zm)) (m1_4:(List Zj)) (m1_5:(List Zr)) (r:(List Int)),ZZ n b c d (fun z0 z1=>Zt z0 z1 m1_4) m0_0=some r→evW ctx 124 [(.sl 0 1),(.d (Zb b)),(.d (Zb c)),(.d (Zb d)),(.fn 118 [(.ptr 1 0)])] [(.arr 1 (List.map Zb m0_0)),(.cells [(.d (Zb m1_0)),(.d (Zb m1_1)),(.d (D.list t0 (List.map Z1 m1_2))),(.d (D.list t1 (List.map ZF m1_3))),(.d (D.list t2 (List.map Zq m1_4))),(.d (D.list t3 (List.map Zv m1_5)))])]=some ((Za t0 t1 t2 t3 b c d m0_0 m1_0 m1_1 m1_2 m1_3 m1_4 m1_5) r)
  | 0,t0,t1,t2,t3,b,c,d,m0_0,m1_0,m1_1,m1_2,m1_3,m1_4,m1_5,r,h=>by cases h
  | n+1,t0,t1,t2,t3,b,c,d,m0_0,m1_0,m1_1,m1_2,m1_3,m1_4,m1_5,r,h=>Zd3 (ZZ n) (ZbZ n) t0 t1 t2 t3 b c d m0_0 m1_0 m1_1 m1_2 m1_3 m1_4 m1_5 r h
theorem Zeq {t0:Bool}{t1:Bool}{t2:Bool}{t3:Bool}{b:Int}{c:Int}{d:Int}{m0_0:(List Int)}{m1_0:Int}{m1_1:Int}{m1_2:(List ZV)}{m1_3:(List Zm)}{m1_4:(List Zj)}{m1_5:(List Zr)}:∀r,Zdt b c d (fun z0 z1=>Zt z0 z1 m1_4) m0_0=some r→evW ctx 124 [(.sl 0 1),(.d (Zb b)),(.d (Zb c)),(.d (Zb d)),(.fn 118 [(.ptr 1 0)])] [(.arr 1 (List.map Zb m0_0)),(.cells [(.d (Zb m1_0)),(.d (Zb m1_1)),(.d (D.list t0 (List.map Z1 m1_2))),(.d (D.list t1 (List.map ZF m1_3))),(.d (D.list t2 (List.map Zq m1_4))),(.d (D.list t3 (List.map Zv m1_5)))])]=some ((Za t0 t1 t2 t3 b c d m0_0 m1_0 m1_1 m1_2 m1_3 m1_4 m1_5) r):=fun r h=>by
  obtain⟨n,hn⟩:=Zz0 h
  exact ZbZ n t0 t1 t2 t3 b c d m0_0 m1_0 m1_1 m1_2 m1_3 m1_4 m1_5 r hn
def Zci (t0:Bool) (t1:Bool) (t2:Bool) (t3:Bool) (m0_0:(List Int)) (m1_0:Int) (m1_1:Int) (m1_2:(List ZV)) (m1_3:(List Zm)) (m1_4:(List Zj)) (m1_5:(List Zr)):(List Int)→V×Zo
  | r=>((.d (D.tup [])),[(.arr 1 (List.map Zb r)),(.cells [(.d (Zb m1_0)),(.d (Zb m1_1)),(.d (D.list t0 (List.map Z1 m1_2))),(.d (D.list t1 (List.map ZF m1_3))),(.d (D.list t2 (List.map Zq m1_4))),(.d (D.list t3 (List.map Zv m1_5)))])])
theorem Zep {t0:Bool}{t1:Bool}{t2:Bool}{t3:Bool}{m0_0:(List Int)}{m1_0:Int}{m1_1:Int}{m1_2:(List ZV)}{m1_3:(List Zm)}{m1_4:(List Zj)}{m1_5:(List Zr)}:∀r,(ZaK (fun z0 z1=>Zt z0 z1 m1_4) m0_0)=some r→evW ctx 117 [(.sl 0 1),(.fn 118 [(.ptr 1 0)])] [(.arr 1 (List.map Zb m0_0)),(.cells [(.d (Zb m1_0)),(.d (Zb m1_1)),(.d (D.list t0 (List.map Z1 m1_2))),(.d (D.list t1 (List.map ZF m1_3))),(.d (D.list t2 (List.map Zq m1_4))),(.d (D.list t3 (List.map Zv m1_5)))])]=some ((Zci t0 t1 t2 t3 m0_0 m1_0 m1_1 m1_2 m1_3 m1_4 m1_5) r):=by
 show ZO _ (fun r rhs=>rhs=some ((Zci t0 t1 t2 t3 m0_0 m1_0 m1_1 m1_2 m1_3 m1_4 m1_5) r)) _
 unfold ZaK
 rw[ZfE ctx 117 ZwC _ _ rfl rfl]
 conv=>arg 3;whnf
 refine Zn (ZI _ _) ?_;conv=>arg 3;whnf
 refine Zp _ Zh7 rfl fun x0 hx0=>?_;conv=>arg 3;whnf
 refine Zc _ Zeq fun x1 hx1=>?_;conv=>arg 3;whnf
 exact Zd rfl
def ZiX (r:(List Int)):D:=(D.list true (List.map Zb r))
def Zhl (t0:Bool) (t1:Bool) (t2:Bool) (t3:Bool) (a:Zh) (b:Int):(List Int)→Ex×List V×Zo
  | r=>(.exit 0,[(.ptr 0 0),(.sl 1 1)],[(.cells (dV t0 t1 t2 t3 a)),(.arr 1 (List.map Zb r))])
theorem ZkG {t0:Bool}{t1:Bool}{t2:Bool}{t3:Bool}{a:Zh}{b:Int}:∀(s1:Int×(List Int)) (r:(List Int)),lp (Zda a b) s1=some r→lpW ctx 0 [1,2,5,12,13,14] [2,5] ZvO [(.d (Zb b)),(.ptr 0 0),(.sl 1 1),(.d (D.list t2 (List.map Zq a.futures))),(.d (Zb (a.futures.length:Int))),(.d (Zb s1.1))] [(.cells (dV t0 t1 t2 t3 a)),(.arr 1 (List.map Zb s1.2))]=some ((Zhl t0 t1 t2 t3 a b) r):=by
 refine ZaM (Zhl t0 t1 t2 t3 a b) ?_
 intro s1 rcl ih
 show ZO _ _ (lpW _ _ _ _ _ _ _)
 unfold Zda
 rw[ZaN]
 conv=>arg 3;whnf
 refine Zf rfl ?_ ?_<;>conv=>arg 3;whnf
 ·refine Zl rfl rfl fun x2 hx2=>?_;conv=>arg 3;whnf
  refine Zf rfl ?_ ?_<;>conv=>arg 3;whnf
  ·refine ZbH rfl ?_;conv=>arg 3;whnf
   refine Zf (Zgn Zb s1.2 1) ?_ ?_
   ·conv=>arg 3;whnf
    refine Zn (Zgj Zb s1.2 [s1.1]) ?_;conv=>arg 3;whnf
    exact Ze (ih _)
   ·exact Z5
  ·exact Ze (ih _)
 ·exact Zd rfl
theorem Zix {t0:Bool}{t1:Bool}{t2:Bool}{t3:Bool}{a:Zh}{b:Int}:∀r,(Zcy a b)=some r→evD ctx 101 [(.d (D.agg (dA t0 t1 t2 t3 a))),(.d (Zb b))]=some (ZiX r):=by
 show ZO _ (fun r rhs=>rhs=some (ZiX r)) _
 unfold Zcy
 rw[ZaY ctx 101 Zxe _ rfl rfl]
 conv=>arg 3;whnf
 refine Zp _ ZfY rfl fun x0 hx0=>?_;conv=>arg 3;whnf
 refine Zf rfl ?_ ?_<;>conv=>arg 3;whnf
 ·exact Zd rfl
 ·refine Zn (ZI _ _) ?_;conv=>arg 3;whnf
  refine Zc _ (ZkG _) fun r3 hr3=>?_;conv=>arg 3;whnf
  refine Zc _ Zep fun x4 hx4=>?_;conv=>arg 3;whnf
  exact Zd rfl
def Zk1 (r:(List Int)):D:=(D.list true (List.map Zb r))
def Zis (t0:Bool) (t1:Bool) (t2:Bool) (t3:Bool) (a:Zh) (b:Int):(List Int)→Ex×List V×Zo
  | r=>(.exit 0,[(.d (Zb b)),(.ptr 0 0),(.sl 1 1)],[(.cells (dV t0 t1 t2 t3 a)),(.arr 1 (List.map Zb r))])
theorem ZlY {t0:Bool}{t1:Bool}{t2:Bool}{t3:Bool}{a:Zh}{b:Int}:∀(s1:Int×(List Int)) (r:(List Int)),lp (ZfW a b) s1=some r→lpW ctx 0 [1,2,5,14,15,16] [1,2,5] ZxU [(.d (Zb b)),(.ptr 0 0),(.sl 1 1),(.d (D.list t1 (List.map ZF a.edges))),(.d (Zb (a.edges.length:Int))),(.d (Zb s1.1))] [(.cells (dV t0 t1 t2 t3 a)),(.arr 1 (List.map Zb s1.2))]=some ((Zis t0 t1 t2 t3 a b) r):=by
 refine ZaM (Zis t0 t1 t2 t3 a b) ?_
 intro s1 rcl ih
 show ZO _ _ (lpW _ _ _ _ _ _ _)
 unfold ZfW
 rw[ZaN]
 conv=>arg 3;whnf
 refine Zf rfl ?_ ?_<;>conv=>arg 3;whnf
 ·refine Zl rfl rfl fun x2 hx2=>?_;conv=>arg 3;whnf
  refine Zf rfl ?_ ?_<;>conv=>arg 3;whnf
  ·refine ZbH rfl ?_;conv=>arg 3;whnf
   refine Zf (Zgn Zb s1.2 1) ?_ ?_
   ·conv=>arg 3;whnf
    refine Zn (Zgj Zb s1.2 [x2.src]) ?_;conv=>arg 3;whnf
    exact Ze (ih _)
   ·exact Z5
  ·exact Ze (ih _)
 ·exact Zd rfl
def ZiF (t0:Bool) (t1:Bool) (t2:Bool) (t3:Bool) (a:Zh) (x4:(List Int)):(List Int)→Ex×List V×Zo
  | r=>(.exit 2,[(.sl 0 1)],[(.arr 1 (List.map Zb r))])
theorem ZlP {t0:Bool}{t1:Bool}{t2:Bool}{t3:Bool}{a:Zh}{x4:(List Int)}:∀(s5:Int×(List Int)) (r:(List Int)),lp (ZfX a x4) s5=some r→lpW ctx 0 [2,5,32,33,34] [5] Zw5 [(.ptr 0 0),(.sl 1 1),(.d (D.list true (List.map Zb x4))),(.d (Zb (x4.length:Int))),(.d (Zb s5.1))] [(.cells (dV t0 t1 t2 t3 a)),(.arr 1 (List.map Zb s5.2))]=some ((ZiF t0 t1 t2 t3 a x4) r):=by
 refine ZaM (ZiF t0 t1 t2 t3 a x4) ?_
 intro s5 rcl ih
 show ZO _ _ (lpW _ _ _ _ _ _ _)
 unfold ZfX
 rw[ZaN]
 conv=>arg 3;whnf
 refine Zf rfl ?_ ?_<;>conv=>arg 3;whnf
 ·refine Zl rfl rfl fun x6 hx6=>?_;conv=>arg 3;whnf
  refine Zl rfl rfl fun x7 hx7=>?_;conv=>arg 3;whnf
  refine ZbH rfl ?_;conv=>arg 3;whnf
  refine Zf (Zgn Zb s5.2 1) ?_ ?_
  ·conv=>arg 3;whnf
   refine Zn (Zgj Zb s5.2 [x7.maker]) ?_;conv=>arg 3;whnf
   exact Ze (ih _)
  ·exact Z5
 ·exact Zd rfl
theorem Zj6 {t0:Bool}{t1:Bool}{t2:Bool}{t3:Bool}{a:Zh}{b:Int}:∀r,(ZeP a b)=some r→evD ctx 76 [(.d (D.agg (dA t0 t1 t2 t3 a))),(.d (Zb b))]=some (Zk1 r):=by
 show ZO _ (fun r rhs=>rhs=some (Zk1 r)) _
 unfold ZeP
 rw[ZaY ctx 76 ZA9 _ rfl rfl]
 conv=>arg 3;whnf
 refine Zp _ ZfY rfl fun x0 hx0=>?_;conv=>arg 3;whnf
 refine Zf rfl ?_ ?_<;>conv=>arg 3;whnf
 ·exact Zd rfl
 ·refine Zn (ZI _ _) ?_;conv=>arg 3;whnf
  refine Zc _ (ZlY _) fun r3 hr3=>?_;conv=>arg 3;whnf
  refine Zp _ Zix rfl fun x4 hx4=>?_;conv=>arg 3;whnf
  refine Zn (ZI _ _) ?_;conv=>arg 3;whnf
  refine Zc _ (ZlP _) fun r8 hr8=>?_;conv=>arg 3;whnf
  exact Zd rfl
def ZkB (r:Int):D:=(D.int .u32 r)
theorem Zd7 {a:Int}:∀r,(ZcU a)=some r→evD ctx 64 [(.d (Zb a))]=some (ZkB r):=by
 show ZO _ (fun r rhs=>rhs=some (ZkB r)) _
 unfold ZcU
 rw[ZaY ctx 64 ZA8 _ rfl rfl]
 conv=>arg 3;whnf
 exact Zd rfl
def ZlK:Unit→D
  | r=>(D.agg [(D.int .u32 0),(D.fn 97 []),(D.int .u32 1),(D.fn 98 []),(D.int .u32 0),(D.fn 99 []),(D.int .u32 7),(D.fn 100 [])])
theorem ZpH:∀r,Zii=some r→evD ctx 65 []=some (ZlK r):=by
 show ZO _ (fun r rhs=>rhs=some (ZlK r)) _
 unfold Zii
 rw[ZaY ctx 65 ZBX _ rfl rfl]
 conv=>arg 3;whnf
 exact Zd rfl
def Zj5 (r:Int):D:=(D.int .u32 r)
theorem Zno {a:Int}{b:Int}:∀r,(ZfP a b)=some r→evD ctx 97 [(.d (D.int .u32 a)),(.d (D.int .u32 b))]=some (Zj5 r):=by
 show ZO _ (fun r rhs=>rhs=some (Zj5 r)) _
 unfold ZfP
 rw[ZaY ctx 97 ZBk _ rfl rfl]
 conv=>arg 3;whnf
 exact Zd rfl
def Zj7 (r:Int):D:=(D.int .u32 r)
theorem ZnF {a:Int}{b:Int}:∀r,(ZfS a b)=some r→evD ctx 98 [(.d (D.int .u32 a)),(.d (D.int .u32 b))]=some (Zj7 r):=by
 show ZO _ (fun r rhs=>rhs=some (Zj7 r)) _
 unfold ZfS
 rw[ZaY ctx 98 ZBI _ rfl rfl]
 conv=>arg 3;whnf
 exact Zd rfl
def Zkf (r:Int):D:=(D.int .u32 r)
theorem ZnH {a:Int}{b:Int}:∀r,(ZfR a b)=some r→evD ctx 99 [(.d (D.int .u32 a)),(.d (D.int .u32 b))]=some (Zkf r):=by
 show ZO _ (fun r rhs=>rhs=some (Zkf r)) _
 unfold ZfR
 rw[ZaY ctx 99 ZAO _ rfl rfl]
 conv=>arg 3;whnf
 exact Zd rfl
def Zj3 (r:Int):D:=(D.int .u32 r)
theorem ZnM {a:Int}{b:Int}:∀r,(ZfV a b)=some r→evD ctx 100 [(.d (D.int .u32 a)),(.d (D.int .u32 b))]=some (Zj3 r):=by
 show ZO _ (fun r rhs=>rhs=some (Zj3 r)) _
 unfold ZfV
 rw[ZaY ctx 100 ZyB _ rfl rfl]
 conv=>arg 3;whnf
 exact Zd rfl
def ZnW (r:Int):D:=(Zb r)
def ZkK (t0:Bool) (a:ZV) (b:(List Int)):(List (Int×Int))→Ex×List V×Zo
  | r=>(.exit 1,[(.ptr 0 0),(.mp 1)],[(.cells [(.d (Zb a.op)),(.d (Zb a.arg)),(.d (Zb a.work))]),(.mp (mpD Zb Zb r))])
theorem Zox {t0:Bool}{a:ZV}{b:(List Int)}:∀(s0:Int×(List (Int×Int))) (r:(List (Int×Int))),lp (ZeN b) s0=some r→lpW ctx 0 [3,7,19,20,21] [3,7] Zw6 [(.ptr 0 0),(.mp 1),(.d (D.list t0 (List.map Zb b))),(.d (Zb (b.length:Int))),(.d (Zb s0.1))] [(.cells [(.d (Zb a.op)),(.d (Zb a.arg)),(.d (Zb a.work))]),(.mp (mpD Zb Zb s0.2))]=some ((ZkK t0 a b) r):=by
 refine ZaM (ZkK t0 a b) ?_
 intro s0 rcl ih
 show ZO _ _ (lpW _ _ _ _ _ _ _)
 unfold ZeN
 rw[ZaN]
 conv=>arg 3;whnf
 refine Zf rfl ?_ ?_<;>conv=>arg 3;whnf
 ·refine Zl rfl rfl fun x1 hx1=>?_;conv=>arg 3;whnf
  refine Zg (Zdq (f:=Zb) (g:=Zb) (fun ka kb:Int=>(ka==kb)) (fun _ _=>rfl) s0.2 s0.1 x1) ?_;conv=>arg 3;whnf
  exact Ze (ih _)
 ·exact Zd rfl
def ZkC (t1:Bool) (c:(List Int)):Int→Ex×List V×Zo
  | r=>(.exit 3,[(.d (D.int .u32 r))],[])
theorem Zop {t1:Bool}{c:(List Int)}:∀(s6:Int×Int) (r:Int),lp (ZeR c) s6=some r→lpW ctx 0 [10,11,60,61,62] [11] Zpv [(.ptr 0 0),(.d (D.int .u32 s6.1)),(.d (D.list t1 (List.map Zb c))),(.d (Zb (c.length:Int))),(.d (Zb s6.2))] [(.cells [(.d (D.int .u32 0)),(.d (D.fn 97 []))])]=some ((ZkC t1 c) r):=by
 refine ZaM (ZkC t1 c) ?_
 intro s6 rcl ih
 show ZO _ _ (lpW _ _ _ _ _ _ _)
 unfold ZeR
 rw[ZaN]
 conv=>arg 3;whnf
 refine Zf rfl ?_ ?_<;>conv=>arg 3;whnf
 ·refine Zl rfl rfl fun x7 hx7=>?_;conv=>arg 3;whnf
  refine Zp _ Zd7 rfl fun x8 hx8=>?_;conv=>arg 3;whnf
  refine Zp _ Zno rfl fun x9 hx9=>?_;conv=>arg 3;whnf
  exact Ze (ih _)
 ·exact Zd rfl
def Zjc (t1:Bool) (c:(List Int)):Int→Ex×List V×Zo
  | r=>(.exit 3,[(.d (D.int .u32 r))],[])
theorem Zm1 {t1:Bool}{c:(List Int)}:∀(s11:Int×Int) (r:Int),lp (ZdR c) s11=some r→lpW ctx 0 [10,11,60,61,62] [11] Zpv [(.ptr 0 0),(.d (D.int .u32 s11.1)),(.d (D.list t1 (List.map Zb c))),(.d (Zb (c.length:Int))),(.d (Zb s11.2))] [(.cells [(.d (D.int .u32 1)),(.d (D.fn 98 []))])]=some ((Zjc t1 c) r):=by
 refine ZaM (Zjc t1 c) ?_
 intro s11 rcl ih
 show ZO _ _ (lpW _ _ _ _ _ _ _)
 unfold ZdR
 rw[ZaN]
 conv=>arg 3;whnf
 refine Zf rfl ?_ ?_<;>conv=>arg 3;whnf
 ·refine Zl rfl rfl fun x12 hx12=>?_;conv=>arg 3;whnf
  refine Zp _ Zd7 rfl fun x13 hx13=>?_;conv=>arg 3;whnf
  refine Zp _ ZnF rfl fun x14 hx14=>?_;conv=>arg 3;whnf
  exact Ze (ih _)
 ·exact Zd rfl
def Zjd (t1:Bool) (c:(List Int)):Int→Ex×List V×Zo
  | r=>(.exit 3,[(.d (D.int .u32 r))],[])
theorem ZmC {t1:Bool}{c:(List Int)}:∀(s16:Int×Int) (r:Int),lp (ZdT c) s16=some r→lpW ctx 0 [10,11,60,61,62] [11] Zpv [(.ptr 0 0),(.d (D.int .u32 s16.1)),(.d (D.list t1 (List.map Zb c))),(.d (Zb (c.length:Int))),(.d (Zb s16.2))] [(.cells [(.d (D.int .u32 0)),(.d (D.fn 99 []))])]=some ((Zjd t1 c) r):=by
 refine ZaM (Zjd t1 c) ?_
 intro s16 rcl ih
 show ZO _ _ (lpW _ _ _ _ _ _ _)
 unfold ZdT
 rw[ZaN]
 conv=>arg 3;whnf
 refine Zf rfl ?_ ?_<;>conv=>arg 3;whnf
 ·refine Zl rfl rfl fun x17 hx17=>?_;conv=>arg 3;whnf
  refine Zp _ Zd7 rfl fun x18 hx18=>?_;conv=>arg 3;whnf
  refine Zp _ ZnH rfl fun x19 hx19=>?_;conv=>arg 3;whnf
  exact Ze (ih _)
 ·exact Zd rfl
def Zja (t1:Bool) (c:(List Int)):Int→Ex×List V×Zo
  | r=>(.exit 3,[(.d (D.int .u32 r))],[])
theorem ZmB {t1:Bool}{c:(List Int)}:∀(s21:Int×Int) (r:Int),lp (ZdM c) s21=some r→lpW ctx 0 [10,11,60,61,62] [11] Zpv [(.ptr 0 0),(.d (D.int .u32 s21.1)),(.d (D.list t1 (List.map Zb c))),(.d (Zb (c.length:Int))),(.d (Zb s21.2))] [(.cells [(.d (D.int .u32 7)),(.d (D.fn 100 []))])]=some ((Zja t1 c) r):=by
 refine ZaM (Zja t1 c) ?_
 intro s21 rcl ih
 show ZO _ _ (lpW _ _ _ _ _ _ _)
 unfold ZdM
 rw[ZaN]
 conv=>arg 3;whnf
 refine Zf rfl ?_ ?_<;>conv=>arg 3;whnf
 ·refine Zl rfl rfl fun x22 hx22=>?_;conv=>arg 3;whnf
  refine Zp _ Zd7 rfl fun x23 hx23=>?_;conv=>arg 3;whnf
  refine Zp _ ZnM rfl fun x24 hx24=>?_;conv=>arg 3;whnf
  exact Ze (ih _)
 ·exact Zd rfl
theorem Zm8 {t0:Bool}{t1:Bool}{a:ZV}{b:(List Int)}{c:(List Int)}:∀r,(ZhG a b c)=some r→evD ctx 39 [(.d (D.agg [(Zb a.op),(Zb a.arg),(Zb a.work)])),(.d (D.list t0 (List.map Zb b))),(.d (D.list t1 (List.map Zb c)))]=some (ZnW r):=by
 show ZO _ (fun r rhs=>rhs=some (ZnW r)) _
 unfold ZhG
 rw[ZaY ctx 39 ZAG _ rfl rfl]
 conv=>arg 3;whnf
 refine Zf rfl ?_ ?_<;>conv=>arg 3;whnf
 ·refine Zn (ZI _ _) ?_;conv=>arg 3;whnf
  refine Zc _ (Zox _) fun r2 hr2=>?_;conv=>arg 3;whnf
  refine Zg (Zbq (f:=Zb) (g:=Zb) (fun ka kb:Int=>(ka==kb)) (fun _ _=>rfl) r2 a.arg 0) ?_;conv=>arg 3;whnf
  refine Zp _ Zd7 rfl fun x3 hx3=>?_;conv=>arg 3;whnf
  exact Zd rfl
 ·refine Zf rfl ?_ ?_<;>conv=>arg 3;whnf
  ·refine Zp _ Zd7 rfl fun x4 hx4=>?_;conv=>arg 3;whnf
   exact Zd rfl
  ·refine Zf rfl ?_ ?_<;>conv=>arg 3;whnf
   ·exact Zd rfl
   ·refine Zf rfl ?_ ?_<;>conv=>arg 3;whnf
    ·exact Zd rfl
    ·refine Zp _ ZpH rfl fun x5 hx5=>?_;conv=>arg 3;whnf
     refine Zf rfl ?_ ?_
     ·conv=>arg 3;whnf
      refine Zuj rfl ?_ ?_ ?_ ?_<;>conv=>arg 3;whnf
      ·refine Zg rfl ?_;conv=>arg 3;whnf
       refine Zn (ZI _ _) ?_;conv=>arg 3;whnf
       refine Zc _ (Zop _) fun r10 hr10=>?_;conv=>arg 3;whnf
       exact Zd rfl
      ·refine Zg rfl ?_;conv=>arg 3;whnf
       refine Zn (ZI _ _) ?_;conv=>arg 3;whnf
       refine Zc _ (Zm1 _) fun r15 hr15=>?_;conv=>arg 3;whnf
       exact Zd rfl
      ·conv=>arg 3;whnf
       refine Zg rfl ?_;conv=>arg 3;whnf
       refine Zn (ZI _ _) ?_;conv=>arg 3;whnf
       refine Zc _ (ZmC _) fun r20 hr20=>?_;conv=>arg 3;whnf
       exact Zd rfl
      ·conv=>arg 3;whnf
       refine Zg rfl ?_;conv=>arg 3;whnf
       refine Zn (ZI _ _) ?_;conv=>arg 3;whnf
       refine Zc _ (ZmB _) fun r25 hr25=>?_;conv=>arg 3;whnf
       exact Zd rfl
     ·exact Z5
def Zj0 (r:ZC):D:=(D.agg [(D.list true (List.map Zb r.work)),(D.list true (List.map Zb r.vals))])
def Zh4 (t0:Bool) (t1:Bool) (t2:Bool) (t3:Bool) (t4:Bool) (a:Zh) (b:(List Int)) (c:ZC) (d:Int) (x2:Int) (x4:(List Int)):(List Int)→Ex×List V×Zo
  | r=>(.exit 0,[(.d (D.list t4 (List.map Zb b))),(.d (Zb d)),(.ptr 0 0),(.ptr 1 0),(.ptr 2 0),(.sl 3 1)],[(.cells (dV t0 t1 t2 t3 a)),(.cells [(.sl 4 1),(.sl 5 1)]),(.cells [(.sl 6 1),(.sl 7 1)]),(.arr 1 (List.map Zb r)),(.arr 1 (List.map Zb (List.set c.work d.toNat (w64 (x2+1))))),(.arr 1 (List.map Zb c.vals)),(.arr 1 []),(.arr 1 [])])
theorem Zli {t0:Bool}{t1:Bool}{t2:Bool}{t3:Bool}{t4:Bool}{a:Zh}{b:(List Int)}{c:ZC}{d:Int}{x2:Int}{x4:(List Int)}:∀(s5:Int×(List Int)) (r:(List Int)),lp (Zfz c x4) s5=some r→lpW ctx 0 [1,3,4,6,8,9,32,33,34] [1,3,4,6,8,9] Zy6 [(.d (D.list t4 (List.map Zb b))),(.d (Zb d)),(.ptr 0 0),(.ptr 1 0),(.ptr 2 0),(.sl 3 1),(.d (D.list true (List.map Zb x4))),(.d (Zb (x4.length:Int))),(.d (Zb s5.1))] [(.cells (dV t0 t1 t2 t3 a)),(.cells [(.sl 4 1),(.sl 5 1)]),(.cells [(.sl 6 1),(.sl 7 1)]),(.arr 1 (List.map Zb s5.2)),(.arr 1 (List.map Zb (List.set c.work d.toNat (w64 (x2+1))))),(.arr 1 (List.map Zb c.vals)),(.arr 1 []),(.arr 1 [])]=some ((Zh4 t0 t1 t2 t3 t4 a b c d x2 x4) r):=by
 refine ZaM (Zh4 t0 t1 t2 t3 t4 a b c d x2 x4) ?_
 intro s5 rcl ih
 show ZO _ _ (lpW _ _ _ _ _ _ _)
 unfold Zfz
 rw[ZaN]
 conv=>arg 3;whnf
 refine Zf rfl ?_ ?_<;>conv=>arg 3;whnf
 ·refine Zl rfl rfl fun x6 hx6=>?_;conv=>arg 3;whnf
  refine Zl rfl rfl fun x7 hx7=>?_;conv=>arg 3;whnf
  refine Zg (Zy rfl hx7) ?_;conv=>arg 3;whnf
  refine ZbH rfl ?_;conv=>arg 3;whnf
  refine Zf (Zgn Zb s5.2 1) ?_ ?_
  ·conv=>arg 3;whnf
   refine Zn (Zgj Zb s5.2 [x7]) ?_;conv=>arg 3;whnf
   exact Ze (ih _)
  ·exact Z5
 ·exact Zd rfl
theorem ZnC {t0:Bool}{t1:Bool}{t2:Bool}{t3:Bool}{t4:Bool}{t5:Bool}{t6:Bool}{a:Zh}{b:(List Int)}{c:ZC}{d:Int}:∀r,(Ze3 a b c d)=some r→evD ctx 48 [(.d (D.agg (dA t0 t1 t2 t3 a))),(.d (D.list t4 (List.map Zb b))),(.d (D.agg [(D.list t5 (List.map Zb c.work)),(D.list t6 (List.map Zb c.vals))])),(.d (Zb d))]=some (Zj0 r):=by
 show ZO _ (fun r rhs=>rhs=some (Zj0 r)) _
 unfold Ze3
 rw[ZaY ctx 48 ZBp _ rfl rfl]
 conv=>arg 3;whnf
 refine Zc _ Zdx fun x0 hx0=>?_;conv=>arg 3;whnf
 refine Zc _ Zdx fun x1 hx1=>?_;conv=>arg 3;whnf
 refine Zl rfl rfl fun x2 hx2=>?_;conv=>arg 3;whnf
 refine Zg (Zy rfl hx2) ?_;conv=>arg 3;whnf
 refine Zg (ZbO rfl hx2) ?_;conv=>arg 3;whnf
 refine Zg (Zy rfl hx2) ?_;conv=>arg 3;whnf
 refine Zn (Zax Zb c.work d.toNat (w64 (x2+1))) ?_;conv=>arg 3;whnf
 refine Zp _ ZdI rfl fun x3 hx3=>?_;conv=>arg 3;whnf
 refine Zf rfl ?_ ?_<;>conv=>arg 3;whnf
 ·refine Zp _ Zj6 rfl fun x4 hx4=>?_;conv=>arg 3;whnf
  refine Zn (ZI _ _) ?_;conv=>arg 3;whnf
  refine Zc _ (Zli _) fun r8 hr8=>?_;conv=>arg 3;whnf
  refine Zl rfl rfl fun x9 hx9=>?_;conv=>arg 3;whnf
  refine Zp _ Zm8 rfl fun x10 hx10=>?_;conv=>arg 3;whnf
  refine Zl rfl rfl fun x11 hx11=>?_;conv=>arg 3;whnf
  refine Zg (Zy rfl hx11) ?_;conv=>arg 3;whnf
  refine Zn (Zax Zb c.vals d.toNat x10) ?_;conv=>arg 3;whnf
  exact Zd rfl
 ·exact Zd rfl
def ZkN (r:((List Int)×Int)):D:=(D.tup [(D.list true (List.map Zb r.1)),(Zb r.2)])
def ZiC (t0:Bool) (t1:Bool) (t2:Bool) (t3:Bool) (t4:Bool) (a:Zh) (b:(List Int)):((List Int)×(List Int))→Ex×List V×Zo
  | r=>(.exit 0,[(.ptr 0 0),(.ptr 1 0)],[(.cells (dV t0 t1 t2 t3 a)),(.cells [(.d (D.list true (List.map Zb r.1))),(.d (D.list true (List.map Zb r.2)))])])
theorem Zl9 {t0:Bool}{t1:Bool}{t2:Bool}{t3:Bool}{t4:Bool}{a:Zh}{b:(List Int)}:∀(s2:(List Int)×(List Int)×(List Int)) (r:((List Int)×(List Int))),lp (Ze0 a b) s2=some r→lpW ctx 0 [1,2,6,8] [2,6] ZxN [(.d (D.list t4 (List.map Zb b))),(.ptr 0 0),(.ptr 1 0),(.d (D.list true (List.map Zb s2.1)))] [(.cells (dV t0 t1 t2 t3 a)),(.cells [(.d (D.list true (List.map Zb s2.2.1))),(.d (D.list true (List.map Zb s2.2.2)))])]=some ((ZiC t0 t1 t2 t3 t4 a b) r):=by
 refine ZaM (ZiC t0 t1 t2 t3 t4 a b) ?_
 intro s2 rcl ih
 show ZO _ _ (lpW _ _ _ _ _ _ _)
 unfold Ze0
 rw[ZaN]
 conv=>arg 3;whnf
 refine Zn (ZI _ _) ?_;conv=>arg 3;whnf
 refine Zf rfl ?_ ?_<;>conv=>arg 3;whnf
 ·refine Zl rfl rfl fun x3 hx3=>?_;conv=>arg 3;whnf
  refine Zp _ ZnC rfl fun x4 hx4=>?_;conv=>arg 3;whnf
  refine Zp _ Zj4 rfl fun x5 hx5=>?_;conv=>arg 3;whnf
  exact Ze (ih _)
 ·exact Zd rfl
def ZiE (t0:Bool) (t1:Bool) (t2:Bool) (t3:Bool) (a:Zh) (r6:((List Int)×(List Int))):(Unit⊕Unit)→Ex×List V×Zo
  | (.inl r)=>(.ret,[(.nilsl 1),(.d (Zb 94)),(.ptr 0 0)],[(.cells [(.d (D.list true (List.map Zb r6.1))),(.d (D.list true (List.map Zb r6.2)))])])
  | (.inr r)=>(.exit 2,[.bad,.bad,(.ptr 0 0)],[(.cells [(.d (D.list true (List.map Zb r6.1))),(.d (D.list true (List.map Zb r6.2)))])])
theorem Zmg {t0:Bool}{t1:Bool}{t2:Bool}{t3:Bool}{a:Zh}{r6:((List Int)×(List Int))}:∀(s7:Int) (r:(Unit⊕Unit)),lp (Zdg a r6) s7=some r→lpW ctx 0 [2,6,36,37] [4,5,6] ZwL [(.ptr 0 0),(.ptr 1 0),(.d (Zb (a.parts.length:Int))),(.d (Zb s7))] [(.cells (dV t0 t1 t2 t3 a)),(.cells [(.d (D.list true (List.map Zb r6.1))),(.d (D.list true (List.map Zb r6.2)))])]=some ((ZiE t0 t1 t2 t3 a r6) r):=by
 refine ZaM (ZiE t0 t1 t2 t3 a r6) ?_
 intro s7 rcl ih
 show ZO _ _ (lpW _ _ _ _ _ _ _)
 unfold Zdg
 rw[ZaN]
 conv=>arg 3;whnf
 refine Zf rfl ?_ ?_<;>conv=>arg 3;whnf
 ·refine Zp _ ZdI rfl fun x8 hx8=>?_;conv=>arg 3;whnf
  refine Zf rfl ?_ ?_<;>conv=>arg 3;whnf
  ·exact Ze (ih _)
  ·exact Zd rfl
 ·exact Zd rfl
theorem Zoq {t0:Bool}{t1:Bool}{t2:Bool}{t3:Bool}{t4:Bool}{a:Zh}{b:(List Int)}:∀r,(ZeS a b)=some r→evD ctx 33 [(.d (D.agg (dA t0 t1 t2 t3 a))),(.d (D.list t4 (List.map Zb b)))]=some (ZkN r):=by
 show ZO _ (fun r rhs=>rhs=some (ZkN r)) _
 unfold ZeS
 rw[ZaY ctx 33 ZBK _ rfl rfl]
 conv=>arg 3;whnf
 refine Zp _ Zow rfl fun x0 hx0=>?_;conv=>arg 3;whnf
 refine Zf rfl ?_ ?_<;>conv=>arg 3;whnf
 ·exact Zd rfl
 ·refine Zp _ Zj4 rfl fun x1 hx1=>?_;conv=>arg 3;whnf
  refine Zc _ (Zl9 _) fun r6 hr6=>?_;conv=>arg 3;whnf
  refine Zn (ZI _ _) ?_;conv=>arg 3;whnf
  refine Zc _ (Zmg _) fun r9 hr9=>?_
  clear hr9
  rcases r9 with r9 | r9
  ·conv=>arg 3;whnf
   exact Zd rfl
  ·conv=>arg 3;whnf
   exact Zd rfl
def Zgw (b:Zi) (c:Int) (m1_0:(List Int)) (m2_0:(List Zm)) (m3_0:(List Zi)) (m4_0:(List (Int×Int))) (m5_0:(List (Int×Int))) (m6_0:(List (Zj×Int))):Unit→V×Zo
  | r=>((.d (Zb (w64 ((List.length (m3_0++[b]):Int)-1)))),[(.cells [(.sl 7 1),(.sl 2 2),(.sl 8 2),(.mp 4),(.mp 5),(.mp 6)]),.dead,(.arr 2 (List.map ZF m2_0)),.dead,(.mp (mpD Zb Zb m4_0)),(.mp (mpD Zb Zb m5_0)),(.mp (mpD Zq Zb m6_0)),(.arr 1 (List.map Zb (m1_0++[c]))),(.arr 2 (List.map Zbi (m3_0++[b])))])
theorem ZaL {b:Zi}{c:Int}{m1_0:(List Int)}{m2_0:(List Zm)}{m3_0:(List Zi)}{m4_0:(List (Int×Int))}{m5_0:(List (Int×Int))}{m6_0:(List (Zj×Int))}:∀r,(Zaj b c m1_0 m3_0)=some r→evW ctx 68 [(.ptr 0 0),(.d (D.agg [(Zb b.part),(Zb b.step)])),(.d (Zb c))] [(.cells [(.sl 1 1),(.sl 2 2),(.sl 3 2),(.mp 4),(.mp 5),(.mp 6)]),(.arr 1 (List.map Zb m1_0)),(.arr 2 (List.map ZF m2_0)),(.arr 2 (List.map Zbi m3_0)),(.mp (mpD Zb Zb m4_0)),(.mp (mpD Zb Zb m5_0)),(.mp (mpD Zq Zb m6_0))]=some ((Zgw b c m1_0 m2_0 m3_0 m4_0 m5_0 m6_0) r):=by
 show ZO _ (fun r rhs=>rhs=some ((Zgw b c m1_0 m2_0 m3_0 m4_0 m5_0 m6_0) r)) _
 unfold Zaj
 rw[ZfE ctx 68 ZAN _ _ rfl rfl]
 conv=>arg 3;whnf
 refine ZbH rfl ?_;conv=>arg 3;whnf
 refine Zf (Zgn Zbi m3_0 1) ?_ ?_
 ·conv=>arg 3;whnf
  refine Zn (Zgj Zbi m3_0 [b]) ?_;conv=>arg 3;whnf
  refine ZbH rfl ?_;conv=>arg 3;whnf
  refine Zf (Zgn Zb m1_0 1) ?_ ?_
  ·conv=>arg 3;whnf
   refine Zn (Zgj Zb m1_0 [c]) ?_;conv=>arg 3;whnf
   refine Zn (ZI _ _) ?_;conv=>arg 3;whnf
   exact Zd rfl
  ·exact Z5
 ·exact Z5
def Zgy (b:Int) (c:Int) (m1_0:(List Int)) (m2_0:(List Zm)) (m3_0:(List Zi)) (m4_0:(List (Int×Int))) (m5_0:(List (Int×Int))) (m6_0:(List (Zj×Int))):Unit→V×Zo
  | r=>((.d (D.tup [])),[(.cells [(.sl 1 1),(.sl 7 2),(.sl 3 2),(.mp 4),(.mp 5),(.mp 6)]),(.arr 1 (List.map Zb m1_0)),.dead,(.arr 2 (List.map Zbi m3_0)),(.mp (mpD Zb Zb m4_0)),(.mp (mpD Zb Zb m5_0)),(.mp (mpD Zq Zb m6_0)),(.arr 2 (List.map ZF (m2_0++[(Zm.mk b c)])))])
theorem Zar {b:Int}{c:Int}{m1_0:(List Int)}{m2_0:(List Zm)}{m3_0:(List Zi)}{m4_0:(List (Int×Int))}{m5_0:(List (Int×Int))}{m6_0:(List (Zj×Int))}:∀r,(ZJ b c m2_0)=some r→evW ctx 67 [(.ptr 0 0),(.d (Zb b)),(.d (Zb c))] [(.cells [(.sl 1 1),(.sl 2 2),(.sl 3 2),(.mp 4),(.mp 5),(.mp 6)]),(.arr 1 (List.map Zb m1_0)),(.arr 2 (List.map ZF m2_0)),(.arr 2 (List.map Zbi m3_0)),(.mp (mpD Zb Zb m4_0)),(.mp (mpD Zb Zb m5_0)),(.mp (mpD Zq Zb m6_0))]=some ((Zgy b c m1_0 m2_0 m3_0 m4_0 m5_0 m6_0) r):=by
 show ZO _ (fun r rhs=>rhs=some ((Zgy b c m1_0 m2_0 m3_0 m4_0 m5_0 m6_0) r)) _
 unfold ZJ
 rw[ZfE ctx 67 ZA7 _ _ rfl rfl]
 conv=>arg 3;whnf
 refine ZbH rfl ?_;conv=>arg 3;whnf
 refine Zf (Zgn ZF m2_0 1) ?_ ?_
 ·conv=>arg 3;whnf
  refine Zn (Zgj ZF m2_0 [(Zm.mk b c)]) ?_;conv=>arg 3;whnf
  exact Zd rfl
 ·exact Z5
def Zgx (t0:Bool) (t1:Bool) (t2:Bool) (t3:Bool) (b:Zh) (c:Int) (m1_0:(List Int)) (m2_0:(List Zm)) (m3_0:(List Zi)) (m4_0:(List (Int×Int))) (m5_0:(List (Int×Int))) (m6_0:(List (Zj×Int))):(((List (Int×Int))×(List (Zj×Int))×(List Int)×(List Zm)×(List Zi))⊕((List Int)⊕Unit))→V×Zo
  | (.inl r)=>((.d (D.tup [])),[(.cells [(.sl 7 1),(.sl 8 2),(.sl 9 2),(.mp 4),(.mp 5),(.mp 6)]),.dead,.dead,.dead,(.mp (mpD Zb Zb (Zu (fun ka kb:Int=>(ka==kb)) m4_0 c (m3_0.length:Int)))),(.mp (mpD Zb Zb r.1)),(.mp (mpD Zq Zb r.2.1)),(.arr 1 (List.map Zb r.2.2.1)),(.arr 2 (List.map ZF r.2.2.2.1)),(.arr 2 (List.map Zbi r.2.2.2.2))])
  | (.inr (.inl r))=>((.d (D.tup [])),[(.cells [(.sl 7 1),(.sl 2 2),(.sl 8 2),(.mp 4),(.mp 5),(.mp 6)]),.dead,(.arr 2 (List.map ZF m2_0)),.dead,(.mp (mpD Zb Zb (Zu (fun ka kb:Int=>(ka==kb)) m4_0 c (m3_0.length:Int)))),(.mp (mpD Zb Zb (Zu (fun ka kb:Int=>(ka==kb)) m5_0 c (w64 ((List.length (m3_0++[(Zi.mk c 0)]):Int)-1))))),(.mp (mpD Zq Zb m6_0)),(.arr 1 (List.map Zb r)),(.arr 2 (List.map Zbi (m3_0++[(Zi.mk c 0)])))])
  | (.inr (.inr r))=>((.d (D.tup [])),[(.cells [(.sl 1 1),(.sl 2 2),(.sl 3 2),(.mp 4),(.mp 5),(.mp 6)]),(.arr 1 (List.map Zb m1_0)),(.arr 2 (List.map ZF m2_0)),(.arr 2 (List.map Zbi m3_0)),(.mp (mpD Zb Zb (Zu (fun ka kb:Int=>(ka==kb)) m4_0 c (m3_0.length:Int)))),(.mp (mpD Zb Zb m5_0)),(.mp (mpD Zq Zb m6_0))])
def ZfT (t0:Bool) (t1:Bool) (t2:Bool) (t3:Bool) (b:Zh) (c:Int) (m3_0:(List Zi)) (m4_0:(List (Int×Int))) (x0:(List Int)):((List (Int×Int))×(List (Zj×Int))×(List Int)×(List Zm)×(List Zi))→Ex×List V×Zo
  | r=>(.exit 0,[],[(.cells [(.sl 7 1),(.sl 8 2),(.sl 9 2),(.mp 4),(.mp 5),(.mp 6)]),.dead,.dead,.dead,(.mp (mpD Zb Zb (Zu (fun ka kb:Int=>(ka==kb)) m4_0 c (m3_0.length:Int)))),(.mp (mpD Zb Zb r.1)),(.mp (mpD Zq Zb r.2.1)),(.arr 1 (List.map Zb r.2.2.1)),(.arr 2 (List.map ZF r.2.2.2.1)),(.arr 2 (List.map Zbi r.2.2.2.2))])
theorem ZcG {t0:Bool}{t1:Bool}{t2:Bool}{t3:Bool}{b:Zh}{c:Int}{m3_0:(List Zi)}{m4_0:(List (Int×Int))}{x0:(List Int)}:∀(s14:Int×Int×(List (Int×Int))×(List (Zj×Int))×(List Int)×(List Zm)×(List Zi)) (r:((List (Int×Int))×(List (Zj×Int))×(List Int)×(List Zm)×(List Zi))),lp (ZA b c x0) s14=some r→lpW ctx 7 [0,2,4,6,7,26,27] [] ZpG [(.ptr 0 0),(.d (Zb c)),(.ptr 7 0),(.d (Zb s14.1)),(.d (D.list true (List.map Zb x0))),(.d (Zb (w64 ((x0.length:Int)+1)))),(.d (Zb s14.2.1))] [(.cells [(.sl 8 1),(.sl 9 2),(.sl 10 2),(.mp 4),(.mp 5),(.mp 6)]),.dead,.dead,.dead,(.mp (mpD Zb Zb (Zu (fun ka kb:Int=>(ka==kb)) m4_0 c (m3_0.length:Int)))),(.mp (mpD Zb Zb s14.2.2.1)),(.mp (mpD Zq Zb s14.2.2.2.1)),(.cells (dV t0 t1 t2 t3 b)),(.arr 1 (List.map Zb s14.2.2.2.2.1)),(.arr 2 (List.map ZF s14.2.2.2.2.2.1)),(.arr 2 (List.map Zbi s14.2.2.2.2.2.2))]=some ((ZfT t0 t1 t2 t3 b c m3_0 m4_0 x0) r):=by
 refine ZaM (ZfT t0 t1 t2 t3 b c m3_0 m4_0 x0) ?_
 intro s14 rcl ih
 show ZO _ _ (lpW _ _ _ _ _ _ _)
 unfold ZA
 rw[ZaN]
 conv=>arg 3;whnf
 refine Zf rfl ?_ ?_<;>conv=>arg 3;whnf
 ·refine Zl rfl rfl fun x15 hx15=>?_;conv=>arg 3;whnf
  refine Zn (ZI _ _) ?_;conv=>arg 3;whnf
  refine Zf rfl ?_ ?_<;>conv=>arg 3;whnf
  ·refine Zl rfl rfl fun x16 hx16=>?_;conv=>arg 3;whnf
   refine Zl rfl rfl fun x17 hx17=>?_;conv=>arg 3;whnf
   refine Zc _ ZaL fun x18 hx18=>?_;conv=>arg 3;whnf
   refine Zg (Zdq (f:=Zb) (g:=Zb) (fun ka kb:Int=>(ka==kb)) (fun _ _=>rfl) s14.2.2.1 c (w64 ((List.length (s14.2.2.2.2.2.2++[(Zi.mk c s14.2.1)]):Int)-1))) ?_;conv=>arg 3;whnf
   refine Zf rfl ?_ ?_<;>conv=>arg 3;whnf
   ·refine Zg (Zbq (f:=Zb) (g:=Zb) (fun ka kb:Int=>(ka==kb)) (fun _ _=>rfl) (Zu (fun ka kb:Int=>(ka==kb)) s14.2.2.1 c (w64 ((List.length (s14.2.2.2.2.2.2++[(Zi.mk c s14.2.1)]):Int)-1))) c 0) ?_;conv=>arg 3;whnf
    refine Zg (Zbq (f:=Zb) (g:=Zb) (fun ka kb:Int=>(ka==kb)) (fun _ _=>rfl) (Zu (fun ka kb:Int=>(ka==kb)) s14.2.2.1 c (w64 ((List.length (s14.2.2.2.2.2.2++[(Zi.mk c s14.2.1)]):Int)-1))) c 0) ?_;conv=>arg 3;whnf
    refine Zc _ Zar fun x19 hx19=>?_;conv=>arg 3;whnf
    refine Zl rfl rfl fun x20 hx20=>?_;conv=>arg 3;whnf
    refine Zl rfl rfl fun x21 hx21=>?_;conv=>arg 3;whnf
    refine Zg (Zbq (f:=Zb) (g:=Zb) (fun ka kb:Int=>(ka==kb)) (fun _ _=>rfl) (Zu (fun ka kb:Int=>(ka==kb)) s14.2.2.1 c (w64 ((List.length (s14.2.2.2.2.2.2++[(Zi.mk c s14.2.1)]):Int)-1))) c 0) ?_;conv=>arg 3;whnf
    refine Zg (Zdq (f:=Zq) (g:=Zb) (fun ka kb:Zj=>((ka.maker==kb.maker)&&((ka.user==kb.user)&&((ka.pos==kb.pos)&&true)))) (fun _ _=>rfl) s14.2.2.2.1 x21 (Z2 (fun ka kb:Int=>(ka==kb)) (Zu (fun ka kb:Int=>(ka==kb)) s14.2.2.1 c (w64 ((List.length (s14.2.2.2.2.2.2++[(Zi.mk c s14.2.1)]):Int)-1))) c 0)) ?_;conv=>arg 3;whnf
    exact Ze (ih _)
   ·exact Ze (ih _)
  ·refine Zc _ ZaL fun x22 hx22=>?_;conv=>arg 3;whnf
   refine Zg (Zdq (f:=Zb) (g:=Zb) (fun ka kb:Int=>(ka==kb)) (fun _ _=>rfl) s14.2.2.1 c (w64 ((List.length (s14.2.2.2.2.2.2++[(Zi.mk c s14.2.1)]):Int)-1))) ?_;conv=>arg 3;whnf
   refine Zf rfl ?_ ?_<;>conv=>arg 3;whnf
   ·refine Zg (Zbq (f:=Zb) (g:=Zb) (fun ka kb:Int=>(ka==kb)) (fun _ _=>rfl) (Zu (fun ka kb:Int=>(ka==kb)) s14.2.2.1 c (w64 ((List.length (s14.2.2.2.2.2.2++[(Zi.mk c s14.2.1)]):Int)-1))) c 0) ?_;conv=>arg 3;whnf
    refine Zg (Zbq (f:=Zb) (g:=Zb) (fun ka kb:Int=>(ka==kb)) (fun _ _=>rfl) (Zu (fun ka kb:Int=>(ka==kb)) s14.2.2.1 c (w64 ((List.length (s14.2.2.2.2.2.2++[(Zi.mk c s14.2.1)]):Int)-1))) c 0) ?_;conv=>arg 3;whnf
    refine Zc _ Zar fun x23 hx23=>?_;conv=>arg 3;whnf
    refine Zl rfl rfl fun x24 hx24=>?_;conv=>arg 3;whnf
    refine Zl rfl rfl fun x25 hx25=>?_;conv=>arg 3;whnf
    refine Zg (Zbq (f:=Zb) (g:=Zb) (fun ka kb:Int=>(ka==kb)) (fun _ _=>rfl) (Zu (fun ka kb:Int=>(ka==kb)) s14.2.2.1 c (w64 ((List.length (s14.2.2.2.2.2.2++[(Zi.mk c s14.2.1)]):Int)-1))) c 0) ?_;conv=>arg 3;whnf
    refine Zg (Zdq (f:=Zq) (g:=Zb) (fun ka kb:Zj=>((ka.maker==kb.maker)&&((ka.user==kb.user)&&((ka.pos==kb.pos)&&true)))) (fun _ _=>rfl) s14.2.2.2.1 x25 (Z2 (fun ka kb:Int=>(ka==kb)) (Zu (fun ka kb:Int=>(ka==kb)) s14.2.2.1 c (w64 ((List.length (s14.2.2.2.2.2.2++[(Zi.mk c s14.2.1)]):Int)-1))) c 0)) ?_;conv=>arg 3;whnf
    exact Ze (ih _)
   ·exact Ze (ih _)
 ·exact Zd rfl
def Zfo (t0:Bool) (t1:Bool) (t2:Bool) (t3:Bool) (b:Zh) (c:Int) (m1_0:(List Int)) (m2_0:(List Zm)) (m3_0:(List Zi)) (m4_0:(List (Int×Int))) (m5_0:(List (Int×Int))) (m6_0:(List (Zj×Int))) (x0:(List Int)) (x4:Zj):(((List (Int×Int))×(List (Zj×Int))×(List Int)×(List Zm)×(List Zi))⊕Unit)→Ex×List V×Zo
  | (.inl r)=>(.exit 0,[],[(.cells [(.sl 7 1),(.sl 8 2),(.sl 9 2),(.mp 4),(.mp 5),(.mp 6)]),.dead,.dead,.dead,(.mp (mpD Zb Zb (Zu (fun ka kb:Int=>(ka==kb)) m4_0 c (m3_0.length:Int)))),(.mp (mpD Zb Zb r.1)),(.mp (mpD Zq Zb r.2.1)),(.arr 1 (List.map Zb r.2.2.1)),(.arr 2 (List.map ZF r.2.2.2.1)),(.arr 2 (List.map Zbi r.2.2.2.2))])
  | (.inr r)=>(.exit 0,[],[(.cells [(.sl 7 1),(.sl 2 2),(.sl 8 2),(.mp 4),(.mp 5),(.mp 6)]),.dead,(.arr 2 (List.map ZF m2_0)),.dead,(.mp (mpD Zb Zb (Zu (fun ka kb:Int=>(ka==kb)) m4_0 c (m3_0.length:Int)))),(.mp (mpD Zb Zb (Zu (fun ka kb:Int=>(ka==kb)) m5_0 c (w64 ((List.length (m3_0++[(Zi.mk c 0)]):Int)-1))))),(.mp (mpD Zq Zb m6_0)),(.arr 1 (List.map Zb (m1_0++[(w64 (x4.pos-0))]))),(.arr 2 (List.map Zbi (m3_0++[(Zi.mk c 0)])))])
theorem Zht {t0:Bool}{t1:Bool}{t2:Bool}{t3:Bool}{b:Zh}{c:Int}{m1_0:(List Int)}{m2_0:(List Zm)}{m3_0:(List Zi)}{m4_0:(List (Int×Int))}{m5_0:(List (Int×Int))}{m6_0:(List (Zj×Int))}{x0:(List Int)}{x4:Zj}:∀(s6:Unit) (r:(((List (Int×Int))×(List (Zj×Int))×(List Int)×(List Zm)×(List Zi))⊕Unit)),lp (Zbs b c m1_0 m2_0 m3_0 m5_0 m6_0 x0 x4) s6=some r→lpW ctx 7 [0,2,4,6,7,26,27] [] ZpG [(.ptr 0 0),(.d (Zb c)),(.ptr 7 0),(.d (Zb x4.pos)),(.d (D.list true (List.map Zb x0))),(.d (Zb (w64 ((x0.length:Int)+1)))),(.d (Zb 1))] [(.cells [(.sl 8 1),(.sl 2 2),(.sl 9 2),(.mp 4),(.mp 5),(.mp 6)]),.dead,(.arr 2 (List.map ZF m2_0)),.dead,(.mp (mpD Zb Zb (Zu (fun ka kb:Int=>(ka==kb)) m4_0 c (m3_0.length:Int)))),(.mp (mpD Zb Zb (Zu (fun ka kb:Int=>(ka==kb)) m5_0 c (w64 ((List.length (m3_0++[(Zi.mk c 0)]):Int)-1))))),(.mp (mpD Zq Zb m6_0)),(.cells (dV t0 t1 t2 t3 b)),(.arr 1 (List.map Zb (m1_0++[(w64 (x4.pos-0))]))),(.arr 2 (List.map Zbi (m3_0++[(Zi.mk c 0)])))]=some ((Zfo t0 t1 t2 t3 b c m1_0 m2_0 m3_0 m4_0 m5_0 m6_0 x0 x4) r):=by
 refine ZaM (Zfo t0 t1 t2 t3 b c m1_0 m2_0 m3_0 m4_0 m5_0 m6_0 x0 x4) ?_
 intro s6 rcl ih
 show ZO _ _ (lpW _ _ _ _ _ _ _)
 unfold Zbs
 rw[ZaN]
 conv=>arg 3;whnf
 refine Zf rfl ?_ ?_<;>conv=>arg 3;whnf
 ·refine Zl rfl rfl fun x7 hx7=>?_;conv=>arg 3;whnf
  refine Zn (ZI _ _) ?_;conv=>arg 3;whnf
  refine Zf rfl ?_ ?_<;>conv=>arg 3;whnf
  ·refine Zl rfl rfl fun x8 hx8=>?_;conv=>arg 3;whnf
   refine Zl rfl rfl fun x9 hx9=>?_;conv=>arg 3;whnf
   refine Zc _ ZaL fun x10 hx10=>?_;conv=>arg 3;whnf
   refine Zg (Zdq (f:=Zb) (g:=Zb) (fun ka kb:Int=>(ka==kb)) (fun _ _=>rfl) (Zu (fun ka kb:Int=>(ka==kb)) m5_0 c (w64 ((List.length (m3_0++[(Zi.mk c 0)]):Int)-1))) c (w64 ((List.length ((m3_0++[(Zi.mk c 0)])++[(Zi.mk c 1)]):Int)-1))) ?_;conv=>arg 3;whnf
   refine ZbH rfl ?_;conv=>arg 3;whnf
   refine Zg (Zbq (f:=Zb) (g:=Zb) (fun ka kb:Int=>(ka==kb)) (fun _ _=>rfl) (Zu (fun ka kb:Int=>(ka==kb)) (Zu (fun ka kb:Int=>(ka==kb)) m5_0 c (w64 ((List.length (m3_0++[(Zi.mk c 0)]):Int)-1))) c (w64 ((List.length ((m3_0++[(Zi.mk c 0)])++[(Zi.mk c 1)]):Int)-1))) c 0) ?_;conv=>arg 3;whnf
   refine Zg (Zbq (f:=Zb) (g:=Zb) (fun ka kb:Int=>(ka==kb)) (fun _ _=>rfl) (Zu (fun ka kb:Int=>(ka==kb)) (Zu (fun ka kb:Int=>(ka==kb)) m5_0 c (w64 ((List.length (m3_0++[(Zi.mk c 0)]):Int)-1))) c (w64 ((List.length ((m3_0++[(Zi.mk c 0)])++[(Zi.mk c 1)]):Int)-1))) c 0) ?_;conv=>arg 3;whnf
   refine Zc _ Zar fun x11 hx11=>?_;conv=>arg 3;whnf
   refine Zl rfl rfl fun x12 hx12=>?_;conv=>arg 3;whnf
   refine Zl rfl rfl fun x13 hx13=>?_;conv=>arg 3;whnf
   refine Zg (Zbq (f:=Zb) (g:=Zb) (fun ka kb:Int=>(ka==kb)) (fun _ _=>rfl) (Zu (fun ka kb:Int=>(ka==kb)) (Zu (fun ka kb:Int=>(ka==kb)) m5_0 c (w64 ((List.length (m3_0++[(Zi.mk c 0)]):Int)-1))) c (w64 ((List.length ((m3_0++[(Zi.mk c 0)])++[(Zi.mk c 1)]):Int)-1))) c 0) ?_;conv=>arg 3;whnf
   refine Zg (Zdq (f:=Zq) (g:=Zb) (fun ka kb:Zj=>((ka.maker==kb.maker)&&((ka.user==kb.user)&&((ka.pos==kb.pos)&&true)))) (fun _ _=>rfl) m6_0 x13 (Z2 (fun ka kb:Int=>(ka==kb)) (Zu (fun ka kb:Int=>(ka==kb)) (Zu (fun ka kb:Int=>(ka==kb)) m5_0 c (w64 ((List.length (m3_0++[(Zi.mk c 0)]):Int)-1))) c (w64 ((List.length ((m3_0++[(Zi.mk c 0)])++[(Zi.mk c 1)]):Int)-1))) c 0)) ?_;conv=>arg 3;whnf
   refine Zc _ (ZcG _) fun r26 hr26=>?_;conv=>arg 3;whnf
   exact Zd rfl
  ·refine Zc _ ZaL fun x27 hx27=>?_;conv=>arg 3;whnf
   refine Zg (Zdq (f:=Zb) (g:=Zb) (fun ka kb:Int=>(ka==kb)) (fun _ _=>rfl) (Zu (fun ka kb:Int=>(ka==kb)) m5_0 c (w64 ((List.length (m3_0++[(Zi.mk c 0)]):Int)-1))) c (w64 ((List.length ((m3_0++[(Zi.mk c 0)])++[(Zi.mk c 1)]):Int)-1))) ?_;conv=>arg 3;whnf
   refine ZbH rfl ?_;conv=>arg 3;whnf
   refine Zg (Zbq (f:=Zb) (g:=Zb) (fun ka kb:Int=>(ka==kb)) (fun _ _=>rfl) (Zu (fun ka kb:Int=>(ka==kb)) (Zu (fun ka kb:Int=>(ka==kb)) m5_0 c (w64 ((List.length (m3_0++[(Zi.mk c 0)]):Int)-1))) c (w64 ((List.length ((m3_0++[(Zi.mk c 0)])++[(Zi.mk c 1)]):Int)-1))) c 0) ?_;conv=>arg 3;whnf
   refine Zg (Zbq (f:=Zb) (g:=Zb) (fun ka kb:Int=>(ka==kb)) (fun _ _=>rfl) (Zu (fun ka kb:Int=>(ka==kb)) (Zu (fun ka kb:Int=>(ka==kb)) m5_0 c (w64 ((List.length (m3_0++[(Zi.mk c 0)]):Int)-1))) c (w64 ((List.length ((m3_0++[(Zi.mk c 0)])++[(Zi.mk c 1)]):Int)-1))) c 0) ?_;conv=>arg 3;whnf
   refine Zc _ Zar fun x28 hx28=>?_;conv=>arg 3;whnf
   refine Zl rfl rfl fun x29 hx29=>?_;conv=>arg 3;whnf
   refine Zl rfl rfl fun x30 hx30=>?_;conv=>arg 3;whnf
   refine Zg (Zbq (f:=Zb) (g:=Zb) (fun ka kb:Int=>(ka==kb)) (fun _ _=>rfl) (Zu (fun ka kb:Int=>(ka==kb)) (Zu (fun ka kb:Int=>(ka==kb)) m5_0 c (w64 ((List.length (m3_0++[(Zi.mk c 0)]):Int)-1))) c (w64 ((List.length ((m3_0++[(Zi.mk c 0)])++[(Zi.mk c 1)]):Int)-1))) c 0) ?_;conv=>arg 3;whnf
   refine Zg (Zdq (f:=Zq) (g:=Zb) (fun ka kb:Zj=>((ka.maker==kb.maker)&&((ka.user==kb.user)&&((ka.pos==kb.pos)&&true)))) (fun _ _=>rfl) m6_0 x30 (Z2 (fun ka kb:Int=>(ka==kb)) (Zu (fun ka kb:Int=>(ka==kb)) (Zu (fun ka kb:Int=>(ka==kb)) m5_0 c (w64 ((List.length (m3_0++[(Zi.mk c 0)]):Int)-1))) c (w64 ((List.length ((m3_0++[(Zi.mk c 0)])++[(Zi.mk c 1)]):Int)-1))) c 0)) ?_;conv=>arg 3;whnf
   refine Zc _ (ZcG _) fun r43 hr43=>?_;conv=>arg 3;whnf
   exact Zd rfl
 ·exact Zd rfl
def Zfs (t0:Bool) (t1:Bool) (t2:Bool) (t3:Bool) (b:Zh) (c:Int) (m1_0:(List Int)) (m2_0:(List Zm)) (m3_0:(List Zi)) (m4_0:(List (Int×Int))) (m5_0:(List (Int×Int))) (m6_0:(List (Zj×Int))) (x0:(List Int)) (x2:ZV):(((List (Int×Int))×(List (Zj×Int))×(List Int)×(List Zm)×(List Zi))⊕Unit)→Ex×List V×Zo
  | (.inl r)=>(.exit 0,[],[(.cells [(.sl 7 1),(.sl 8 2),(.sl 9 2),(.mp 4),(.mp 5),(.mp 6)]),.dead,.dead,.dead,(.mp (mpD Zb Zb (Zu (fun ka kb:Int=>(ka==kb)) m4_0 c (m3_0.length:Int)))),(.mp (mpD Zb Zb r.1)),(.mp (mpD Zq Zb r.2.1)),(.arr 1 (List.map Zb r.2.2.1)),(.arr 2 (List.map ZF r.2.2.2.1)),(.arr 2 (List.map Zbi r.2.2.2.2))])
  | (.inr r)=>(.exit 0,[],[(.cells [(.sl 7 1),(.sl 2 2),(.sl 8 2),(.mp 4),(.mp 5),(.mp 6)]),.dead,(.arr 2 (List.map ZF m2_0)),.dead,(.mp (mpD Zb Zb (Zu (fun ka kb:Int=>(ka==kb)) m4_0 c (m3_0.length:Int)))),(.mp (mpD Zb Zb (Zu (fun ka kb:Int=>(ka==kb)) m5_0 c (w64 ((List.length (m3_0++[(Zi.mk c 0)]):Int)-1))))),(.mp (mpD Zq Zb m6_0)),(.arr 1 (List.map Zb (m1_0++[(w64 (x2.work-0))]))),(.arr 2 (List.map Zbi (m3_0++[(Zi.mk c 0)])))])
theorem Zhz {t0:Bool}{t1:Bool}{t2:Bool}{t3:Bool}{b:Zh}{c:Int}{m1_0:(List Int)}{m2_0:(List Zm)}{m3_0:(List Zi)}{m4_0:(List (Int×Int))}{m5_0:(List (Int×Int))}{m6_0:(List (Zj×Int))}{x0:(List Int)}{x2:ZV}:∀(s46:Unit) (r:(((List (Int×Int))×(List (Zj×Int))×(List Int)×(List Zm)×(List Zi))⊕Unit)),lp (Zcc b c m1_0 m2_0 m3_0 m5_0 m6_0 x0 x2) s46=some r→lpW ctx 7 [0,2,4,6,7,26,27] [] ZpG [(.ptr 0 0),(.d (Zb c)),(.ptr 7 0),(.d (Zb x2.work)),(.d (D.list true (List.map Zb x0))),(.d (Zb (w64 ((x0.length:Int)+1)))),(.d (Zb 1))] [(.cells [(.sl 8 1),(.sl 2 2),(.sl 9 2),(.mp 4),(.mp 5),(.mp 6)]),.dead,(.arr 2 (List.map ZF m2_0)),.dead,(.mp (mpD Zb Zb (Zu (fun ka kb:Int=>(ka==kb)) m4_0 c (m3_0.length:Int)))),(.mp (mpD Zb Zb (Zu (fun ka kb:Int=>(ka==kb)) m5_0 c (w64 ((List.length (m3_0++[(Zi.mk c 0)]):Int)-1))))),(.mp (mpD Zq Zb m6_0)),(.cells (dV t0 t1 t2 t3 b)),(.arr 1 (List.map Zb (m1_0++[(w64 (x2.work-0))]))),(.arr 2 (List.map Zbi (m3_0++[(Zi.mk c 0)])))]=some ((Zfs t0 t1 t2 t3 b c m1_0 m2_0 m3_0 m4_0 m5_0 m6_0 x0 x2) r):=by
 refine ZaM (Zfs t0 t1 t2 t3 b c m1_0 m2_0 m3_0 m4_0 m5_0 m6_0 x0 x2) ?_
 intro s46 rcl ih
 show ZO _ _ (lpW _ _ _ _ _ _ _)
 unfold Zcc
 rw[ZaN]
 conv=>arg 3;whnf
 refine Zf rfl ?_ ?_<;>conv=>arg 3;whnf
 ·refine Zl rfl rfl fun x47 hx47=>?_;conv=>arg 3;whnf
  refine Zn (ZI _ _) ?_;conv=>arg 3;whnf
  refine Zf rfl ?_ ?_<;>conv=>arg 3;whnf
  ·refine Zl rfl rfl fun x48 hx48=>?_;conv=>arg 3;whnf
   refine Zl rfl rfl fun x49 hx49=>?_;conv=>arg 3;whnf
   refine Zc _ ZaL fun x50 hx50=>?_;conv=>arg 3;whnf
   refine Zg (Zdq (f:=Zb) (g:=Zb) (fun ka kb:Int=>(ka==kb)) (fun _ _=>rfl) (Zu (fun ka kb:Int=>(ka==kb)) m5_0 c (w64 ((List.length (m3_0++[(Zi.mk c 0)]):Int)-1))) c (w64 ((List.length ((m3_0++[(Zi.mk c 0)])++[(Zi.mk c 1)]):Int)-1))) ?_;conv=>arg 3;whnf
   refine ZbH rfl ?_;conv=>arg 3;whnf
   refine Zg (Zbq (f:=Zb) (g:=Zb) (fun ka kb:Int=>(ka==kb)) (fun _ _=>rfl) (Zu (fun ka kb:Int=>(ka==kb)) (Zu (fun ka kb:Int=>(ka==kb)) m5_0 c (w64 ((List.length (m3_0++[(Zi.mk c 0)]):Int)-1))) c (w64 ((List.length ((m3_0++[(Zi.mk c 0)])++[(Zi.mk c 1)]):Int)-1))) c 0) ?_;conv=>arg 3;whnf
   refine Zg (Zbq (f:=Zb) (g:=Zb) (fun ka kb:Int=>(ka==kb)) (fun _ _=>rfl) (Zu (fun ka kb:Int=>(ka==kb)) (Zu (fun ka kb:Int=>(ka==kb)) m5_0 c (w64 ((List.length (m3_0++[(Zi.mk c 0)]):Int)-1))) c (w64 ((List.length ((m3_0++[(Zi.mk c 0)])++[(Zi.mk c 1)]):Int)-1))) c 0) ?_;conv=>arg 3;whnf
   refine Zc _ Zar fun x51 hx51=>?_;conv=>arg 3;whnf
   refine Zl rfl rfl fun x52 hx52=>?_;conv=>arg 3;whnf
   refine Zl rfl rfl fun x53 hx53=>?_;conv=>arg 3;whnf
   refine Zg (Zbq (f:=Zb) (g:=Zb) (fun ka kb:Int=>(ka==kb)) (fun _ _=>rfl) (Zu (fun ka kb:Int=>(ka==kb)) (Zu (fun ka kb:Int=>(ka==kb)) m5_0 c (w64 ((List.length (m3_0++[(Zi.mk c 0)]):Int)-1))) c (w64 ((List.length ((m3_0++[(Zi.mk c 0)])++[(Zi.mk c 1)]):Int)-1))) c 0) ?_;conv=>arg 3;whnf
   refine Zg (Zdq (f:=Zq) (g:=Zb) (fun ka kb:Zj=>((ka.maker==kb.maker)&&((ka.user==kb.user)&&((ka.pos==kb.pos)&&true)))) (fun _ _=>rfl) m6_0 x53 (Z2 (fun ka kb:Int=>(ka==kb)) (Zu (fun ka kb:Int=>(ka==kb)) (Zu (fun ka kb:Int=>(ka==kb)) m5_0 c (w64 ((List.length (m3_0++[(Zi.mk c 0)]):Int)-1))) c (w64 ((List.length ((m3_0++[(Zi.mk c 0)])++[(Zi.mk c 1)]):Int)-1))) c 0)) ?_;conv=>arg 3;whnf
   refine Zc _ (ZcG _) fun r66 hr66=>?_;conv=>arg 3;whnf
   exact Zd rfl
  ·refine Zc _ ZaL fun x67 hx67=>?_;conv=>arg 3;whnf
   refine Zg (Zdq (f:=Zb) (g:=Zb) (fun ka kb:Int=>(ka==kb)) (fun _ _=>rfl) (Zu (fun ka kb:Int=>(ka==kb)) m5_0 c (w64 ((List.length (m3_0++[(Zi.mk c 0)]):Int)-1))) c (w64 ((List.length ((m3_0++[(Zi.mk c 0)])++[(Zi.mk c 1)]):Int)-1))) ?_;conv=>arg 3;whnf
   refine ZbH rfl ?_;conv=>arg 3;whnf
   refine Zg (Zbq (f:=Zb) (g:=Zb) (fun ka kb:Int=>(ka==kb)) (fun _ _=>rfl) (Zu (fun ka kb:Int=>(ka==kb)) (Zu (fun ka kb:Int=>(ka==kb)) m5_0 c (w64 ((List.length (m3_0++[(Zi.mk c 0)]):Int)-1))) c (w64 ((List.length ((m3_0++[(Zi.mk c 0)])++[(Zi.mk c 1)]):Int)-1))) c 0) ?_;conv=>arg 3;whnf
   refine Zg (Zbq (f:=Zb) (g:=Zb) (fun ka kb:Int=>(ka==kb)) (fun _ _=>rfl) (Zu (fun ka kb:Int=>(ka==kb)) (Zu (fun ka kb:Int=>(ka==kb)) m5_0 c (w64 ((List.length (m3_0++[(Zi.mk c 0)]):Int)-1))) c (w64 ((List.length ((m3_0++[(Zi.mk c 0)])++[(Zi.mk c 1)]):Int)-1))) c 0) ?_;conv=>arg 3;whnf
   refine Zc _ Zar fun x68 hx68=>?_;conv=>arg 3;whnf
   refine Zl rfl rfl fun x69 hx69=>?_;conv=>arg 3;whnf
   refine Zl rfl rfl fun x70 hx70=>?_;conv=>arg 3;whnf
   refine Zg (Zbq (f:=Zb) (g:=Zb) (fun ka kb:Int=>(ka==kb)) (fun _ _=>rfl) (Zu (fun ka kb:Int=>(ka==kb)) (Zu (fun ka kb:Int=>(ka==kb)) m5_0 c (w64 ((List.length (m3_0++[(Zi.mk c 0)]):Int)-1))) c (w64 ((List.length ((m3_0++[(Zi.mk c 0)])++[(Zi.mk c 1)]):Int)-1))) c 0) ?_;conv=>arg 3;whnf
   refine Zg (Zdq (f:=Zq) (g:=Zb) (fun ka kb:Zj=>((ka.maker==kb.maker)&&((ka.user==kb.user)&&((ka.pos==kb.pos)&&true)))) (fun _ _=>rfl) m6_0 x70 (Z2 (fun ka kb:Int=>(ka==kb)) (Zu (fun ka kb:Int=>(ka==kb)) (Zu (fun ka kb:Int=>(ka==kb)) m5_0 c (w64 ((List.length (m3_0++[(Zi.mk c 0)]):Int)-1))) c (w64 ((List.length ((m3_0++[(Zi.mk c 0)])++[(Zi.mk c 1)]):Int)-1))) c 0)) ?_;conv=>arg 3;whnf
   refine Zc _ (ZcG _) fun r83 hr83=>?_;conv=>arg 3;whnf
   exact Zd rfl
 ·exact Zd rfl
def Zfk (t0:Bool) (t1:Bool) (t2:Bool) (t3:Bool) (b:Zh) (c:Int) (m1_0:(List Int)) (m2_0:(List Zm)) (m3_0:(List Zi)) (m4_0:(List (Int×Int))) (m5_0:(List (Int×Int))) (m6_0:(List (Zj×Int))) (x0:(List Int)):(((List (Int×Int))×(List (Zj×Int))×(List Int)×(List Zm)×(List Zi))⊕((List Int)⊕Unit))→Ex×List V×Zo
  | (.inl r)=>(.exit 0,[],[(.cells [(.sl 7 1),(.sl 8 2),(.sl 9 2),(.mp 4),(.mp 5),(.mp 6)]),.dead,.dead,.dead,(.mp (mpD Zb Zb (Zu (fun ka kb:Int=>(ka==kb)) m4_0 c (m3_0.length:Int)))),(.mp (mpD Zb Zb r.1)),(.mp (mpD Zq Zb r.2.1)),(.arr 1 (List.map Zb r.2.2.1)),(.arr 2 (List.map ZF r.2.2.2.1)),(.arr 2 (List.map Zbi r.2.2.2.2))])
  | (.inr (.inl r))=>(.exit 0,[],[(.cells [(.sl 7 1),(.sl 2 2),(.sl 8 2),(.mp 4),(.mp 5),(.mp 6)]),.dead,(.arr 2 (List.map ZF m2_0)),.dead,(.mp (mpD Zb Zb (Zu (fun ka kb:Int=>(ka==kb)) m4_0 c (m3_0.length:Int)))),(.mp (mpD Zb Zb (Zu (fun ka kb:Int=>(ka==kb)) m5_0 c (w64 ((List.length (m3_0++[(Zi.mk c 0)]):Int)-1))))),(.mp (mpD Zq Zb m6_0)),(.arr 1 (List.map Zb r)),(.arr 2 (List.map Zbi (m3_0++[(Zi.mk c 0)])))])
  | (.inr (.inr r))=>(.exit 0,[],[(.cells [(.sl 1 1),(.sl 2 2),(.sl 3 2),(.mp 4),(.mp 5),(.mp 6)]),(.arr 1 (List.map Zb m1_0)),(.arr 2 (List.map ZF m2_0)),(.arr 2 (List.map Zbi m3_0)),(.mp (mpD Zb Zb (Zu (fun ka kb:Int=>(ka==kb)) m4_0 c (m3_0.length:Int)))),(.mp (mpD Zb Zb m5_0)),(.mp (mpD Zq Zb m6_0))])
theorem ZhA {t0:Bool}{t1:Bool}{t2:Bool}{t3:Bool}{b:Zh}{c:Int}{m1_0:(List Int)}{m2_0:(List Zm)}{m3_0:(List Zi)}{m4_0:(List (Int×Int))}{m5_0:(List (Int×Int))}{m6_0:(List (Zj×Int))}{x0:(List Int)}:∀(s1:Unit) (r:(((List (Int×Int))×(List (Zj×Int))×(List Int)×(List Zm)×(List Zi))⊕((List Int)⊕Unit))),lp (Zbt b c m1_0 m2_0 m3_0 m5_0 m6_0 x0) s1=some r→lpW ctx 7 [0,2,4,6,7,26,27] [] ZpG [(.ptr 0 0),(.d (Zb c)),(.ptr 7 0),(.d (Zb 0)),(.d (D.list true (List.map Zb x0))),(.d (Zb (w64 ((x0.length:Int)+1)))),(.d (Zb 0))] [(.cells [(.sl 1 1),(.sl 2 2),(.sl 3 2),(.mp 4),(.mp 5),(.mp 6)]),(.arr 1 (List.map Zb m1_0)),(.arr 2 (List.map ZF m2_0)),(.arr 2 (List.map Zbi m3_0)),(.mp (mpD Zb Zb (Zu (fun ka kb:Int=>(ka==kb)) m4_0 c (m3_0.length:Int)))),(.mp (mpD Zb Zb m5_0)),(.mp (mpD Zq Zb m6_0)),(.cells (dV t0 t1 t2 t3 b))]=some ((Zfk t0 t1 t2 t3 b c m1_0 m2_0 m3_0 m4_0 m5_0 m6_0 x0) r):=by
 refine ZaM (Zfk t0 t1 t2 t3 b c m1_0 m2_0 m3_0 m4_0 m5_0 m6_0 x0) ?_
 intro s1 rcl ih
 show ZO _ _ (lpW _ _ _ _ _ _ _)
 unfold Zbt
 rw[ZaN]
 conv=>arg 3;whnf
 refine Zf rfl ?_ ?_<;>conv=>arg 3;whnf
 ·refine Zl rfl rfl fun x2 hx2=>?_;conv=>arg 3;whnf
  refine Zn (ZI _ _) ?_;conv=>arg 3;whnf
  refine Zf rfl ?_ ?_<;>conv=>arg 3;whnf
  ·refine Zl rfl rfl fun x3 hx3=>?_;conv=>arg 3;whnf
   refine Zl rfl rfl fun x4 hx4=>?_;conv=>arg 3;whnf
   refine Zc _ ZaL fun x5 hx5=>?_;conv=>arg 3;whnf
   refine Zg (Zdq (f:=Zb) (g:=Zb) (fun ka kb:Int=>(ka==kb)) (fun _ _=>rfl) m5_0 c (w64 ((List.length (m3_0++[(Zi.mk c 0)]):Int)-1))) ?_;conv=>arg 3;whnf
   refine Zal rfl ?_;conv=>arg 3;whnf
   refine Zc _ (Zht _) fun r44 hr44=>?_
   clear hr44
   rcases r44 with r44 | r44
   ·conv=>arg 3;whnf
    exact Zd rfl
   ·conv=>arg 3;whnf
    exact Zd rfl
  ·refine Zc _ ZaL fun x45 hx45=>?_;conv=>arg 3;whnf
   refine Zg (Zdq (f:=Zb) (g:=Zb) (fun ka kb:Int=>(ka==kb)) (fun _ _=>rfl) m5_0 c (w64 ((List.length (m3_0++[(Zi.mk c 0)]):Int)-1))) ?_;conv=>arg 3;whnf
   refine Zal rfl ?_;conv=>arg 3;whnf
   refine Zc _ (Zhz _) fun r84 hr84=>?_
   clear hr84
   rcases r84 with r84 | r84
   ·conv=>arg 3;whnf
    exact Zd rfl
   ·conv=>arg 3;whnf
    exact Zd rfl
 ·exact Zd rfl
theorem ZjT {t0:Bool}{t1:Bool}{t2:Bool}{t3:Bool}{b:Zh}{c:Int}{m1_0:(List Int)}{m2_0:(List Zm)}{m3_0:(List Zi)}{m4_0:(List (Int×Int))}{m5_0:(List (Int×Int))}{m6_0:(List (Zj×Int))}:∀r,(Zdr b c m1_0 m2_0 m3_0 m5_0 m6_0)=some r→evW ctx 66 [(.ptr 0 0),(.d (D.agg (dA t0 t1 t2 t3 b))),(.d (Zb c))] [(.cells [(.sl 1 1),(.sl 2 2),(.sl 3 2),(.mp 4),(.mp 5),(.mp 6)]),(.arr 1 (List.map Zb m1_0)),(.arr 2 (List.map ZF m2_0)),(.arr 2 (List.map Zbi m3_0)),(.mp (mpD Zb Zb m4_0)),(.mp (mpD Zb Zb m5_0)),(.mp (mpD Zq Zb m6_0))]=some ((Zgx t0 t1 t2 t3 b c m1_0 m2_0 m3_0 m4_0 m5_0 m6_0) r):=by
 show ZO _ (fun r rhs=>rhs=some ((Zgx t0 t1 t2 t3 b c m1_0 m2_0 m3_0 m4_0 m5_0 m6_0) r)) _
 unfold Zdr
 rw[ZfE ctx 66 ZBi _ _ rfl rfl]
 conv=>arg 3;whnf
 refine Zn (ZI _ _) ?_;conv=>arg 3;whnf
 refine Zg (Zdq (f:=Zb) (g:=Zb) (fun ka kb:Int=>(ka==kb)) (fun _ _=>rfl) m4_0 c (m3_0.length:Int)) ?_;conv=>arg 3;whnf
 refine Zp _ Zix rfl fun x0 hx0=>?_;conv=>arg 3;whnf
 refine Zn (ZI _ _) ?_;conv=>arg 3;whnf
 refine Zc _ (ZhA _) fun r85 hr85=>?_
 clear hr85
 rcases r85 with r85 | (r85 | r85)
 ·conv=>arg 3;whnf
  exact Zd rfl
 ·conv=>arg 3;whnf
  exact Zd rfl
 ·conv=>arg 3;whnf
  exact Zd rfl
def Zka (r:Bool):D:=(D.bool r)
theorem Zny {a:Int}:∀r,(ZcV a)=some r→evD ctx 102 [(.d (Zb a))]=some (Zka r):=by
 show ZO _ (fun r rhs=>rhs=some (Zka r)) _
 unfold ZcV
 rw[ZaY ctx 102 Zxt _ rfl rfl]
 conv=>arg 3;whnf
 refine Zf rfl ?_ ?_<;>conv=>arg 3;whnf
 ·exact Zd rfl
 ·refine Zf rfl ?_ ?_<;>conv=>arg 3;whnf
  ·exact Zd rfl
  ·exact Zd rfl
def Zct (r:Int):D:=(Zb r)
def Zb9 (t0:Bool) (a:(List Int)):(Int⊕Unit)→Ex×List V×Zo
  | (.inl r)=>(.ret,[(.d (Zb r))],[])
  | (.inr r)=>(.exit 0,[.bad],[])
theorem Zec {t0:Bool}{a:(List Int)}:∀(s0:Int) (r:(Int⊕Unit)),lp (Zan a (fun z0=>ZcV z0)) s0=some r→lpW ctx 0 [0,1,7,8] [4] ZrL [(.d (D.list t0 (List.map Zb a))),(.d (D.fn 102 [])),(.d (Zb (a.length:Int))),(.d (Zb s0))] []=some ((Zb9 t0 a) r):=by
 refine ZaM (Zb9 t0 a) ?_
 intro s0 rcl ih
 show ZO _ _ (lpW _ _ _ _ _ _ _)
 unfold Zan
 rw[ZaN]
 conv=>arg 3;whnf
 refine Zf rfl ?_ ?_<;>conv=>arg 3;whnf
 ·refine Zl rfl rfl fun x1 hx1=>?_;conv=>arg 3;whnf
  refine Zp _ Zny rfl fun x2 hx2=>?_;conv=>arg 3;whnf
  refine Zf rfl ?_ ?_<;>conv=>arg 3;whnf
  ·exact Zd rfl
  ·exact Ze (ih _)
 ·exact Zd rfl
theorem ZeE {t0:Bool}{a:(List Int)}:∀r,(ZaW a (fun z0=>ZcV z0))=some r→evD ctx 116 [(.d (D.list t0 (List.map Zb a))),(.d (D.fn 102 []))]=some (Zct r):=by
 show ZO _ (fun r rhs=>rhs=some (Zct r)) _
 unfold ZaW
 rw[ZaY ctx 116 ZvM _ rfl rfl]
 conv=>arg 3;whnf
 refine Zn (ZI _ _) ?_;conv=>arg 3;whnf
 refine Zc _ (Zec _) fun r3 hr3=>?_
 clear hr3
 rcases r3 with r3 | r3
 ·conv=>arg 3;whnf
  exact Zd rfl
 ·conv=>arg 3;whnf
  exact Zd rfl
def Zcd (r:Bool):D:=(D.bool r)
theorem Zee {t0:Bool}{a:(List Int)}:∀r,(Z7 a (fun z0=>ZcV z0))=some r→evD ctx 93 [(.d (D.list t0 (List.map Zb a))),(.d (D.fn 102 []))]=some (Zcd r):=by
 show ZO _ (fun r rhs=>rhs=some (Zcd r)) _
 unfold Z7
 rw[ZaY ctx 93 ZzH _ rfl rfl]
 conv=>arg 3;whnf
 refine Zp _ ZeE rfl fun x0 hx0=>?_;conv=>arg 3;whnf
 refine Zf rfl ?_ ?_<;>conv=>arg 3;whnf
 ·exact Zd rfl
 ·exact Zd rfl
def Zke (r:Bool):D:=(D.bool r)
theorem Zi9 {t0:Bool}{t1:Bool}{a:Int}{b0:(List Int)}{b1:(List Zm)}:∀r,(Ze4 a b0)=some r→evD ctx 103 [(.d (Zb a)),(.d (D.rptr [(D.list t0 (List.map Zb b0)),(D.list t1 (List.map ZF b1))]))]=some (Zke r):=by
 show ZO _ (fun r rhs=>rhs=some (Zke r)) _
 unfold Ze4
 rw[ZaY ctx 103 ZxD _ rfl rfl]
 conv=>arg 3;whnf
 refine Zf rfl ?_ ?_<;>conv=>arg 3;whnf
 ·refine Zn (ZI _ _) ?_;conv=>arg 3;whnf
  refine Zf rfl ?_ ?_<;>conv=>arg 3;whnf
  ·exact Zd rfl
  ·exact Zd rfl
 ·exact Zd rfl
def Zlx (r:((List Int)×Bool)):D:=(D.tup [(D.list true (List.map Zb r.1)),(D.bool r.2)])
def Zjt (t0:Bool) (t1:Bool) (a:Zch) (s0:(List Int)×(List Bool)) (s1:Int):(Unit⊕Unit)→Ex×List V×Zo
  | (.inl r)=>(.exit 3,[(.ptr 0 0),(.sl 1 1),(.sl 2 1),(.d (Zb s1)),(.d (Zb (a.work.length:Int))),(.d (Zb s1))],[(.cells [(.d (D.list t0 (List.map Zb a.work))),(.d (D.list t1 (List.map ZF a.edges)))]),(.arr 1 (List.map Zb s0.1)),(.arr 1 (List.map D.bool s0.2))])
  | (.inr r)=>(.exit 4,[(.ptr 0 0),(.sl 1 1),(.sl 2 1),(.d (Zb s1)),(.d (Zb (a.work.length:Int))),(.d (Zb s1))],[(.cells [(.d (D.list t0 (List.map Zb a.work))),(.d (D.list t1 (List.map ZF a.edges)))]),(.arr 1 (List.map Zb s0.1)),(.arr 1 (List.map D.bool s0.2))])
theorem ZmL {t0:Bool}{t1:Bool}{a:Zch}{s0:(List Int)×(List Bool)}{s1:Int}:∀(s3:Int) (r:(Unit⊕Unit)),lp (ZeD a s0 s1) s3=some r→lpW ctx 0 [1,4,5,6,21,22,30,31,32] [1,4,5,6,21,22] Zyl [(.ptr 0 0),(.sl 1 1),(.sl 2 1),(.d (Zb s1)),(.d (Zb (a.work.length:Int))),(.d (Zb s1)),(.d (D.list t1 (List.map ZF a.edges))),(.d (Zb (a.edges.length:Int))),(.d (Zb s3))] [(.cells [(.d (D.list t0 (List.map Zb a.work))),(.d (D.list t1 (List.map ZF a.edges)))]),(.arr 1 (List.map Zb s0.1)),(.arr 1 (List.map D.bool s0.2))]=some ((Zjt t0 t1 a s0 s1) r):=by
 refine ZaM (Zjt t0 t1 a s0 s1) ?_
 intro s3 rcl ih
 show ZO _ _ (lpW _ _ _ _ _ _ _)
 unfold ZeD
 rw[ZaN]
 conv=>arg 3;whnf
 refine Zf rfl ?_ ?_<;>conv=>arg 3;whnf
 ·refine Zl rfl rfl fun x4 hx4=>?_;conv=>arg 3;whnf
  refine Zf rfl ?_ ?_<;>conv=>arg 3;whnf
  ·refine Zl rfl rfl fun x5 hx5=>?_;conv=>arg 3;whnf
   refine Zg (Zy rfl hx5) ?_;conv=>arg 3;whnf
   refine Zf rfl ?_ ?_<;>conv=>arg 3;whnf
   ·exact Ze (ih _)
   ·exact Zd rfl
  ·exact Ze (ih _)
 ·exact Zd rfl
def Zjm (t0:Bool) (t1:Bool) (a:Zch) (s0:(List Int)×(List Bool)):(((List Int)×(List Bool))⊕Unit)→Ex×List V×Zo
  | (.inl r)=>(.exit 1,[(.ptr 0 0),(.sl 1 1),(.sl 2 1)],[(.cells [(.d (D.list t0 (List.map Zb a.work))),(.d (D.list t1 (List.map ZF a.edges)))]),(.arr 1 (List.map Zb r.1)),(.arr 1 (List.map D.bool r.2))])
  | (.inr r)=>(.exit 2,[(.ptr 0 0),(.sl 1 1),(.sl 2 1)],[(.cells [(.d (D.list t0 (List.map Zb a.work))),(.d (D.list t1 (List.map ZF a.edges)))]),(.arr 1 (List.map Zb s0.1)),(.arr 1 (List.map D.bool s0.2))])
theorem ZmU {t0:Bool}{t1:Bool}{a:Zch}{s0:(List Int)×(List Bool)}:∀(s1:Int) (r:(((List Int)×(List Bool))⊕Unit)),lp (ZdL a s0) s1=some r→lpW ctx 0 [1,4,5,21,22] [1,4,5] Zx0 [(.ptr 0 0),(.sl 1 1),(.sl 2 1),(.d (Zb (a.work.length:Int))),(.d (Zb s1))] [(.cells [(.d (D.list t0 (List.map Zb a.work))),(.d (D.list t1 (List.map ZF a.edges)))]),(.arr 1 (List.map Zb s0.1)),(.arr 1 (List.map D.bool s0.2))]=some ((Zjm t0 t1 a s0) r):=by
 refine ZaM (Zjm t0 t1 a s0) ?_
 intro s1 rcl ih
 show ZO _ _ (lpW _ _ _ _ _ _ _)
 unfold ZdL
 rw[ZaN]
 conv=>arg 3;whnf
 refine Zf rfl ?_ ?_<;>conv=>arg 3;whnf
 ·refine Zl rfl rfl fun x2 hx2=>?_;conv=>arg 3;whnf
  refine Zg (Zy rfl hx2) ?_;conv=>arg 3;whnf
  refine Zf rfl ?_ ?_<;>conv=>arg 3;whnf
  ·exact Ze (ih _)
  ·refine Zn (ZI _ _) ?_;conv=>arg 3;whnf
   refine Zc _ (ZmL _) fun r6 hr6=>?_
   clear hr6
   rcases r6 with r6 | r6
   ·conv=>arg 3;whnf
    exact Ze (ih _)
   ·conv=>arg 3;whnf
    refine Zg (ZbO rfl hx2) ?_;conv=>arg 3;whnf
    refine Zg (Zy rfl hx2) ?_;conv=>arg 3;whnf
    refine Zn (Zax D.bool s0.2 s1.toNat true) ?_;conv=>arg 3;whnf
    refine ZbH rfl ?_;conv=>arg 3;whnf
    refine Zf (Zgn Zb s0.1 1) ?_ ?_
    ·conv=>arg 3;whnf
     refine Zn (Zgj Zb s0.1 [s1]) ?_;conv=>arg 3;whnf
     exact Zd rfl
    ·exact Z5
 ·exact Zd rfl
def Zi4 (t0:Bool) (t1:Bool) (a:Zch):((List Int)⊕(List Int))→Ex×List V×Zo
  | (.inl r)=>(.ret,[(.nilsl 1),(.d (D.bool false)),(.sl 0 1)],[(.arr 1 (List.map Zb r))])
  | (.inr r)=>(.exit 0,[.bad,.bad,(.sl 0 1)],[(.arr 1 (List.map Zb r))])
theorem Zm7 {t0:Bool}{t1:Bool}{a:Zch}:∀(s0:(List Int)×(List Bool)) (r:((List Int)⊕(List Int))),lp (ZeF a) s0=some r→lpW ctx 0 [1,4,5] [2,3,4] ZwD [(.ptr 0 0),(.sl 1 1),(.sl 2 1)] [(.cells [(.d (D.list t0 (List.map Zb a.work))),(.d (D.list t1 (List.map ZF a.edges)))]),(.arr 1 (List.map Zb s0.1)),(.arr 1 (List.map D.bool s0.2))]=some ((Zi4 t0 t1 a) r):=by
 refine ZaM (Zi4 t0 t1 a) ?_
 intro s0 rcl ih
 show ZO _ _ (lpW _ _ _ _ _ _ _)
 unfold ZeF
 rw[ZaN]
 conv=>arg 3;whnf
 refine Zn (ZI _ _) ?_;conv=>arg 3;whnf
 refine Zn (ZI _ _) ?_;conv=>arg 3;whnf
 refine Zf rfl ?_ ?_<;>conv=>arg 3;whnf
 ·refine Zn (ZI _ _) ?_;conv=>arg 3;whnf
  refine Zc _ (ZmU _) fun r7 hr7=>?_
  clear hr7
  rcases r7 with r7 | r7
  ·conv=>arg 3;whnf
   exact Ze (ih _)
  ·conv=>arg 3;whnf
   exact Zd rfl
 ·exact Zd rfl
theorem Zkx {t0:Bool}{t1:Bool}{a:Zch}:∀r,(ZeH a)=some r→evD ctx 77 [(.d (D.agg [(D.list t0 (List.map Zb a.work)),(D.list t1 (List.map ZF a.edges))]))]=some (Zlx r):=by
 show ZO _ (fun r rhs=>rhs=some (Zlx r)) _
 unfold ZeH
 rw[ZaY ctx 77 ZAL _ rfl rfl]
 conv=>arg 3;whnf
 refine Zn (ZI _ _) ?_;conv=>arg 3;whnf
 refine Zf rfl ?_ ?_
 ·conv=>arg 3;whnf
  refine Zn (ZmO D.bool (false:Bool) (a.work.length:Int)) ?_;conv=>arg 3;whnf
  refine Zc _ (Zm7 _) fun r8 hr8=>?_
  clear hr8
  rcases r8 with r8 | r8
  ·conv=>arg 3;whnf
   exact Zd rfl
  ·conv=>arg 3;whnf
   exact Zd rfl
 ·exact Z5
def ZlD (r:Int):D:=(Zb r)
def Zjb (t0:Bool) (t1:Bool) (a:Zch):(Unit⊕Unit)→Ex×List V×Zo
  | (.inl r)=>(.ret,[(.ptr 0 0),(.d (Zb 42))],[(.cells [(.d (D.list t0 (List.map Zb a.work))),(.d (D.list t1 (List.map ZF a.edges)))])])
  | (.inr r)=>(.exit 0,[(.ptr 0 0),.bad],[(.cells [(.d (D.list t0 (List.map Zb a.work))),(.d (D.list t1 (List.map ZF a.edges)))])])
theorem Zm9 {t0:Bool}{t1:Bool}{a:Zch}:∀(s1:Int) (r:(Unit⊕Unit)),lp (ZdV a) s1=some r→lpW ctx 0 [1,3,23,24,25] [1,2] Zw9 [(.ptr 0 0),(.fn 103 [(.ptr 0 0)]),(.d (D.list t1 (List.map ZF a.edges))),(.d (Zb (a.edges.length:Int))),(.d (Zb s1))] [(.cells [(.d (D.list t0 (List.map Zb a.work))),(.d (D.list t1 (List.map ZF a.edges)))])]=some ((Zjb t0 t1 a) r):=by
 refine ZaM (Zjb t0 t1 a) ?_
 intro s1 rcl ih
 show ZO _ _ (lpW _ _ _ _ _ _ _)
 unfold ZdV
 rw[ZaN]
 conv=>arg 3;whnf
 refine Zf rfl ?_ ?_<;>conv=>arg 3;whnf
 ·refine Zl rfl rfl fun x2 hx2=>?_;conv=>arg 3;whnf
  refine Zp _ Zi9 rfl fun x3 hx3=>?_;conv=>arg 3;whnf
  refine Zf rfl ?_ ?_<;>conv=>arg 3;whnf
  ·refine Zp _ Zi9 rfl fun x4 hx4=>?_;conv=>arg 3;whnf
   refine Zf rfl ?_ ?_<;>conv=>arg 3;whnf
   ·refine Zf rfl ?_ ?_<;>conv=>arg 3;whnf
    ·exact Zd rfl
    ·refine Zf rfl ?_ ?_
     ·conv=>arg 3;whnf
      refine Zf (ZxA ZF a.edges s1.toNat) ?_ ?_
      ·conv=>arg 3;whnf
       refine ZbH rfl ?_;conv=>arg 3;whnf
       refine Zn (Zsq ZF a.edges s1.toNat) ?_;conv=>arg 3;whnf
       refine Zp _ Zef rfl fun x5 hx5=>?_;conv=>arg 3;whnf
       refine Zf rfl ?_ ?_<;>conv=>arg 3;whnf
       ·exact Zd rfl
       ·exact Ze (ih _)
      ·exact Z5
     ·exact Z5
   ·exact Zd rfl
  ·exact Zd rfl
 ·exact Zd rfl
theorem ZkP {t0:Bool}{t1:Bool}{a:Zch}:∀r,(Zf6 a)=some r→evD ctx 69 [(.d (D.agg [(D.list t0 (List.map Zb a.work)),(D.list t1 (List.map ZF a.edges))]))]=some (ZlD r):=by
 show ZO _ (fun r rhs=>rhs=some (ZlD r)) _
 unfold Zf6
 rw[ZaY ctx 69 ZBJ _ rfl rfl]
 conv=>arg 3;whnf
 refine Zn (ZI _ _) ?_;conv=>arg 3;whnf
 refine Zf rfl ?_ ?_<;>conv=>arg 3;whnf
 ·exact Zd rfl
 ·refine Zn (ZI _ _) ?_;conv=>arg 3;whnf
  refine Zf rfl ?_ ?_<;>conv=>arg 3;whnf
  ·exact Zd rfl
  ·refine Zp _ Zee rfl fun x0 hx0=>?_;conv=>arg 3;whnf
   refine Zf rfl ?_ ?_<;>conv=>arg 3;whnf
   ·exact Zd rfl
   ·refine Zn (ZI _ _) ?_;conv=>arg 3;whnf
    refine Zc _ (Zm9 _) fun r6 hr6=>?_
    clear hr6
    rcases r6 with r6 | r6
    ·conv=>arg 3;whnf
     exact Zd rfl
    ·conv=>arg 3;whnf
     refine Zp _ Zkx rfl fun x7 hx7=>?_;conv=>arg 3;whnf
     refine Zf rfl ?_ ?_<;>conv=>arg 3;whnf
     ·exact Zd rfl
     ·exact Zd rfl
def Zj1 (r:(Zms×Int)):D:=(D.tup [(D.agg [(D.list true (List.map Zb r.1.dag.work)),(D.list true (List.map ZF r.1.dag.edges)),(D.list true (List.map Zbi r.1.pieces))]),(Zb r.2)])
def ZhU (t0:Bool) (t1:Bool) (t2:Bool) (t3:Bool) (a:Zh):((List Int)×(List Zm)×(List Zi)×(List (Int×Int))×(List (Int×Int))×(List (Zj×Int)))→Ex×List V×Zo
  | r=>(.exit 0,[(.ptr 0 0),(.ptr 1 0),(.ptr 2 0)],[(.cells (dV t0 t1 t2 t3 a)),(.cells [(.sl 3 1),(.sl 4 2),(.sl 5 2)]),(.cells [(.sl 6 1),(.sl 7 2),(.sl 8 2),(.mp 9),(.mp 10),(.mp 11)]),(.arr 1 []),(.arr 2 []),(.arr 2 []),(.arr 1 (List.map Zb r.1)),(.arr 2 (List.map ZF r.2.1)),(.arr 2 (List.map Zbi r.2.2.1)),(.mp (mpD Zb Zb r.2.2.2.1)),(.mp (mpD Zb Zb r.2.2.2.2.1)),(.mp (mpD Zq Zb r.2.2.2.2.2))])
theorem Zlr {t0:Bool}{t1:Bool}{t2:Bool}{t3:Bool}{a:Zh}:∀(s1:Int×(List Int)×(List Zm)×(List Zi)×(List (Int×Int))×(List (Int×Int))×(List (Zj×Int))) (r:((List Int)×(List Zm)×(List Zi)×(List (Int×Int))×(List (Int×Int))×(List (Zj×Int)))),lp (Zcp a) s1=some r→lpW ctx 0 [1,2,5,31,32] [1,2,5] ZxH [(.ptr 0 0),(.ptr 1 0),(.ptr 2 0),(.d (Zb (a.parts.length:Int))),(.d (Zb s1.1))] [(.cells (dV t0 t1 t2 t3 a)),(.cells [(.sl 3 1),(.sl 4 2),(.sl 5 2)]),(.cells [(.sl 6 1),(.sl 7 2),(.sl 8 2),(.mp 9),(.mp 10),(.mp 11)]),(.arr 1 []),(.arr 2 []),(.arr 2 []),(.arr 1 (List.map Zb s1.2.1)),(.arr 2 (List.map ZF s1.2.2.1)),(.arr 2 (List.map Zbi s1.2.2.2.1)),(.mp (mpD Zb Zb s1.2.2.2.2.1)),(.mp (mpD Zb Zb s1.2.2.2.2.2.1)),(.mp (mpD Zq Zb s1.2.2.2.2.2.2))]=some ((ZhU t0 t1 t2 t3 a) r):=by
 refine ZaM (ZhU t0 t1 t2 t3 a) ?_
 intro s1 rcl ih
 show ZO _ _ (lpW _ _ _ _ _ _ _)
 unfold Zcp
 rw[ZaN]
 conv=>arg 3;whnf
 refine Zf rfl ?_ ?_<;>conv=>arg 3;whnf
 ·refine Zc _ ZjT fun x2 hx2=>?_
  clear hx2
  rcases x2 with x2 | (x2 | x2)
  ·conv=>arg 3;whnf
   exact Ze (ih _)
  ·conv=>arg 3;whnf
   exact Ze (ih _)
  ·conv=>arg 3;whnf
   exact Ze (ih _)
 ·exact Zd rfl
def ZhT (t0:Bool) (t1:Bool) (t2:Bool) (t3:Bool) (a:Zh) (r3:((List Int)×(List Zm)×(List Zi)×(List (Int×Int))×(List (Int×Int))×(List (Zj×Int)))):(List Zm)→Ex×List V×Zo
  | r=>(.exit 2,[(.ptr 0 0),(.ptr 1 0),(.ptr 2 0)],[(.cells (dV t0 t1 t2 t3 a)),(.cells [(.sl 3 1),(.sl 4 2),(.sl 5 2)]),(.cells [(.sl 6 1),(.sl 7 2),(.sl 8 2),(.mp 9),(.mp 10),(.mp 11)]),(.arr 1 []),(.arr 2 []),(.arr 2 []),(.arr 1 (List.map Zb r3.1)),(.arr 2 (List.map ZF r)),(.arr 2 (List.map Zbi r3.2.2.1)),(.mp (mpD Zb Zb r3.2.2.2.1)),(.mp (mpD Zb Zb r3.2.2.2.2.1)),(.mp (mpD Zq Zb r3.2.2.2.2.2))])
theorem Zlp {t0:Bool}{t1:Bool}{t2:Bool}{t3:Bool}{a:Zh}{r3:((List Int)×(List Zm)×(List Zi)×(List (Int×Int))×(List (Int×Int))×(List (Zj×Int)))}:∀(s4:Int×(List Zm)) (r:(List Zm)),lp (ZcP a r3) s4=some r→lpW ctx 0 [1,2,5,41,42,43] [1,2,5] ZwO [(.ptr 0 0),(.ptr 1 0),(.ptr 2 0),(.d (D.list t1 (List.map ZF a.edges))),(.d (Zb (a.edges.length:Int))),(.d (Zb s4.1))] [(.cells (dV t0 t1 t2 t3 a)),(.cells [(.sl 3 1),(.sl 4 2),(.sl 5 2)]),(.cells [(.sl 6 1),(.sl 7 2),(.sl 8 2),(.mp 9),(.mp 10),(.mp 11)]),(.arr 1 []),(.arr 2 []),(.arr 2 []),(.arr 1 (List.map Zb r3.1)),(.arr 2 (List.map ZF s4.2)),(.arr 2 (List.map Zbi r3.2.2.1)),(.mp (mpD Zb Zb r3.2.2.2.1)),(.mp (mpD Zb Zb r3.2.2.2.2.1)),(.mp (mpD Zq Zb r3.2.2.2.2.2))]=some ((ZhT t0 t1 t2 t3 a r3) r):=by
 refine ZaM (ZhT t0 t1 t2 t3 a r3) ?_
 intro s4 rcl ih
 show ZO _ _ (lpW _ _ _ _ _ _ _)
 unfold ZcP
 rw[ZaN]
 conv=>arg 3;whnf
 refine Zf rfl ?_ ?_<;>conv=>arg 3;whnf
 ·refine Zl rfl rfl fun x5 hx5=>?_;conv=>arg 3;whnf
  refine Zg (Zbq (f:=Zb) (g:=Zb) (fun ka kb:Int=>(ka==kb)) (fun _ _=>rfl) r3.2.2.2.2.1 x5.src 0) ?_;conv=>arg 3;whnf
  refine Zg (Zbq (f:=Zb) (g:=Zb) (fun ka kb:Int=>(ka==kb)) (fun _ _=>rfl) r3.2.2.2.1 x5.dst 0) ?_;conv=>arg 3;whnf
  refine Zc _ Zar fun x6 hx6=>?_;conv=>arg 3;whnf
  exact Ze (ih _)
 ·exact Zd rfl
def Zh8 (t0:Bool) (t1:Bool) (t2:Bool) (t3:Bool) (a:Zh) (r3:((List Int)×(List Zm)×(List Zi)×(List (Int×Int))×(List (Int×Int))×(List (Zj×Int)))):(List Zm)→Ex×List V×Zo
  | r=>(.exit 4,[(.ptr 0 0),(.ptr 1 0),(.ptr 2 0)],[(.cells (dV t0 t1 t2 t3 a)),(.cells [(.sl 3 1),(.sl 4 2),(.sl 5 2)]),(.cells [(.sl 6 1),(.sl 7 2),(.sl 8 2),(.mp 9),(.mp 10),(.mp 11)]),(.arr 1 []),(.arr 2 []),(.arr 2 []),(.arr 1 (List.map Zb r3.1)),(.arr 2 (List.map ZF r)),(.arr 2 (List.map Zbi r3.2.2.1)),(.mp (mpD Zb Zb r3.2.2.2.1)),(.mp (mpD Zb Zb r3.2.2.2.2.1)),(.mp (mpD Zq Zb r3.2.2.2.2.2))])
theorem Zll {t0:Bool}{t1:Bool}{t2:Bool}{t3:Bool}{a:Zh}{r3:((List Int)×(List Zm)×(List Zi)×(List (Int×Int))×(List (Int×Int))×(List (Zj×Int)))}:∀(s8:Int×(List Zm)) (r:(List Zm)),lp (ZcR a r3) s8=some r→lpW ctx 0 [1,2,5,65,66,67] [1,2,5] Zyn [(.ptr 0 0),(.ptr 1 0),(.ptr 2 0),(.d (D.list t2 (List.map Zq a.futures))),(.d (Zb (a.futures.length:Int))),(.d (Zb s8.1))] [(.cells (dV t0 t1 t2 t3 a)),(.cells [(.sl 3 1),(.sl 4 2),(.sl 5 2)]),(.cells [(.sl 6 1),(.sl 7 2),(.sl 8 2),(.mp 9),(.mp 10),(.mp 11)]),(.arr 1 []),(.arr 2 []),(.arr 2 []),(.arr 1 (List.map Zb r3.1)),(.arr 2 (List.map ZF s8.2)),(.arr 2 (List.map Zbi r3.2.2.1)),(.mp (mpD Zb Zb r3.2.2.2.1)),(.mp (mpD Zb Zb r3.2.2.2.2.1)),(.mp (mpD Zq Zb r3.2.2.2.2.2))]=some ((Zh8 t0 t1 t2 t3 a r3) r):=by
 refine ZaM (Zh8 t0 t1 t2 t3 a r3) ?_
 intro s8 rcl ih
 show ZO _ _ (lpW _ _ _ _ _ _ _)
 unfold ZcR
 rw[ZaN]
 conv=>arg 3;whnf
 refine Zf rfl ?_ ?_<;>conv=>arg 3;whnf
 ·refine Zl rfl rfl fun x9 hx9=>?_;conv=>arg 3;whnf
  refine Zg (Zbq (f:=Zb) (g:=Zb) (fun ka kb:Int=>(ka==kb)) (fun _ _=>rfl) r3.2.2.2.2.1 x9.maker 0) ?_;conv=>arg 3;whnf
  refine Zg (Zbq (f:=Zq) (g:=Zb) (fun ka kb:Zj=>((ka.maker==kb.maker)&&((ka.user==kb.user)&&((ka.pos==kb.pos)&&true)))) (fun _ _=>rfl) r3.2.2.2.2.2 x9 0) ?_;conv=>arg 3;whnf
  refine Zc _ Zar fun x10 hx10=>?_;conv=>arg 3;whnf
  exact Ze (ih _)
 ·exact Zd rfl
def Zh9 (t3:Bool) (a:Zh) (r3:((List Int)×(List Zm)×(List Zi)×(List (Int×Int))×(List (Int×Int))×(List (Zj×Int)))) (s12:Int×(List Int)×(List Zm)×(List Zi)) (x13:Zr):(List Zm)→Ex×List V×Zo
  | r=>(.exit 8,[(.ptr 0 0),(.ptr 1 0),(.ptr 2 0),(.d (Zb (w64 ((List.length (s12.2.2.2++[(Zi.mk (-1) s12.1)]):Int)-1)))),(.d (D.list t3 (List.map Zv a.barriers))),(.d (Zb (a.barriers.length:Int))),(.d (Zb s12.1))],[(.cells [(.sl 3 1),(.sl 4 2),(.sl 5 2)]),(.cells [(.sl 6 1),(.sl 7 2),(.sl 8 2),(.mp 9),(.mp 10),(.mp 11)]),(.cells [(.d (D.list true (List.map Zb x13.ins))),(.d (D.list true (List.map Zb x13.outs)))]),(.arr 1 []),(.arr 2 []),(.arr 2 []),(.arr 1 (List.map Zb (s12.2.1++[1]))),(.arr 2 (List.map ZF r)),(.arr 2 (List.map Zbi (s12.2.2.2++[(Zi.mk (-1) s12.1)]))),(.mp (mpD Zb Zb r3.2.2.2.1)),(.mp (mpD Zb Zb r3.2.2.2.2.1)),(.mp (mpD Zq Zb r3.2.2.2.2.2))])
theorem Zln {t3:Bool}{a:Zh}{r3:((List Int)×(List Zm)×(List Zi)×(List (Int×Int))×(List (Int×Int))×(List (Zj×Int)))}{s12:Int×(List Int)×(List Zm)×(List Zi)}{x13:Zr}:∀(s15:Int×(List Zm)) (r:(List Zm)),lp (ZdD r3 s12 x13) s15=some r→lpW ctx 0 [2,5,12,13,88,89,90,100,101,102] [2,5,12,13,88,89,90] Zym [(.ptr 0 0),(.ptr 1 0),(.ptr 2 0),(.d (Zb (w64 ((List.length (s12.2.2.2++[(Zi.mk (-1) s12.1)]):Int)-1)))),(.d (D.list t3 (List.map Zv a.barriers))),(.d (Zb (a.barriers.length:Int))),(.d (Zb s12.1)),(.d (D.list true (List.map Zb x13.ins))),(.d (Zb (x13.ins.length:Int))),(.d (Zb s15.1))] [(.cells [(.sl 3 1),(.sl 4 2),(.sl 5 2)]),(.cells [(.sl 6 1),(.sl 7 2),(.sl 8 2),(.mp 9),(.mp 10),(.mp 11)]),(.cells [(.d (D.list true (List.map Zb x13.ins))),(.d (D.list true (List.map Zb x13.outs)))]),(.arr 1 []),(.arr 2 []),(.arr 2 []),(.arr 1 (List.map Zb (s12.2.1++[1]))),(.arr 2 (List.map ZF s15.2)),(.arr 2 (List.map Zbi (s12.2.2.2++[(Zi.mk (-1) s12.1)]))),(.mp (mpD Zb Zb r3.2.2.2.1)),(.mp (mpD Zb Zb r3.2.2.2.2.1)),(.mp (mpD Zq Zb r3.2.2.2.2.2))]=some ((Zh9 t3 a r3 s12 x13) r):=by
 refine ZaM (Zh9 t3 a r3 s12 x13) ?_
 intro s15 rcl ih
 show ZO _ _ (lpW _ _ _ _ _ _ _)
 unfold ZdD
 rw[ZaN]
 conv=>arg 3;whnf
 refine Zf rfl ?_ ?_<;>conv=>arg 3;whnf
 ·refine Zl rfl rfl fun x16 hx16=>?_;conv=>arg 3;whnf
  refine Zg (Zbq (f:=Zb) (g:=Zb) (fun ka kb:Int=>(ka==kb)) (fun _ _=>rfl) r3.2.2.2.2.1 x16 0) ?_;conv=>arg 3;whnf
  refine Zc _ Zar fun x17 hx17=>?_;conv=>arg 3;whnf
  exact Ze (ih _)
 ·exact Zd rfl
def Zh2 (t3:Bool) (a:Zh) (r3:((List Int)×(List Zm)×(List Zi)×(List (Int×Int))×(List (Int×Int))×(List (Zj×Int)))) (s12:Int×(List Int)×(List Zm)×(List Zi)) (x13:Zr):(List Zm)→Ex×List V×Zo
  | r=>(.exit 10,[(.ptr 0 0),(.ptr 1 0),(.d (D.list t3 (List.map Zv a.barriers))),(.d (Zb (a.barriers.length:Int))),(.d (Zb s12.1))],[(.cells [(.sl 2 1),(.sl 3 2),(.sl 4 2)]),(.cells [(.sl 5 1),(.sl 6 2),(.sl 7 2),(.mp 8),(.mp 9),(.mp 10)]),(.arr 1 []),(.arr 2 []),(.arr 2 []),(.arr 1 (List.map Zb (s12.2.1++[1]))),(.arr 2 (List.map ZF r)),(.arr 2 (List.map Zbi (s12.2.2.2++[(Zi.mk (-1) s12.1)]))),(.mp (mpD Zb Zb r3.2.2.2.1)),(.mp (mpD Zb Zb r3.2.2.2.2.1)),(.mp (mpD Zq Zb r3.2.2.2.2.2))])
theorem Zls {t3:Bool}{a:Zh}{r3:((List Int)×(List Zm)×(List Zi)×(List (Int×Int))×(List (Int×Int))×(List (Zj×Int)))}{s12:Int×(List Int)×(List Zm)×(List Zi)}{x13:Zr}:∀(s19:Int×(List Zm)) (r:(List Zm)),lp (ZdE r3 s12 x13) s19=some r→lpW ctx 0 [2,5,13,88,89,90,117,118,119] [2,5,88,89,90] Zxh [(.ptr 0 0),(.ptr 1 0),(.d (Zb (w64 ((List.length (s12.2.2.2++[(Zi.mk (-1) s12.1)]):Int)-1)))),(.d (D.list t3 (List.map Zv a.barriers))),(.d (Zb (a.barriers.length:Int))),(.d (Zb s12.1)),(.d (D.list true (List.map Zb x13.outs))),(.d (Zb (x13.outs.length:Int))),(.d (Zb s19.1))] [(.cells [(.sl 2 1),(.sl 3 2),(.sl 4 2)]),(.cells [(.sl 5 1),(.sl 6 2),(.sl 7 2),(.mp 8),(.mp 9),(.mp 10)]),(.arr 1 []),(.arr 2 []),(.arr 2 []),(.arr 1 (List.map Zb (s12.2.1++[1]))),(.arr 2 (List.map ZF s19.2)),(.arr 2 (List.map Zbi (s12.2.2.2++[(Zi.mk (-1) s12.1)]))),(.mp (mpD Zb Zb r3.2.2.2.1)),(.mp (mpD Zb Zb r3.2.2.2.2.1)),(.mp (mpD Zq Zb r3.2.2.2.2.2))]=some ((Zh2 t3 a r3 s12 x13) r):=by
 refine ZaM (Zh2 t3 a r3 s12 x13) ?_
 intro s19 rcl ih
 show ZO _ _ (lpW _ _ _ _ _ _ _)
 unfold ZdE
 rw[ZaN]
 conv=>arg 3;whnf
 refine Zf rfl ?_ ?_<;>conv=>arg 3;whnf
 ·refine Zl rfl rfl fun x20 hx20=>?_;conv=>arg 3;whnf
  refine Zg (Zbq (f:=Zb) (g:=Zb) (fun ka kb:Int=>(ka==kb)) (fun _ _=>rfl) r3.2.2.2.1 x20 0) ?_;conv=>arg 3;whnf
  refine Zc _ Zar fun x21 hx21=>?_;conv=>arg 3;whnf
  exact Ze (ih _)
 ·exact Zd rfl
def ZhZ (t3:Bool) (a:Zh) (r3:((List Int)×(List Zm)×(List Zi)×(List (Int×Int))×(List (Int×Int))×(List (Zj×Int)))):((List Int)×(List Zm)×(List Zi))→Ex×List V×Zo
  | r=>(.exit 6,[(.ptr 0 0),(.ptr 1 0)],[(.cells [(.sl 2 1),(.sl 3 2),(.sl 4 2)]),(.cells [(.sl 5 1),(.sl 6 2),(.sl 7 2),(.mp 8),(.mp 9),(.mp 10)]),(.arr 1 []),(.arr 2 []),(.arr 2 []),(.arr 1 (List.map Zb r.1)),(.arr 2 (List.map ZF r.2.1)),(.arr 2 (List.map Zbi r.2.2)),(.mp (mpD Zb Zb r3.2.2.2.1)),(.mp (mpD Zb Zb r3.2.2.2.2.1)),(.mp (mpD Zq Zb r3.2.2.2.2.2))])
theorem Zlt {t3:Bool}{a:Zh}{r3:((List Int)×(List Zm)×(List Zi)×(List (Int×Int))×(List (Int×Int))×(List (Zj×Int)))}:∀(s12:Int×(List Int)×(List Zm)×(List Zi)) (r:((List Int)×(List Zm)×(List Zi))),lp (ZcQ a r3) s12=some r→lpW ctx 0 [2,5,88,89,90] [2,5] ZxV [(.ptr 0 0),(.ptr 1 0),(.d (D.list t3 (List.map Zv a.barriers))),(.d (Zb (a.barriers.length:Int))),(.d (Zb s12.1))] [(.cells [(.sl 2 1),(.sl 3 2),(.sl 4 2)]),(.cells [(.sl 5 1),(.sl 6 2),(.sl 7 2),(.mp 8),(.mp 9),(.mp 10)]),(.arr 1 []),(.arr 2 []),(.arr 2 []),(.arr 1 (List.map Zb s12.2.1)),(.arr 2 (List.map ZF s12.2.2.1)),(.arr 2 (List.map Zbi s12.2.2.2)),(.mp (mpD Zb Zb r3.2.2.2.1)),(.mp (mpD Zb Zb r3.2.2.2.2.1)),(.mp (mpD Zq Zb r3.2.2.2.2.2))]=some ((ZhZ t3 a r3) r):=by
 refine ZaM (ZhZ t3 a r3) ?_
 intro s12 rcl ih
 show ZO _ _ (lpW _ _ _ _ _ _ _)
 unfold ZcQ
 rw[ZaN]
 conv=>arg 3;whnf
 refine Zf rfl ?_ ?_<;>conv=>arg 3;whnf
 ·refine Zl rfl rfl fun x13 hx13=>?_;conv=>arg 3;whnf
  refine Zc _ ZaL fun x14 hx14=>?_;conv=>arg 3;whnf
  refine Zn (ZI _ _) ?_;conv=>arg 3;whnf
  refine Zc _ (Zln _) fun r18 hr18=>?_;conv=>arg 3;whnf
  refine Zn (ZI _ _) ?_;conv=>arg 3;whnf
  refine Zc _ (Zls _) fun r22 hr22=>?_;conv=>arg 3;whnf
  exact Ze (ih _)
 ·exact Zd rfl
theorem Zjh {t0:Bool}{t1:Bool}{t2:Bool}{t3:Bool}{a:Zh}:∀r,(Ze8 a)=some r→evD ctx 41 [(.d (D.agg (dA t0 t1 t2 t3 a)))]=some (Zj1 r):=by
 show ZO _ (fun r rhs=>rhs=some (Zj1 r)) _
 unfold Ze8
 rw[ZaY ctx 41 ZBl _ rfl rfl]
 conv=>arg 3;whnf
 refine Zp _ ZfY rfl fun x0 hx0=>?_;conv=>arg 3;whnf
 refine Zf rfl ?_ ?_<;>conv=>arg 3;whnf
 ·exact Zd rfl
 ·refine Zn (ZI _ _) ?_;conv=>arg 3;whnf
  refine Zc _ (Zlr _) fun r3 hr3=>?_;conv=>arg 3;whnf
  refine Zn (ZI _ _) ?_;conv=>arg 3;whnf
  refine Zc _ (Zlp _) fun r7 hr7=>?_;conv=>arg 3;whnf
  refine Zn (ZI _ _) ?_;conv=>arg 3;whnf
  refine Zc _ (Zll _) fun r11 hr11=>?_;conv=>arg 3;whnf
  refine Zn (ZI _ _) ?_;conv=>arg 3;whnf
  refine Zc _ (Zlt _) fun r23 hr23=>?_;conv=>arg 3;whnf
  refine Zp _ ZkP rfl fun x24 hx24=>?_;conv=>arg 3;whnf
  refine Zf rfl ?_ ?_<;>conv=>arg 3;whnf
  ·exact Zd rfl
  ·exact Zd rfl
def Zmz (r:(Zbf×Int)):D:=(D.tup [(D.agg [(D.list true (List.map D.bool r.1.done)),(D.list true (List.map Zb r.1.vals))]),(Zb r.2)])
theorem Zqp {t0:Bool}{t1:Bool}{t2:Bool}{t3:Bool}{a:Zh}:∀r,(Zif a)=some r→evD ctx 14 [(.d (D.agg (dA t0 t1 t2 t3 a)))]=some (Zmz r):=by
 show ZO _ (fun r rhs=>rhs=some (Zmz r)) _
 unfold Zif
 rw[ZaY ctx 14 ZBV _ rfl rfl]
 conv=>arg 3;whnf
 refine Zp _ Zjh rfl fun x0 hx0=>?_;conv=>arg 3;whnf
 refine Zf rfl ?_ ?_<;>conv=>arg 3;whnf
 ·exact Zd rfl
 ·refine Zn (ZI _ _) ?_;conv=>arg 3;whnf
  refine Zf rfl ?_ ?_
  ·conv=>arg 3;whnf
   refine Zn (ZmO D.bool (false:Bool) (x0.1.pieces.length:Int)) ?_;conv=>arg 3;whnf
   refine Zn (ZI _ _) ?_;conv=>arg 3;whnf
   refine Zf rfl ?_ ?_
   ·conv=>arg 3;whnf
    refine Zn (ZmO Zb (0:Int) (a.parts.length:Int)) ?_;conv=>arg 3;whnf
    exact Zd rfl
   ·exact Z5
  ·exact Z5
def ZlE (r:(List Int)):D:=(D.list true (List.map Zb r))
theorem ZoQ {t0:Bool}{t1:Bool}{a:Zch}:∀r,(ZgY a)=some r→evD ctx 45 [(.d (D.agg [(D.list t0 (List.map Zb a.work)),(D.list t1 (List.map ZF a.edges))]))]=some (ZlE r):=by
 show ZO _ (fun r rhs=>rhs=some (ZlE r)) _
 unfold ZgY
 rw[ZaY ctx 45 ZBm _ rfl rfl]
 conv=>arg 3;whnf
 refine Zp _ ZkP rfl fun x0 hx0=>?_;conv=>arg 3;whnf
 refine Zf rfl ?_ ?_<;>conv=>arg 3;whnf
 ·exact Zd rfl
 ·refine Zp _ Zkx rfl fun x1 hx1=>?_;conv=>arg 3;whnf
  refine Zf rfl ?_ ?_<;>conv=>arg 3;whnf
  ·exact Zd rfl
  ·exact Zd rfl
def ZeX (t0:Bool) (a:(List Bool)):Unit→V×Zo
  | r=>((.sl 0 1),[(.arr 1 (List.map D.bool a))])
theorem Zg2 {t0:Bool}{a:(List Bool)}:∀r,(ZbN a)=some r→evW ctx 73 [(.d (D.list t0 (List.map D.bool a)))] []=some ((ZeX t0 a) r):=by
 show ZO _ (fun r rhs=>rhs=some ((ZeX t0 a) r)) _
 unfold ZbN
 rw[ZfE ctx 73 ZAW _ _ rfl rfl]
 conv=>arg 3;whnf
 refine Zf (ZuY D.bool a) ?_ ?_
 ·conv=>arg 3;whnf
  refine ZbH (Zgs (f:=D.bool) (fun _=>⟨rfl,rfl⟩) a 0) ?_;conv=>arg 3;whnf
  refine Zf (Zgq D.bool a) ?_ ?_
  ·conv=>arg 3;whnf
   refine Zn (rfl:_=List.map D.bool a) ?_;conv=>arg 3;whnf
   exact Zd rfl
  ·exact Z5
 ·exact Z5
def ZkY (r:Int):D:=(Zb r)
theorem Zoo {t0:Bool}{t1:Bool}{t2:Bool}{a:Zms}{b:Int}:∀r,(Zgp a b)=some r→evD ctx 75 [(.d (D.agg [(D.list t0 (List.map Zb a.dag.work)),(D.list t1 (List.map ZF a.dag.edges)),(D.list t2 (List.map Zbi a.pieces))])),(.d (Zb b))]=some (ZkY r):=by
 show ZO _ (fun r rhs=>rhs=some (ZkY r)) _
 unfold Zgp
 rw[ZaY ctx 75 ZCF _ rfl rfl]
 conv=>arg 3;whnf
 refine Zyw (f:=Zbi) (g:=(fun x:Zi=>(x.part,x.step))) (l:=a.pieces) (fun _=>rfl) fun x0 hx0=>?_;conv=>arg 3;whnf
 exact Zd rfl
def Zkg (r:Zbf):D:=(D.agg [(D.list true (List.map D.bool r.done)),(D.list true (List.map Zb r.vals))])
def Zic (t0:Bool) (t1:Bool) (t2:Bool) (t3:Bool) (t7:Bool) (a:Zh) (c:(List Int)) (d:Zbf) (e:Int) (x3:Zi) (x5:(List Int)):(List Int)→Ex×List V×Zo
  | r=>(.exit 0,[(.d (D.list t7 (List.map Zb c))),(.ptr 0 0),(.ptr 1 0),(.ptr 2 0),(.d (Zb x3.part)),(.sl 3 1)],[(.cells (dV t0 t1 t2 t3 a)),(.cells [(.sl 4 1),(.sl 5 1)]),(.cells [(.sl 6 1),(.sl 7 1)]),(.arr 1 (List.map Zb r)),(.arr 1 (List.map D.bool (List.set d.done e.toNat true))),(.arr 1 (List.map Zb d.vals)),(.arr 1 []),(.arr 1 [])])
theorem Zlo {t0:Bool}{t1:Bool}{t2:Bool}{t3:Bool}{t7:Bool}{a:Zh}{c:(List Int)}{d:Zbf}{e:Int}{x3:Zi}{x5:(List Int)}:∀(s6:Int×(List Int)) (r:(List Int)),lp (ZdG d x5) s6=some r→lpW ctx 0 [2,5,8,10,11,12,44,45,46] [2,5,8,10,11,12] ZwP [(.d (D.list t7 (List.map Zb c))),(.ptr 0 0),(.ptr 1 0),(.ptr 2 0),(.d (Zb x3.part)),(.sl 3 1),(.d (D.list true (List.map Zb x5))),(.d (Zb (x5.length:Int))),(.d (Zb s6.1))] [(.cells (dV t0 t1 t2 t3 a)),(.cells [(.sl 4 1),(.sl 5 1)]),(.cells [(.sl 6 1),(.sl 7 1)]),(.arr 1 (List.map Zb s6.2)),(.arr 1 (List.map D.bool (List.set d.done e.toNat true))),(.arr 1 (List.map Zb d.vals)),(.arr 1 []),(.arr 1 [])]=some ((Zic t0 t1 t2 t3 t7 a c d e x3 x5) r):=by
 refine ZaM (Zic t0 t1 t2 t3 t7 a c d e x3 x5) ?_
 intro s6 rcl ih
 show ZO _ _ (lpW _ _ _ _ _ _ _)
 unfold ZdG
 rw[ZaN]
 conv=>arg 3;whnf
 refine Zf rfl ?_ ?_<;>conv=>arg 3;whnf
 ·refine Zl rfl rfl fun x7 hx7=>?_;conv=>arg 3;whnf
  refine Zl rfl rfl fun x8 hx8=>?_;conv=>arg 3;whnf
  refine Zg (Zy rfl hx8) ?_;conv=>arg 3;whnf
  refine ZbH rfl ?_;conv=>arg 3;whnf
  refine Zf (Zgn Zb s6.2 1) ?_ ?_
  ·conv=>arg 3;whnf
   refine Zn (Zgj Zb s6.2 [x8]) ?_;conv=>arg 3;whnf
   exact Ze (ih _)
  ·exact Z5
 ·exact Zd rfl
theorem ZnN {t0:Bool}{t1:Bool}{t2:Bool}{t3:Bool}{t4:Bool}{t5:Bool}{t6:Bool}{t7:Bool}{t8:Bool}{t9:Bool}{a:Zh}{b:Zms}{c:(List Int)}{d:Zbf}{e:Int}:∀r,(ZfQ a b c d e)=some r→evD ctx 44 [(.d (D.agg (dA t0 t1 t2 t3 a))),(.d (D.agg [(D.list t4 (List.map Zb b.dag.work)),(D.list t5 (List.map ZF b.dag.edges)),(D.list t6 (List.map Zbi b.pieces))])),(.d (D.list t7 (List.map Zb c))),(.d (D.agg [(D.list t8 (List.map D.bool d.done)),(D.list t9 (List.map Zb d.vals))])),(.d (Zb e))]=some (Zkg r):=by
 show ZO _ (fun r rhs=>rhs=some (Zkg r)) _
 unfold ZfQ
 rw[ZaY ctx 44 ZBD _ rfl rfl]
 conv=>arg 3;whnf
 refine Zc _ Zg2 fun x0 hx0=>?_;conv=>arg 3;whnf
 refine Zc _ Zdx fun x1 hx1=>?_;conv=>arg 3;whnf
 refine Zl rfl rfl fun x2 hx2=>?_;conv=>arg 3;whnf
 refine Zg (Zy rfl hx2) ?_;conv=>arg 3;whnf
 refine Zn (Zax D.bool d.done e.toNat true) ?_;conv=>arg 3;whnf
 refine Zl rfl rfl fun x3 hx3=>?_;conv=>arg 3;whnf
 refine Zf rfl ?_ ?_<;>conv=>arg 3;whnf
 ·exact Zd rfl
 ·refine Zp _ Zoo rfl fun x4 hx4=>?_;conv=>arg 3;whnf
  refine Zf rfl ?_ ?_<;>conv=>arg 3;whnf
  ·exact Zd rfl
  ·refine Zp _ Zj6 rfl fun x5 hx5=>?_;conv=>arg 3;whnf
   refine Zn (ZI _ _) ?_;conv=>arg 3;whnf
   refine Zc _ (Zlo _) fun r9 hr9=>?_;conv=>arg 3;whnf
   refine Zl rfl rfl fun x10 hx10=>?_;conv=>arg 3;whnf
   refine Zp _ Zm8 rfl fun x11 hx11=>?_;conv=>arg 3;whnf
   refine Zl rfl rfl fun x12 hx12=>?_;conv=>arg 3;whnf
   refine Zg (Zy rfl hx12) ?_;conv=>arg 3;whnf
   refine Zn (Zax Zb d.vals x3.part.toNat x11) ?_;conv=>arg 3;whnf
   exact Zd rfl
def Zmn (r:((List Int)×Int)):D:=(D.tup [(D.list true (List.map Zb r.1)),(Zb r.2)])
def Zj9 (t0:Bool) (t1:Bool) (t2:Bool) (t3:Bool) (t4:Bool) (a:Zh) (b:(List Int)) (x1:(Zms×Int)) (x2:(List Int)):((List Bool)×(List Int))→Ex×List V×Zo
  | r=>(.exit 0,[(.ptr 0 0)],[(.cells [(.d (D.list true (List.map D.bool r.1))),(.d (D.list true (List.map Zb r.2)))])])
theorem Znq {t0:Bool}{t1:Bool}{t2:Bool}{t3:Bool}{t4:Bool}{a:Zh}{b:(List Int)}{x1:(Zms×Int)}{x2:(List Int)}:∀(s3:Int×(List Bool)×(List Int)) (r:((List Bool)×(List Int))),lp (Zem a b x1 x2) s3=some r→lpW ctx 0 [1,2,6,8,27,28,29] [6] Zyz [(.d (D.list t4 (List.map Zb b))),(.ptr 0 0),(.ptr 1 0),(.ptr 2 0),(.d (D.list true (List.map Zb x2))),(.d (Zb (x2.length:Int))),(.d (Zb s3.1))] [(.cells (dV t0 t1 t2 t3 a)),(.cells [(.d (D.list true (List.map D.bool s3.2.1))),(.d (D.list true (List.map Zb s3.2.2)))]),(.cells [(.d (D.list true (List.map Zb x1.1.dag.work))),(.d (D.list true (List.map ZF x1.1.dag.edges))),(.d (D.list true (List.map Zbi x1.1.pieces)))])]=some ((Zj9 t0 t1 t2 t3 t4 a b x1 x2) r):=by
 refine ZaM (Zj9 t0 t1 t2 t3 t4 a b x1 x2) ?_
 intro s3 rcl ih
 show ZO _ _ (lpW _ _ _ _ _ _ _)
 unfold Zem
 rw[ZaN]
 conv=>arg 3;whnf
 refine Zf rfl ?_ ?_<;>conv=>arg 3;whnf
 ·refine Zl rfl rfl fun x4 hx4=>?_;conv=>arg 3;whnf
  refine Zp _ ZnN rfl fun x5 hx5=>?_;conv=>arg 3;whnf
  exact Ze (ih _)
 ·exact Zd rfl
theorem Zqo {t0:Bool}{t1:Bool}{t2:Bool}{t3:Bool}{t4:Bool}{a:Zh}{b:(List Int)}:∀r,(Zf5 a b)=some r→evD ctx 19 [(.d (D.agg (dA t0 t1 t2 t3 a))),(.d (D.list t4 (List.map Zb b)))]=some (Zmn r):=by
 show ZO _ (fun r rhs=>rhs=some (Zmn r)) _
 unfold Zf5
 rw[ZaY ctx 19 ZAI _ rfl rfl]
 conv=>arg 3;whnf
 refine Zp _ Zqp rfl fun x0 hx0=>?_;conv=>arg 3;whnf
 refine Zf rfl ?_ ?_<;>conv=>arg 3;whnf
 ·exact Zd rfl
 ·refine Zp _ Zjh rfl fun x1 hx1=>?_;conv=>arg 3;whnf
  refine Zp _ ZoQ rfl fun x2 hx2=>?_;conv=>arg 3;whnf
  refine Zn (ZI _ _) ?_;conv=>arg 3;whnf
  refine Zc _ (Znq _) fun r6 hr6=>?_;conv=>arg 3;whnf
  exact Zd rfl
def Zk2 (r:Bool):D:=(D.bool r)
def Zit (t0:Bool) (t1:Bool) (a:(List Int)) (b:(List Int)):(Unit⊕Unit)→Ex×List V×Zo
  | (.inl r)=>(.ret,[(.d (D.bool false))],[])
  | (.inr r)=>(.exit 0,[.bad],[])
theorem Zme {t0:Bool}{t1:Bool}{a:(List Int)}{b:(List Int)}:∀(s0:Int) (r:(Unit⊕Unit)),lp (Zd6 a b) s0=some r→lpW ctx 0 [0,1,5] [4] Zyx [(.d (D.list t0 (List.map Zb a))),(.d (D.list t1 (List.map Zb b))),(.d (Zb s0))] []=some ((Zit t0 t1 a b) r):=by
 refine ZaM (Zit t0 t1 a b) ?_
 intro s0 rcl ih
 show ZO _ _ (lpW _ _ _ _ _ _ _)
 unfold Zd6
 rw[ZaN]
 conv=>arg 3;whnf
 refine Zn (ZI _ _) ?_;conv=>arg 3;whnf
 refine Zf rfl ?_ ?_<;>conv=>arg 3;whnf
 ·refine Zl rfl rfl fun x1 hx1=>?_;conv=>arg 3;whnf
  refine Zl rfl rfl fun x2 hx2=>?_;conv=>arg 3;whnf
  refine Zf rfl ?_ ?_<;>conv=>arg 3;whnf
  ·exact Zd rfl
  ·exact Ze (ih _)
 ·exact Zd rfl
theorem Zon {t0:Bool}{t1:Bool}{a:(List Int)}{b:(List Int)}:∀r,(Zgh a b)=some r→evD ctx 20 [(.d (D.list t0 (List.map Zb a))),(.d (D.list t1 (List.map Zb b)))]=some (Zk2 r):=by
 show ZO _ (fun r rhs=>rhs=some (Zk2 r)) _
 unfold Zgh
 rw[ZaY ctx 20 ZBd _ rfl rfl]
 conv=>arg 3;whnf
 refine Zn (ZI _ _) ?_;conv=>arg 3;whnf
 refine Zn (ZI _ _) ?_;conv=>arg 3;whnf
 refine Zf rfl ?_ ?_<;>conv=>arg 3;whnf
 ·exact Zd rfl
 ·refine Zc _ (Zme _) fun r3 hr3=>?_
  clear hr3
  rcases r3 with r3 | r3
  ·conv=>arg 3;whnf
   exact Zd rfl
  ·conv=>arg 3;whnf
   exact Zd rfl
def Zhn (r:Bool):D:=(D.bool r)
theorem Zkt {t0:Bool}{t1:Bool}{t2:Bool}{t3:Bool}{t4:Bool}{a:Zh}{b:(List Int)}:∀r,(Zff a b)=some r→evD ctx 11 [(.d (D.agg (dA t0 t1 t2 t3 a))),(.d (D.list t4 (List.map Zb b)))]=some (Zhn r):=by
 show ZO _ (fun r rhs=>rhs=some (Zhn r)) _
 unfold Zff
 rw[ZaY ctx 11 ZBM _ rfl rfl]
 conv=>arg 3;whnf
 refine Zp _ ZgG rfl fun x0 hx0=>?_;conv=>arg 3;whnf
 refine Zf rfl ?_ ?_<;>conv=>arg 3;whnf
 ·refine Zp _ ZpL rfl fun x1 hx1=>?_;conv=>arg 3;whnf
  refine Zf rfl ?_ ?_<;>conv=>arg 3;whnf
  ·refine Zc _ Zkr fun x2 hx2=>?_;conv=>arg 3;whnf
   refine ZbH (Zgs (f:=Zb) (fun _=>⟨rfl,rfl⟩) b 0) ?_;conv=>arg 3;whnf
   refine Zf (Zgq Zb b) ?_ ?_
   ·conv=>arg 3;whnf
    refine Zn (rfl:_=List.map Zb b) ?_;conv=>arg 3;whnf
    refine Zp _ Zoq rfl fun x3 hx3=>?_;conv=>arg 3;whnf
    refine Zc _ Zkr fun x4 hx4=>?_;conv=>arg 3;whnf
    refine ZbH (Zgs (f:=Zb) (fun _=>⟨rfl,rfl⟩) b 0) ?_;conv=>arg 3;whnf
    refine Zf (Zgq Zb b) ?_ ?_
    ·conv=>arg 3;whnf
     refine Zn (rfl:_=List.map Zb b) ?_;conv=>arg 3;whnf
     refine Zp _ Zqo rfl fun x5 hx5=>?_;conv=>arg 3;whnf
     refine Zf rfl ?_ ?_<;>conv=>arg 3;whnf
     ·refine Zf rfl ?_ ?_<;>conv=>arg 3;whnf
      ·refine Zn (ZI _ _) ?_;conv=>arg 3;whnf
       refine Zf rfl ?_ ?_<;>conv=>arg 3;whnf
       ·refine Zn (ZI _ _) ?_;conv=>arg 3;whnf
        refine Zf rfl ?_ ?_<;>conv=>arg 3;whnf
        ·exact Zd rfl
        ·exact Zd rfl
       ·exact Zd rfl
      ·exact Zd rfl
     ·refine Zf rfl ?_ ?_<;>conv=>arg 3;whnf
      ·refine Zp _ Zon rfl fun x6 hx6=>?_;conv=>arg 3;whnf
       refine Zf rfl ?_ ?_<;>conv=>arg 3;whnf
       ·exact Zd rfl
       ·exact Zd rfl
      ·exact Zd rfl
    ·exact Z5
   ·exact Z5
  ·refine Zp _ ZgG rfl fun x7 hx7=>?_;conv=>arg 3;whnf
   refine Zf rfl ?_ ?_<;>conv=>arg 3;whnf
   ·exact Zd rfl
   ·exact Zd rfl
 ·refine Zp _ ZgG rfl fun x8 hx8=>?_;conv=>arg 3;whnf
  refine Zf rfl ?_ ?_<;>conv=>arg 3;whnf
  ·exact Zd rfl
  ·exact Zd rfl
end Go.Proofs.YtnmbdjkbaihicaaDoor
namespace Go.Proofs.YtnmbdjkbaihicaaDoor
open Go Go.Proofs.YtnmbdjkbaihicaaDoorE
abbrev Zs3:List Lf×Bool:=([.int .i64,.int .i64,.sl true [.int .i64,.int .i64,.int .i64],.sl true [.int .i64,.int .i64],.sl true [.int .i64,.int .i64,.int .i64],.sl true [.sl false [.int .i64],.sl false [.int .i64]]],true)
abbrev ZsI:List Lf×Bool:=([.sl false [.int .i64]],false)
end Go.Proofs.YtnmbdjkbaihicaaDoor
namespace Go.Proofs.YtnmbdjkbaihicaaDoor
open Go Go.Proofs.YtnmbdjkbaihicaaDoorE
set_option linter.unusedVariables false
set_option linter.unusedSimpArgs false
theorem Zqn (d:Zh) (input:List Int):Zff d input=some true:=by
 unfold Zff
 simp only[ZfO,ZAM,Option.bind_some,cond_true]
 cases hf:Zx8 d input ⟨[],[]⟩ with
 | false=>rfl
 | true=>
  obtain⟨sd,hi,_,_⟩:=ZzV hf
  have sh:=sd.short
  simp only[cond_true,ZDK d sd,Option.bind_some,ZxF,Zg1 (show input.length≤1073741824 by omega)]
  by_cases hc:Za7 d=0
  ·have g:=ZcJ hc
   obtain⟨t,t1,t2,t3⟩:=ZDC hc sh input (by omega)
   have gc:=Ztx hc
   by_cases hA:ZlR (Z4 d).dag
   ·have hl:Zij d:=⟨hc,gc.1 hA⟩
    obtain⟨l,T,hrun⟩:=(Zsp sd input (by omega)).2 hl
    have hw:=Zt5 hl t1 t2
    obtain⟨v1,a1⟩:=Zzo sh hl input T
    obtain⟨v2,a2⟩:=ZvY hc sh t1 hw
    have same:t.vals=(Zsz d input (ZmP d) l).vals:=ZvU sh hl v2 v1 a2 a1
    have hlen:t.vals.length<9223372036854775808:=by rw[(t1.right g).o.v];have:=g.pl;omega
    rw[t3,hrun,hw]
    simp only[cond_true,Option.bind_some]
    rw[ZtE _ _ hlen,decide_eq_true same]
    rfl
   ·have hnw:ZhV d t=false:=by
     cases hw:ZhV d t with
     | false=>rfl
     | true=>exact absurd (Zt9 g t1 hw) hA
    have h43:=gc.2 hA
    have hl:¬Zij d:=fun h=>by rw[h.2] at h43;cases h43
    have e:=(Zsp sd input (show input.length≤1000 by omega)).1 hl
    have e2:(Zlj d).2=70:=by
     unfold Zlj
     rw[hc,h43]
     rfl
    rw[t3,e,hnw,e2]
    rfl
  ·have hl:¬Zij d:=fun h=>hc h.1
   have e:=(Zsp sd input (show input.length≤1000 by omega)).1 hl
   have e2:(Zlj d).2=Za7 d∧Za7 d≠70:=by
    refine⟨by unfold Zlj;rw[beq_false_of_ne hc];rfl,?_⟩
    unfold Za7
    cases ZjH d<;>cases Zmi d<;>cases d.parts.any Zfg<;>cases Ze1 (Zeh d) 0 d.edges<;>cases Ze1 (Zc8 d) 0 d.futures<;>cases d.barriers.any (Zdj d.parts.length)<;>simp
   rw[Zzs hc sh input,e,e2.1]
   simp only[Option.bind_some]
   rw[beq_false_of_ne e2.2]
   simp only[cond_false,beq_self_eq_true,cond_true]
   rw[ZtE [] [] (by simp)]
   rfl
theorem ZrX (xs:List D) (h:ZgS Zs3.1 xs) (ys:List D) (k:ZgS ZsI.1 ys) :
  ∃H',evW ctx 11 (ZcN [Ztj Zs3.2 xs,Ztj ZsI.2 ys]) []=some (.d (.bool true),H'):=by
 obtain⟨d,hd,_⟩:=Zy9 h
 obtain⟨a,ha,oka⟩:=ZzD k
 show ∃H',evW ctx 11 [.d (D.agg xs),.d (Ztj false ys)] []=_
 rw[hd,ha]
 exact ZyZ (Zkt true (Zqn d a))
end Go.Proofs.YtnmbdjkbaihicaaDoor
namespace Go.Proofs.YtnmbdjkbaihicaaDoor.LawSourceLow
open Go.ChangeShapes Go.WideShapes Go.ChangeAt Go.RowKit Go.Proofs.YtnmbdjkbaihicaaDoorE
set_option linter.unusedVariables false
theorem own:ownKnob Tryd.prog.godebug=none:=by kernel_rfl
theorem Zvq:laidOutB Tryd.prog=true:=by kernel_rfl
def Zqh : List (String × DataW Unit) := [("math/bits.deBruijn32tab", Rows.laid_math_bits_deBruijn32tab), ("math/bits.deBruijn64tab", Rows.laid_math_bits_deBruijn64tab)]
theorem ZyF (os:Os) (args:Array Value):laidMetH Tryd.prog Zqh ((World.doorLaid Tryd.prog 19 os).forCall (fun _ _=>0) ⟨#[],args,[]⟩).memory:=
 laidMetH_of_parts3 (fuel:=8) (laidMet_of_run' 8 (by kernel_rfl) (by kernel_rfl)) (by kernel_rfl) (by kernel_rfl)
theorem Zxg {W:World} (h:laidMetH Tryd.prog Zqh W):GOK Zw R0 W:=by
 intro g l hg
 unfold Zw at hg
 split at hg
 ·cases hg
  exact ZpQ (t := 148) (N := 32) (e := 5) (k := .u8) h (by kernel_rfl) (n := "math/bits.deBruijn32tab") (by rw [show DataW.agg (Zl4 ZAx) = Rows.laid_math_bits_deBruijn32tab by kernel_rfl]; simp [Zqh]) (by kernel_rfl) (by kernel_rfl) (by kernel_rfl) (by kernel_rfl) (by kernel_rfl) (by kernel_rfl) (by decide)
 ·cases hg
  exact ZpQ (t := 149) (N := 64) (e := 5) (k := .u8) h (by kernel_rfl) (n := "math/bits.deBruijn64tab") (by rw [show DataW.agg (Zl4 ZAo) = Rows.laid_math_bits_deBruijn64tab by kernel_rfl]; simp [Zqh]) (by kernel_rfl) (by kernel_rfl) (by kernel_rfl) (by kernel_rfl) (by kernel_rfl) (by kernel_rfl) (by decide)
 ·cases hg
theorem ZBt (os:Os) (started:os.Started) (H:Type) (enc:TypeId×Value→H) :
  ReturnsInHanded {} Tryd.checked os 11 .any (fun w args=>(Rows.sourceLowSpec.pre enc Tryd.prog Tryd.f11 [] false w args∧laidMetH Tryd.prog Zqh w)∧sizedMet enc Tryd.prog Tryd.f11 (OpenSpec.ofChange Rows.sourceLowSpec) false w args) (Rows.sourceLowSpec.post enc Tryd.prog Tryd.f11 false true false false):=by
 refine returnsInHanded_of_change_and (C:=Tryd.checked) (X:=fun w _=>laidMetH Tryd.prog Zqh w) (fun _ _ _ hh h=>h.of_heap hh) own started (by kernel_rfl) Tryd.func11
  (ChangeSpec.witness_shaped (enc:=enc) (C:=Tryd.checked) (os:=os) (X:=fun w _=>laidMetH Tryd.prog Zqh w) false (World.doorLaid Tryd.prog 19 os) #[.agg #[.int .i64 0,.int .i64 0,.slice none 0 0,.slice none 0 0,.slice none 0 0,.slice none 0 0],.slice none 0 0] 8 rfl (World.shaped_of_RefB (by kernel_rfl) (by kernel_rfl)) (by kernel_rfl) (by kernel_rfl) (by kernel_rfl) (ZyF os _)) ?_
 intro W base args ds gs before hval0 hW _ _ hL _
 have hval:∀(j:Nat) t v,Tryd.f11.params[j]? = some t→args[j]? = some v→Value.okWide Tryd.prog W .any base t v:=hval0
 have hW':=hW
 obtain⟨p,q,hA0,hV,rfl,hfz,hnd⟩:=hW
 have hA:DataW.TrodAll enc Tryd.prog W 0 (fun _=>true) true Tryd.f11.params.toList args.toList ds p:=hA0
 rw[Tryd.params11] at hA hval
 obtain⟨v0,vs0,d0,ds0,p0,q0,hargs,rfl,rfl,h0,r0⟩:=trodAll_cons hA
 obtain⟨v1,vs1,d1,ds1,p1,q1,rfl,rfl,rfl,h1,r1⟩:=trodAll_cons r0
 obtain⟨rfl,rfl,rfl⟩:=trodAll_nil r1
 obtain rfl:args = #[v0,v1]:=by cases args;simp_all
 obtain⟨rfl,rfl⟩:=trodVars_none hV
 have lt0:∀x∈p0,x.block<W.heap.size:=by obtain⟨m,hm⟩:=h0;exact DataW.trod_lt m _ _ _ hm
 obtain⟨x0,ok0,den0⟩:=Zw8 (P:=Tryd.prog) (n:=8) (t:=27) (l:=Zs3.1) (ag:=Zs3.2) (by kernel_rfl) (hval 0 27 v0 rfl rfl) h0
 have lt1:∀x∈p1,x.block<W.heap.size:=by obtain⟨m,hm⟩:=h1;exact DataW.trod_lt m _ _ _ hm
 obtain⟨x1,ok1,den1⟩:=Zw8 (P:=Tryd.prog) (n:=8) (t:=28) (l:=ZsI.1) (ag:=ZsI.2) (by kernel_rfl) (hval 1 28 v1 rfl rfl) h1
 obtain⟨H1,ev⟩:=ZrX x0 ok0 x1 ok1
 have den:ZaZ All All All W [Ztj Zs3.2 x0,Ztj ZsI.2 x1] [v0,v1]:=⟨_,_,rfl,den0,⟨_,_,rfl,den1,rfl⟩⟩
 refine(Zwo ZC1 (Zxg hL) den ev).mono fun e W' ⟨he,bel⟩=>?_
 subst he
 exact⟨_,rfl,_,_,_,[],_,[],hW',trodAll_mk1 (shut_bool Tryd.underlying4 _),(trodAll_cons_mk (Below.trod Zvq (by kernel_rfl) (of_decide_eq_true (by kernel_rfl)) h0 bel lt0) (trodAll_cons_mk (Below.trod Zvq (by kernel_rfl) (of_decide_eq_true (by kernel_rfl)) h1 bel lt1) trodAll_mk0)),rfl,bel.frame _,fun h=>by cases h⟩
theorem over:Rows.sourceLowRow.holds Tryd.pinned (OpenSpec.ofChange Rows.sourceLowSpec):=
 OpenClaim.holds_of_wide 11 Tryd.f11 rfl rfl rfl rfl rfl rfl rfl ⟨rfl,rfl,rfl,rfl,rfl⟩ rfl rfl rfl rfl rfl (by kernel_rfl) Tryd.func11 (by kernel_rfl)
  (of_decide_eq_true (by kernel_rfl)) (by unfold Func.isWrapper;first | (rw[if_pos (by decide +kernel)];kernel_rfl) | (rw[if_neg (by decide +kernel)];exact⟨rfl,rfl⟩))
  (fun os started H enc _=>ZBt os started H enc)
theorem proved:Rows.SourceLowSaid:=over
theorem carded:Rows.SourceLowCardSaid:=
 Claim7.holds_tied_plain_at .later [] [.data, .data] true (true, "3ab9be834fa2b7d026ba399aa683e49be0919143fbbd24a24d6e9902cb90d35e") false
  proved (fun _ h=>by cases h) (by kernel_rfl) (fun _ h=>by cases h) sourceLow_row_tie rfl ⟨rfl,rfl⟩ (by kernel_rfl) rfl
  (fun f fn hf hfn=>by
   obtain rfl : f = 11 := Option.some.inj ((show Tryd.prog.funcNamed "trefoil/trefoillaw09.SourceLow" = some 11 by kernel_rfl).symm.trans hf) |>.symm
   obtain rfl:fn=Tryd.f11:=(Option.some.inj (Tryd.func11.symm.trans hfn)).symm
   exact⟨by kernel_rfl,fun j t ht=>by
    rw[Tryd.params11] at ht
    have hm:t∈[27,28]:=by simpa using Array.mem_of_getElem? ht
    have hall:([27,28].all fun u=>!Tryd.prog.wantsStandIn u)=true:=by kernel_rfl
    exact(show Tryd.prog.wantsStandIn t=false by simpa using List.all_eq_true.1 hall t hm)⟩)
  (by kernel_rfl)
end Go.Proofs.YtnmbdjkbaihicaaDoor.LawSourceLow
namespace Go.Proofs.YtnmbdjkbaihicaaDoor
theorem sourceLow_holds:Rows.SourceLowCardSaid:=LawSourceLow.carded
#print axioms sourceLow_holds
end Go.Proofs.YtnmbdjkbaihicaaDoor
