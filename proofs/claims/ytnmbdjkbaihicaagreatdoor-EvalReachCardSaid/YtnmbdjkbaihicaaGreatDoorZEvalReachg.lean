/- EvalReach: part 7 of 7 of the proof: the row and the card of the law, out of what the evaluator says of it; without conditions. -/
import Derived.Test.YtnmbdjkbaihicaaGreatDoorZEvalReachf
import Derived.KernelRfl
import Derived.Test.YtnmbdjkbaihicaaGreatDoorRows
import Derived.Test.YtnmbdjkbaihicaaGreatDoorCards
import Derived.Test.YtnmbdjkbaihicaaGreatDoorTie
import Derived.WalkKit
import Derived.ProofKit
import Derived.OpenShut
import Derived.ShutString
import Derived.ChangeOld
import Derived.Below
import Derived.SizedLaws
import Derived.Handed
import Derived.LaidMore
import Derived.Stop.Joined
import Derived.ChangeShapes
import Derived.Carry
import Derived.SevenTiedAt
set_option maxRecDepth 100000
set_option maxHeartbeats 40000000
namespace Go.Proofs.YtnmbdjkbaihicaaGreatDoor
open Go Go.Proofs.YtnmbdjkbaihicaaGreatDoorE
set_option linter.unusedVariables false
set_option linter.unusedSimpArgs false
def Zio (b:Int) (c:Int) (m1_0:(List Int)) (m2_0:(List Zr)) (m3_0:(List Zj)) (m4_0:(List (Int×Int))) (m5_0:(List (Int×Int))) (m6_0:(List (Zk×Int))):Unit→V×Zq
  | r=>((.d (D.tup [])),[(.cells [(.sl 1 1),(.sl 7 2),(.sl 3 2),(.mp 4),(.mp 5),(.mp 6)]),(.arr 1 (List.map Ze m1_0)),.dead,(.arr 2 (List.map Zcb m3_0)),(.mp (mpD Ze Ze m4_0)),(.mp (mpD Ze Ze m5_0)),(.mp (mpD Zt Ze m6_0)),(.arr 2 (List.map ZI (m2_0++[(Zr.mk b c)])))])
theorem Zbf {b:Int}{c:Int}{m1_0:(List Int)}{m2_0:(List Zr)}{m3_0:(List Zj)}{m4_0:(List (Int×Int))}{m5_0:(List (Int×Int))}{m6_0:(List (Zk×Int))}:∀r,(ZZ b c m2_0)=some r→evW ctx 43 [(.ptr 0 0),(.d (Ze b)),(.d (Ze c))] [(.cells [(.sl 1 1),(.sl 2 2),(.sl 3 2),(.mp 4),(.mp 5),(.mp 6)]),(.arr 1 (List.map Ze m1_0)),(.arr 2 (List.map ZI m2_0)),(.arr 2 (List.map Zcb m3_0)),(.mp (mpD Ze Ze m4_0)),(.mp (mpD Ze Ze m5_0)),(.mp (mpD Zt Ze m6_0))]=some ((Zio b c m1_0 m2_0 m3_0 m4_0 m5_0 m6_0) r):=by
 show ZS _ (fun r rhs=>rhs=some ((Zio b c m1_0 m2_0 m3_0 m4_0 m5_0 m6_0) r)) _
 unfold ZZ
 rw[Zd4 ctx 43 ZCk _ _ rfl rfl]
 conv=>arg 3;whnf
 refine Zbr rfl ?_;conv=>arg 3;whnf
 refine Zg (Zic ZI m2_0 1) ?_ ?_
 ·conv=>arg 3;whnf
  refine Zn (Zh8 ZI m2_0 [(Zr.mk b c)]) ?_;conv=>arg 3;whnf
  exact Zh rfl
 ·exact ZaN
def Zin (t0:Bool) (t1:Bool) (t2:Bool) (t3:Bool) (b:Zm) (c:Int) (m1_0:(List Int)) (m2_0:(List Zr)) (m3_0:(List Zj)) (m4_0:(List (Int×Int))) (m5_0:(List (Int×Int))) (m6_0:(List (Zk×Int))):(((List (Int×Int))×(List (Zk×Int))×(List Int)×(List Zr)×(List Zj))⊕((List Int)⊕Unit))→V×Zq
  | (.inl r)=>((.d (D.tup [])),[(.cells [(.sl 7 1),(.sl 8 2),(.sl 9 2),(.mp 4),(.mp 5),(.mp 6)]),.dead,.dead,.dead,(.mp (mpD Ze Ze (Zz (fun ka kb:Int=>(ka==kb)) m4_0 c (m3_0.length:Int)))),(.mp (mpD Ze Ze r.1)),(.mp (mpD Zt Ze r.2.1)),(.arr 1 (List.map Ze r.2.2.1)),(.arr 2 (List.map ZI r.2.2.2.1)),(.arr 2 (List.map Zcb r.2.2.2.2))])
  | (.inr (.inl r))=>((.d (D.tup [])),[(.cells [(.sl 7 1),(.sl 2 2),(.sl 8 2),(.mp 4),(.mp 5),(.mp 6)]),.dead,(.arr 2 (List.map ZI m2_0)),.dead,(.mp (mpD Ze Ze (Zz (fun ka kb:Int=>(ka==kb)) m4_0 c (m3_0.length:Int)))),(.mp (mpD Ze Ze (Zz (fun ka kb:Int=>(ka==kb)) m5_0 c (w64 ((List.length (m3_0++[(Zj.mk c 0)]):Int)-1))))),(.mp (mpD Zt Ze m6_0)),(.arr 1 (List.map Ze r)),(.arr 2 (List.map Zcb (m3_0++[(Zj.mk c 0)])))])
  | (.inr (.inr r))=>((.d (D.tup [])),[(.cells [(.sl 1 1),(.sl 2 2),(.sl 3 2),(.mp 4),(.mp 5),(.mp 6)]),(.arr 1 (List.map Ze m1_0)),(.arr 2 (List.map ZI m2_0)),(.arr 2 (List.map Zcb m3_0)),(.mp (mpD Ze Ze (Zz (fun ka kb:Int=>(ka==kb)) m4_0 c (m3_0.length:Int)))),(.mp (mpD Ze Ze m5_0)),(.mp (mpD Zt Ze m6_0))])
def ZhD (t0:Bool) (t1:Bool) (t2:Bool) (t3:Bool) (b:Zm) (c:Int) (m3_0:(List Zj)) (m4_0:(List (Int×Int))) (x0:(List Int)):((List (Int×Int))×(List (Zk×Int))×(List Int)×(List Zr)×(List Zj))→Ex×List V×Zq
  | r=>(.exit 0,[],[(.cells [(.sl 7 1),(.sl 8 2),(.sl 9 2),(.mp 4),(.mp 5),(.mp 6)]),.dead,.dead,.dead,(.mp (mpD Ze Ze (Zz (fun ka kb:Int=>(ka==kb)) m4_0 c (m3_0.length:Int)))),(.mp (mpD Ze Ze r.1)),(.mp (mpD Zt Ze r.2.1)),(.arr 1 (List.map Ze r.2.2.1)),(.arr 2 (List.map ZI r.2.2.2.1)),(.arr 2 (List.map Zcb r.2.2.2.2))])
theorem ZdN {t0:Bool}{t1:Bool}{t2:Bool}{t3:Bool}{b:Zm}{c:Int}{m3_0:(List Zj)}{m4_0:(List (Int×Int))}{x0:(List Int)}:∀(s14:Int×Int×(List (Int×Int))×(List (Zk×Int))×(List Int)×(List Zr)×(List Zj)) (r:((List (Int×Int))×(List (Zk×Int))×(List Int)×(List Zr)×(List Zj))),lp (ZF b c x0) s14=some r→lpW ctx 7 [0,2,4,6,7,26,27] [] Zq2 [(.ptr 0 0),(.d (Ze c)),(.ptr 7 0),(.d (Ze s14.1)),(.d (D.list true (List.map Ze x0))),(.d (Ze (w64 ((x0.length:Int)+1)))),(.d (Ze s14.2.1))] [(.cells [(.sl 8 1),(.sl 9 2),(.sl 10 2),(.mp 4),(.mp 5),(.mp 6)]),.dead,.dead,.dead,(.mp (mpD Ze Ze (Zz (fun ka kb:Int=>(ka==kb)) m4_0 c (m3_0.length:Int)))),(.mp (mpD Ze Ze s14.2.2.1)),(.mp (mpD Zt Ze s14.2.2.2.1)),(.cells (dV t0 t1 t2 t3 b)),(.arr 1 (List.map Ze s14.2.2.2.2.1)),(.arr 2 (List.map ZI s14.2.2.2.2.2.1)),(.arr 2 (List.map Zcb s14.2.2.2.2.2.2))]=some ((ZhD t0 t1 t2 t3 b c m3_0 m4_0 x0) r):=by
 refine ZaX (ZhD t0 t1 t2 t3 b c m3_0 m4_0 x0) ?_
 intro s14 rcl ih
 show ZS _ _ (lpW _ _ _ _ _ _ _)
 unfold ZF
 rw[ZaY]
 conv=>arg 3;whnf
 refine Zg rfl ?_ ?_<;>conv=>arg 3;whnf
 ·refine Zi rfl rfl fun x15 hx15=>?_;conv=>arg 3;whnf
  refine Zn (Z3 _ _) ?_;conv=>arg 3;whnf
  refine Zg rfl ?_ ?_<;>conv=>arg 3;whnf
  ·refine Zi rfl rfl fun x16 hx16=>?_;conv=>arg 3;whnf
   refine Zi rfl rfl fun x17 hx17=>?_;conv=>arg 3;whnf
   refine Zc _ Zbu fun x18 hx18=>?_;conv=>arg 3;whnf
   refine Zf (ZeF (f:=Ze) (g:=Ze) (fun ka kb:Int=>(ka==kb)) (fun _ _=>rfl) s14.2.2.1 c (w64 ((List.length (s14.2.2.2.2.2.2++[(Zj.mk c s14.2.1)]):Int)-1))) ?_;conv=>arg 3;whnf
   refine Zg rfl ?_ ?_<;>conv=>arg 3;whnf
   ·refine Zf (Zco (f:=Ze) (g:=Ze) (fun ka kb:Int=>(ka==kb)) (fun _ _=>rfl) (Zz (fun ka kb:Int=>(ka==kb)) s14.2.2.1 c (w64 ((List.length (s14.2.2.2.2.2.2++[(Zj.mk c s14.2.1)]):Int)-1))) c 0) ?_;conv=>arg 3;whnf
    refine Zf (Zco (f:=Ze) (g:=Ze) (fun ka kb:Int=>(ka==kb)) (fun _ _=>rfl) (Zz (fun ka kb:Int=>(ka==kb)) s14.2.2.1 c (w64 ((List.length (s14.2.2.2.2.2.2++[(Zj.mk c s14.2.1)]):Int)-1))) c 0) ?_;conv=>arg 3;whnf
    refine Zc _ Zbf fun x19 hx19=>?_;conv=>arg 3;whnf
    refine Zi rfl rfl fun x20 hx20=>?_;conv=>arg 3;whnf
    refine Zi rfl rfl fun x21 hx21=>?_;conv=>arg 3;whnf
    refine Zf (Zco (f:=Ze) (g:=Ze) (fun ka kb:Int=>(ka==kb)) (fun _ _=>rfl) (Zz (fun ka kb:Int=>(ka==kb)) s14.2.2.1 c (w64 ((List.length (s14.2.2.2.2.2.2++[(Zj.mk c s14.2.1)]):Int)-1))) c 0) ?_;conv=>arg 3;whnf
    refine Zf (ZeF (f:=Zt) (g:=Ze) (fun ka kb:Zk=>((ka.maker==kb.maker)&&((ka.user==kb.user)&&((ka.pos==kb.pos)&&true)))) (fun _ _=>rfl) s14.2.2.2.1 x21 (Zaw (fun ka kb:Int=>(ka==kb)) (Zz (fun ka kb:Int=>(ka==kb)) s14.2.2.1 c (w64 ((List.length (s14.2.2.2.2.2.2++[(Zj.mk c s14.2.1)]):Int)-1))) c 0)) ?_;conv=>arg 3;whnf
    exact Zd (ih _)
   ·exact Zd (ih _)
  ·refine Zc _ Zbu fun x22 hx22=>?_;conv=>arg 3;whnf
   refine Zf (ZeF (f:=Ze) (g:=Ze) (fun ka kb:Int=>(ka==kb)) (fun _ _=>rfl) s14.2.2.1 c (w64 ((List.length (s14.2.2.2.2.2.2++[(Zj.mk c s14.2.1)]):Int)-1))) ?_;conv=>arg 3;whnf
   refine Zg rfl ?_ ?_<;>conv=>arg 3;whnf
   ·refine Zf (Zco (f:=Ze) (g:=Ze) (fun ka kb:Int=>(ka==kb)) (fun _ _=>rfl) (Zz (fun ka kb:Int=>(ka==kb)) s14.2.2.1 c (w64 ((List.length (s14.2.2.2.2.2.2++[(Zj.mk c s14.2.1)]):Int)-1))) c 0) ?_;conv=>arg 3;whnf
    refine Zf (Zco (f:=Ze) (g:=Ze) (fun ka kb:Int=>(ka==kb)) (fun _ _=>rfl) (Zz (fun ka kb:Int=>(ka==kb)) s14.2.2.1 c (w64 ((List.length (s14.2.2.2.2.2.2++[(Zj.mk c s14.2.1)]):Int)-1))) c 0) ?_;conv=>arg 3;whnf
    refine Zc _ Zbf fun x23 hx23=>?_;conv=>arg 3;whnf
    refine Zi rfl rfl fun x24 hx24=>?_;conv=>arg 3;whnf
    refine Zi rfl rfl fun x25 hx25=>?_;conv=>arg 3;whnf
    refine Zf (Zco (f:=Ze) (g:=Ze) (fun ka kb:Int=>(ka==kb)) (fun _ _=>rfl) (Zz (fun ka kb:Int=>(ka==kb)) s14.2.2.1 c (w64 ((List.length (s14.2.2.2.2.2.2++[(Zj.mk c s14.2.1)]):Int)-1))) c 0) ?_;conv=>arg 3;whnf
    refine Zf (ZeF (f:=Zt) (g:=Ze) (fun ka kb:Zk=>((ka.maker==kb.maker)&&((ka.user==kb.user)&&((ka.pos==kb.pos)&&true)))) (fun _ _=>rfl) s14.2.2.2.1 x25 (Zaw (fun ka kb:Int=>(ka==kb)) (Zz (fun ka kb:Int=>(ka==kb)) s14.2.2.1 c (w64 ((List.length (s14.2.2.2.2.2.2++[(Zj.mk c s14.2.1)]):Int)-1))) c 0)) ?_;conv=>arg 3;whnf
    exact Zd (ih _)
   ·exact Zd (ih _)
 ·exact Zh rfl
def Zg5 (t0:Bool) (t1:Bool) (t2:Bool) (t3:Bool) (b:Zm) (c:Int) (m1_0:(List Int)) (m2_0:(List Zr)) (m3_0:(List Zj)) (m4_0:(List (Int×Int))) (m5_0:(List (Int×Int))) (m6_0:(List (Zk×Int))) (x0:(List Int)) (x4:Zk):(((List (Int×Int))×(List (Zk×Int))×(List Int)×(List Zr)×(List Zj))⊕Unit)→Ex×List V×Zq
  | (.inl r)=>(.exit 0,[],[(.cells [(.sl 7 1),(.sl 8 2),(.sl 9 2),(.mp 4),(.mp 5),(.mp 6)]),.dead,.dead,.dead,(.mp (mpD Ze Ze (Zz (fun ka kb:Int=>(ka==kb)) m4_0 c (m3_0.length:Int)))),(.mp (mpD Ze Ze r.1)),(.mp (mpD Zt Ze r.2.1)),(.arr 1 (List.map Ze r.2.2.1)),(.arr 2 (List.map ZI r.2.2.2.1)),(.arr 2 (List.map Zcb r.2.2.2.2))])
  | (.inr r)=>(.exit 0,[],[(.cells [(.sl 7 1),(.sl 2 2),(.sl 8 2),(.mp 4),(.mp 5),(.mp 6)]),.dead,(.arr 2 (List.map ZI m2_0)),.dead,(.mp (mpD Ze Ze (Zz (fun ka kb:Int=>(ka==kb)) m4_0 c (m3_0.length:Int)))),(.mp (mpD Ze Ze (Zz (fun ka kb:Int=>(ka==kb)) m5_0 c (w64 ((List.length (m3_0++[(Zj.mk c 0)]):Int)-1))))),(.mp (mpD Zt Ze m6_0)),(.arr 1 (List.map Ze (m1_0++[(w64 (x4.pos-0))]))),(.arr 2 (List.map Zcb (m3_0++[(Zj.mk c 0)])))])
theorem Zjh {t0:Bool}{t1:Bool}{t2:Bool}{t3:Bool}{b:Zm}{c:Int}{m1_0:(List Int)}{m2_0:(List Zr)}{m3_0:(List Zj)}{m4_0:(List (Int×Int))}{m5_0:(List (Int×Int))}{m6_0:(List (Zk×Int))}{x0:(List Int)}{x4:Zk}:∀(s6:Unit) (r:(((List (Int×Int))×(List (Zk×Int))×(List Int)×(List Zr)×(List Zj))⊕Unit)),lp (Zcq b c m1_0 m2_0 m3_0 m5_0 m6_0 x0 x4) s6=some r→lpW ctx 7 [0,2,4,6,7,26,27] [] Zq2 [(.ptr 0 0),(.d (Ze c)),(.ptr 7 0),(.d (Ze x4.pos)),(.d (D.list true (List.map Ze x0))),(.d (Ze (w64 ((x0.length:Int)+1)))),(.d (Ze 1))] [(.cells [(.sl 8 1),(.sl 2 2),(.sl 9 2),(.mp 4),(.mp 5),(.mp 6)]),.dead,(.arr 2 (List.map ZI m2_0)),.dead,(.mp (mpD Ze Ze (Zz (fun ka kb:Int=>(ka==kb)) m4_0 c (m3_0.length:Int)))),(.mp (mpD Ze Ze (Zz (fun ka kb:Int=>(ka==kb)) m5_0 c (w64 ((List.length (m3_0++[(Zj.mk c 0)]):Int)-1))))),(.mp (mpD Zt Ze m6_0)),(.cells (dV t0 t1 t2 t3 b)),(.arr 1 (List.map Ze (m1_0++[(w64 (x4.pos-0))]))),(.arr 2 (List.map Zcb (m3_0++[(Zj.mk c 0)])))]=some ((Zg5 t0 t1 t2 t3 b c m1_0 m2_0 m3_0 m4_0 m5_0 m6_0 x0 x4) r):=by
 refine ZaX (Zg5 t0 t1 t2 t3 b c m1_0 m2_0 m3_0 m4_0 m5_0 m6_0 x0 x4) ?_
 intro s6 rcl ih
 show ZS _ _ (lpW _ _ _ _ _ _ _)
 unfold Zcq
 rw[ZaY]
 conv=>arg 3;whnf
 refine Zg rfl ?_ ?_<;>conv=>arg 3;whnf
 ·refine Zi rfl rfl fun x7 hx7=>?_;conv=>arg 3;whnf
  refine Zn (Z3 _ _) ?_;conv=>arg 3;whnf
  refine Zg rfl ?_ ?_<;>conv=>arg 3;whnf
  ·refine Zi rfl rfl fun x8 hx8=>?_;conv=>arg 3;whnf
   refine Zi rfl rfl fun x9 hx9=>?_;conv=>arg 3;whnf
   refine Zc _ Zbu fun x10 hx10=>?_;conv=>arg 3;whnf
   refine Zf (ZeF (f:=Ze) (g:=Ze) (fun ka kb:Int=>(ka==kb)) (fun _ _=>rfl) (Zz (fun ka kb:Int=>(ka==kb)) m5_0 c (w64 ((List.length (m3_0++[(Zj.mk c 0)]):Int)-1))) c (w64 ((List.length ((m3_0++[(Zj.mk c 0)])++[(Zj.mk c 1)]):Int)-1))) ?_;conv=>arg 3;whnf
   refine Zbr rfl ?_;conv=>arg 3;whnf
   refine Zf (Zco (f:=Ze) (g:=Ze) (fun ka kb:Int=>(ka==kb)) (fun _ _=>rfl) (Zz (fun ka kb:Int=>(ka==kb)) (Zz (fun ka kb:Int=>(ka==kb)) m5_0 c (w64 ((List.length (m3_0++[(Zj.mk c 0)]):Int)-1))) c (w64 ((List.length ((m3_0++[(Zj.mk c 0)])++[(Zj.mk c 1)]):Int)-1))) c 0) ?_;conv=>arg 3;whnf
   refine Zf (Zco (f:=Ze) (g:=Ze) (fun ka kb:Int=>(ka==kb)) (fun _ _=>rfl) (Zz (fun ka kb:Int=>(ka==kb)) (Zz (fun ka kb:Int=>(ka==kb)) m5_0 c (w64 ((List.length (m3_0++[(Zj.mk c 0)]):Int)-1))) c (w64 ((List.length ((m3_0++[(Zj.mk c 0)])++[(Zj.mk c 1)]):Int)-1))) c 0) ?_;conv=>arg 3;whnf
   refine Zc _ Zbf fun x11 hx11=>?_;conv=>arg 3;whnf
   refine Zi rfl rfl fun x12 hx12=>?_;conv=>arg 3;whnf
   refine Zi rfl rfl fun x13 hx13=>?_;conv=>arg 3;whnf
   refine Zf (Zco (f:=Ze) (g:=Ze) (fun ka kb:Int=>(ka==kb)) (fun _ _=>rfl) (Zz (fun ka kb:Int=>(ka==kb)) (Zz (fun ka kb:Int=>(ka==kb)) m5_0 c (w64 ((List.length (m3_0++[(Zj.mk c 0)]):Int)-1))) c (w64 ((List.length ((m3_0++[(Zj.mk c 0)])++[(Zj.mk c 1)]):Int)-1))) c 0) ?_;conv=>arg 3;whnf
   refine Zf (ZeF (f:=Zt) (g:=Ze) (fun ka kb:Zk=>((ka.maker==kb.maker)&&((ka.user==kb.user)&&((ka.pos==kb.pos)&&true)))) (fun _ _=>rfl) m6_0 x13 (Zaw (fun ka kb:Int=>(ka==kb)) (Zz (fun ka kb:Int=>(ka==kb)) (Zz (fun ka kb:Int=>(ka==kb)) m5_0 c (w64 ((List.length (m3_0++[(Zj.mk c 0)]):Int)-1))) c (w64 ((List.length ((m3_0++[(Zj.mk c 0)])++[(Zj.mk c 1)]):Int)-1))) c 0)) ?_;conv=>arg 3;whnf
   refine Zc _ (ZdN _) fun r26 hr26=>?_;conv=>arg 3;whnf
   exact Zh rfl
  ·refine Zc _ Zbu fun x27 hx27=>?_;conv=>arg 3;whnf
   refine Zf (ZeF (f:=Ze) (g:=Ze) (fun ka kb:Int=>(ka==kb)) (fun _ _=>rfl) (Zz (fun ka kb:Int=>(ka==kb)) m5_0 c (w64 ((List.length (m3_0++[(Zj.mk c 0)]):Int)-1))) c (w64 ((List.length ((m3_0++[(Zj.mk c 0)])++[(Zj.mk c 1)]):Int)-1))) ?_;conv=>arg 3;whnf
   refine Zbr rfl ?_;conv=>arg 3;whnf
   refine Zf (Zco (f:=Ze) (g:=Ze) (fun ka kb:Int=>(ka==kb)) (fun _ _=>rfl) (Zz (fun ka kb:Int=>(ka==kb)) (Zz (fun ka kb:Int=>(ka==kb)) m5_0 c (w64 ((List.length (m3_0++[(Zj.mk c 0)]):Int)-1))) c (w64 ((List.length ((m3_0++[(Zj.mk c 0)])++[(Zj.mk c 1)]):Int)-1))) c 0) ?_;conv=>arg 3;whnf
   refine Zf (Zco (f:=Ze) (g:=Ze) (fun ka kb:Int=>(ka==kb)) (fun _ _=>rfl) (Zz (fun ka kb:Int=>(ka==kb)) (Zz (fun ka kb:Int=>(ka==kb)) m5_0 c (w64 ((List.length (m3_0++[(Zj.mk c 0)]):Int)-1))) c (w64 ((List.length ((m3_0++[(Zj.mk c 0)])++[(Zj.mk c 1)]):Int)-1))) c 0) ?_;conv=>arg 3;whnf
   refine Zc _ Zbf fun x28 hx28=>?_;conv=>arg 3;whnf
   refine Zi rfl rfl fun x29 hx29=>?_;conv=>arg 3;whnf
   refine Zi rfl rfl fun x30 hx30=>?_;conv=>arg 3;whnf
   refine Zf (Zco (f:=Ze) (g:=Ze) (fun ka kb:Int=>(ka==kb)) (fun _ _=>rfl) (Zz (fun ka kb:Int=>(ka==kb)) (Zz (fun ka kb:Int=>(ka==kb)) m5_0 c (w64 ((List.length (m3_0++[(Zj.mk c 0)]):Int)-1))) c (w64 ((List.length ((m3_0++[(Zj.mk c 0)])++[(Zj.mk c 1)]):Int)-1))) c 0) ?_;conv=>arg 3;whnf
   refine Zf (ZeF (f:=Zt) (g:=Ze) (fun ka kb:Zk=>((ka.maker==kb.maker)&&((ka.user==kb.user)&&((ka.pos==kb.pos)&&true)))) (fun _ _=>rfl) m6_0 x30 (Zaw (fun ka kb:Int=>(ka==kb)) (Zz (fun ka kb:Int=>(ka==kb)) (Zz (fun ka kb:Int=>(ka==kb)) m5_0 c (w64 ((List.length (m3_0++[(Zj.mk c 0)]):Int)-1))) c (w64 ((List.length ((m3_0++[(Zj.mk c 0)])++[(Zj.mk c 1)]):Int)-1))) c 0)) ?_;conv=>arg 3;whnf
   refine Zc _ (ZdN _) fun r43 hr43=>?_;conv=>arg 3;whnf
   exact Zh rfl
 ·exact Zh rfl
def Zhb (t0:Bool) (t1:Bool) (t2:Bool) (t3:Bool) (b:Zm) (c:Int) (m1_0:(List Int)) (m2_0:(List Zr)) (m3_0:(List Zj)) (m4_0:(List (Int×Int))) (m5_0:(List (Int×Int))) (m6_0:(List (Zk×Int))) (x0:(List Int)) (x2:Zaa):(((List (Int×Int))×(List (Zk×Int))×(List Int)×(List Zr)×(List Zj))⊕Unit)→Ex×List V×Zq
  | (.inl r)=>(.exit 0,[],[(.cells [(.sl 7 1),(.sl 8 2),(.sl 9 2),(.mp 4),(.mp 5),(.mp 6)]),.dead,.dead,.dead,(.mp (mpD Ze Ze (Zz (fun ka kb:Int=>(ka==kb)) m4_0 c (m3_0.length:Int)))),(.mp (mpD Ze Ze r.1)),(.mp (mpD Zt Ze r.2.1)),(.arr 1 (List.map Ze r.2.2.1)),(.arr 2 (List.map ZI r.2.2.2.1)),(.arr 2 (List.map Zcb r.2.2.2.2))])
  | (.inr r)=>(.exit 0,[],[(.cells [(.sl 7 1),(.sl 2 2),(.sl 8 2),(.mp 4),(.mp 5),(.mp 6)]),.dead,(.arr 2 (List.map ZI m2_0)),.dead,(.mp (mpD Ze Ze (Zz (fun ka kb:Int=>(ka==kb)) m4_0 c (m3_0.length:Int)))),(.mp (mpD Ze Ze (Zz (fun ka kb:Int=>(ka==kb)) m5_0 c (w64 ((List.length (m3_0++[(Zj.mk c 0)]):Int)-1))))),(.mp (mpD Zt Ze m6_0)),(.arr 1 (List.map Ze (m1_0++[(w64 (x2.work-0))]))),(.arr 2 (List.map Zcb (m3_0++[(Zj.mk c 0)])))])
theorem Zjp {t0:Bool}{t1:Bool}{t2:Bool}{t3:Bool}{b:Zm}{c:Int}{m1_0:(List Int)}{m2_0:(List Zr)}{m3_0:(List Zj)}{m4_0:(List (Int×Int))}{m5_0:(List (Int×Int))}{m6_0:(List (Zk×Int))}{x0:(List Int)}{x2:Zaa}:∀(s46:Unit) (r:(((List (Int×Int))×(List (Zk×Int))×(List Int)×(List Zr)×(List Zj))⊕Unit)),lp (Zdf b c m1_0 m2_0 m3_0 m5_0 m6_0 x0 x2) s46=some r→lpW ctx 7 [0,2,4,6,7,26,27] [] Zq2 [(.ptr 0 0),(.d (Ze c)),(.ptr 7 0),(.d (Ze x2.work)),(.d (D.list true (List.map Ze x0))),(.d (Ze (w64 ((x0.length:Int)+1)))),(.d (Ze 1))] [(.cells [(.sl 8 1),(.sl 2 2),(.sl 9 2),(.mp 4),(.mp 5),(.mp 6)]),.dead,(.arr 2 (List.map ZI m2_0)),.dead,(.mp (mpD Ze Ze (Zz (fun ka kb:Int=>(ka==kb)) m4_0 c (m3_0.length:Int)))),(.mp (mpD Ze Ze (Zz (fun ka kb:Int=>(ka==kb)) m5_0 c (w64 ((List.length (m3_0++[(Zj.mk c 0)]):Int)-1))))),(.mp (mpD Zt Ze m6_0)),(.cells (dV t0 t1 t2 t3 b)),(.arr 1 (List.map Ze (m1_0++[(w64 (x2.work-0))]))),(.arr 2 (List.map Zcb (m3_0++[(Zj.mk c 0)])))]=some ((Zhb t0 t1 t2 t3 b c m1_0 m2_0 m3_0 m4_0 m5_0 m6_0 x0 x2) r):=by
 refine ZaX (Zhb t0 t1 t2 t3 b c m1_0 m2_0 m3_0 m4_0 m5_0 m6_0 x0 x2) ?_
 intro s46 rcl ih
 show ZS _ _ (lpW _ _ _ _ _ _ _)
 unfold Zdf
 rw[ZaY]
 conv=>arg 3;whnf
 refine Zg rfl ?_ ?_<;>conv=>arg 3;whnf
 ·refine Zi rfl rfl fun x47 hx47=>?_;conv=>arg 3;whnf
  refine Zn (Z3 _ _) ?_;conv=>arg 3;whnf
  refine Zg rfl ?_ ?_<;>conv=>arg 3;whnf
  ·refine Zi rfl rfl fun x48 hx48=>?_;conv=>arg 3;whnf
   refine Zi rfl rfl fun x49 hx49=>?_;conv=>arg 3;whnf
   refine Zc _ Zbu fun x50 hx50=>?_;conv=>arg 3;whnf
   refine Zf (ZeF (f:=Ze) (g:=Ze) (fun ka kb:Int=>(ka==kb)) (fun _ _=>rfl) (Zz (fun ka kb:Int=>(ka==kb)) m5_0 c (w64 ((List.length (m3_0++[(Zj.mk c 0)]):Int)-1))) c (w64 ((List.length ((m3_0++[(Zj.mk c 0)])++[(Zj.mk c 1)]):Int)-1))) ?_;conv=>arg 3;whnf
   refine Zbr rfl ?_;conv=>arg 3;whnf
   refine Zf (Zco (f:=Ze) (g:=Ze) (fun ka kb:Int=>(ka==kb)) (fun _ _=>rfl) (Zz (fun ka kb:Int=>(ka==kb)) (Zz (fun ka kb:Int=>(ka==kb)) m5_0 c (w64 ((List.length (m3_0++[(Zj.mk c 0)]):Int)-1))) c (w64 ((List.length ((m3_0++[(Zj.mk c 0)])++[(Zj.mk c 1)]):Int)-1))) c 0) ?_;conv=>arg 3;whnf
   refine Zf (Zco (f:=Ze) (g:=Ze) (fun ka kb:Int=>(ka==kb)) (fun _ _=>rfl) (Zz (fun ka kb:Int=>(ka==kb)) (Zz (fun ka kb:Int=>(ka==kb)) m5_0 c (w64 ((List.length (m3_0++[(Zj.mk c 0)]):Int)-1))) c (w64 ((List.length ((m3_0++[(Zj.mk c 0)])++[(Zj.mk c 1)]):Int)-1))) c 0) ?_;conv=>arg 3;whnf
   refine Zc _ Zbf fun x51 hx51=>?_;conv=>arg 3;whnf
   refine Zi rfl rfl fun x52 hx52=>?_;conv=>arg 3;whnf
   refine Zi rfl rfl fun x53 hx53=>?_;conv=>arg 3;whnf
   refine Zf (Zco (f:=Ze) (g:=Ze) (fun ka kb:Int=>(ka==kb)) (fun _ _=>rfl) (Zz (fun ka kb:Int=>(ka==kb)) (Zz (fun ka kb:Int=>(ka==kb)) m5_0 c (w64 ((List.length (m3_0++[(Zj.mk c 0)]):Int)-1))) c (w64 ((List.length ((m3_0++[(Zj.mk c 0)])++[(Zj.mk c 1)]):Int)-1))) c 0) ?_;conv=>arg 3;whnf
   refine Zf (ZeF (f:=Zt) (g:=Ze) (fun ka kb:Zk=>((ka.maker==kb.maker)&&((ka.user==kb.user)&&((ka.pos==kb.pos)&&true)))) (fun _ _=>rfl) m6_0 x53 (Zaw (fun ka kb:Int=>(ka==kb)) (Zz (fun ka kb:Int=>(ka==kb)) (Zz (fun ka kb:Int=>(ka==kb)) m5_0 c (w64 ((List.length (m3_0++[(Zj.mk c 0)]):Int)-1))) c (w64 ((List.length ((m3_0++[(Zj.mk c 0)])++[(Zj.mk c 1)]):Int)-1))) c 0)) ?_;conv=>arg 3;whnf
   refine Zc _ (ZdN _) fun r66 hr66=>?_;conv=>arg 3;whnf
   exact Zh rfl
  ·refine Zc _ Zbu fun x67 hx67=>?_;conv=>arg 3;whnf
   refine Zf (ZeF (f:=Ze) (g:=Ze) (fun ka kb:Int=>(ka==kb)) (fun _ _=>rfl) (Zz (fun ka kb:Int=>(ka==kb)) m5_0 c (w64 ((List.length (m3_0++[(Zj.mk c 0)]):Int)-1))) c (w64 ((List.length ((m3_0++[(Zj.mk c 0)])++[(Zj.mk c 1)]):Int)-1))) ?_;conv=>arg 3;whnf
   refine Zbr rfl ?_;conv=>arg 3;whnf
   refine Zf (Zco (f:=Ze) (g:=Ze) (fun ka kb:Int=>(ka==kb)) (fun _ _=>rfl) (Zz (fun ka kb:Int=>(ka==kb)) (Zz (fun ka kb:Int=>(ka==kb)) m5_0 c (w64 ((List.length (m3_0++[(Zj.mk c 0)]):Int)-1))) c (w64 ((List.length ((m3_0++[(Zj.mk c 0)])++[(Zj.mk c 1)]):Int)-1))) c 0) ?_;conv=>arg 3;whnf
   refine Zf (Zco (f:=Ze) (g:=Ze) (fun ka kb:Int=>(ka==kb)) (fun _ _=>rfl) (Zz (fun ka kb:Int=>(ka==kb)) (Zz (fun ka kb:Int=>(ka==kb)) m5_0 c (w64 ((List.length (m3_0++[(Zj.mk c 0)]):Int)-1))) c (w64 ((List.length ((m3_0++[(Zj.mk c 0)])++[(Zj.mk c 1)]):Int)-1))) c 0) ?_;conv=>arg 3;whnf
   refine Zc _ Zbf fun x68 hx68=>?_;conv=>arg 3;whnf
   refine Zi rfl rfl fun x69 hx69=>?_;conv=>arg 3;whnf
   refine Zi rfl rfl fun x70 hx70=>?_;conv=>arg 3;whnf
   refine Zf (Zco (f:=Ze) (g:=Ze) (fun ka kb:Int=>(ka==kb)) (fun _ _=>rfl) (Zz (fun ka kb:Int=>(ka==kb)) (Zz (fun ka kb:Int=>(ka==kb)) m5_0 c (w64 ((List.length (m3_0++[(Zj.mk c 0)]):Int)-1))) c (w64 ((List.length ((m3_0++[(Zj.mk c 0)])++[(Zj.mk c 1)]):Int)-1))) c 0) ?_;conv=>arg 3;whnf
   refine Zf (ZeF (f:=Zt) (g:=Ze) (fun ka kb:Zk=>((ka.maker==kb.maker)&&((ka.user==kb.user)&&((ka.pos==kb.pos)&&true)))) (fun _ _=>rfl) m6_0 x70 (Zaw (fun ka kb:Int=>(ka==kb)) (Zz (fun ka kb:Int=>(ka==kb)) (Zz (fun ka kb:Int=>(ka==kb)) m5_0 c (w64 ((List.length (m3_0++[(Zj.mk c 0)]):Int)-1))) c (w64 ((List.length ((m3_0++[(Zj.mk c 0)])++[(Zj.mk c 1)]):Int)-1))) c 0)) ?_;conv=>arg 3;whnf
   refine Zc _ (ZdN _) fun r83 hr83=>?_;conv=>arg 3;whnf
   exact Zh rfl
 ·exact Zh rfl
def ZgX (t0:Bool) (t1:Bool) (t2:Bool) (t3:Bool) (b:Zm) (c:Int) (m1_0:(List Int)) (m2_0:(List Zr)) (m3_0:(List Zj)) (m4_0:(List (Int×Int))) (m5_0:(List (Int×Int))) (m6_0:(List (Zk×Int))) (x0:(List Int)):(((List (Int×Int))×(List (Zk×Int))×(List Int)×(List Zr)×(List Zj))⊕((List Int)⊕Unit))→Ex×List V×Zq
  | (.inl r)=>(.exit 0,[],[(.cells [(.sl 7 1),(.sl 8 2),(.sl 9 2),(.mp 4),(.mp 5),(.mp 6)]),.dead,.dead,.dead,(.mp (mpD Ze Ze (Zz (fun ka kb:Int=>(ka==kb)) m4_0 c (m3_0.length:Int)))),(.mp (mpD Ze Ze r.1)),(.mp (mpD Zt Ze r.2.1)),(.arr 1 (List.map Ze r.2.2.1)),(.arr 2 (List.map ZI r.2.2.2.1)),(.arr 2 (List.map Zcb r.2.2.2.2))])
  | (.inr (.inl r))=>(.exit 0,[],[(.cells [(.sl 7 1),(.sl 2 2),(.sl 8 2),(.mp 4),(.mp 5),(.mp 6)]),.dead,(.arr 2 (List.map ZI m2_0)),.dead,(.mp (mpD Ze Ze (Zz (fun ka kb:Int=>(ka==kb)) m4_0 c (m3_0.length:Int)))),(.mp (mpD Ze Ze (Zz (fun ka kb:Int=>(ka==kb)) m5_0 c (w64 ((List.length (m3_0++[(Zj.mk c 0)]):Int)-1))))),(.mp (mpD Zt Ze m6_0)),(.arr 1 (List.map Ze r)),(.arr 2 (List.map Zcb (m3_0++[(Zj.mk c 0)])))])
  | (.inr (.inr r))=>(.exit 0,[],[(.cells [(.sl 1 1),(.sl 2 2),(.sl 3 2),(.mp 4),(.mp 5),(.mp 6)]),(.arr 1 (List.map Ze m1_0)),(.arr 2 (List.map ZI m2_0)),(.arr 2 (List.map Zcb m3_0)),(.mp (mpD Ze Ze (Zz (fun ka kb:Int=>(ka==kb)) m4_0 c (m3_0.length:Int)))),(.mp (mpD Ze Ze m5_0)),(.mp (mpD Zt Ze m6_0))])
theorem Zjq {t0:Bool}{t1:Bool}{t2:Bool}{t3:Bool}{b:Zm}{c:Int}{m1_0:(List Int)}{m2_0:(List Zr)}{m3_0:(List Zj)}{m4_0:(List (Int×Int))}{m5_0:(List (Int×Int))}{m6_0:(List (Zk×Int))}{x0:(List Int)}:∀(s1:Unit) (r:(((List (Int×Int))×(List (Zk×Int))×(List Int)×(List Zr)×(List Zj))⊕((List Int)⊕Unit))),lp (Zcr b c m1_0 m2_0 m3_0 m5_0 m6_0 x0) s1=some r→lpW ctx 7 [0,2,4,6,7,26,27] [] Zq2 [(.ptr 0 0),(.d (Ze c)),(.ptr 7 0),(.d (Ze 0)),(.d (D.list true (List.map Ze x0))),(.d (Ze (w64 ((x0.length:Int)+1)))),(.d (Ze 0))] [(.cells [(.sl 1 1),(.sl 2 2),(.sl 3 2),(.mp 4),(.mp 5),(.mp 6)]),(.arr 1 (List.map Ze m1_0)),(.arr 2 (List.map ZI m2_0)),(.arr 2 (List.map Zcb m3_0)),(.mp (mpD Ze Ze (Zz (fun ka kb:Int=>(ka==kb)) m4_0 c (m3_0.length:Int)))),(.mp (mpD Ze Ze m5_0)),(.mp (mpD Zt Ze m6_0)),(.cells (dV t0 t1 t2 t3 b))]=some ((ZgX t0 t1 t2 t3 b c m1_0 m2_0 m3_0 m4_0 m5_0 m6_0 x0) r):=by
 refine ZaX (ZgX t0 t1 t2 t3 b c m1_0 m2_0 m3_0 m4_0 m5_0 m6_0 x0) ?_
 intro s1 rcl ih
 show ZS _ _ (lpW _ _ _ _ _ _ _)
 unfold Zcr
 rw[ZaY]
 conv=>arg 3;whnf
 refine Zg rfl ?_ ?_<;>conv=>arg 3;whnf
 ·refine Zi rfl rfl fun x2 hx2=>?_;conv=>arg 3;whnf
  refine Zn (Z3 _ _) ?_;conv=>arg 3;whnf
  refine Zg rfl ?_ ?_<;>conv=>arg 3;whnf
  ·refine Zi rfl rfl fun x3 hx3=>?_;conv=>arg 3;whnf
   refine Zi rfl rfl fun x4 hx4=>?_;conv=>arg 3;whnf
   refine Zc _ Zbu fun x5 hx5=>?_;conv=>arg 3;whnf
   refine Zf (ZeF (f:=Ze) (g:=Ze) (fun ka kb:Int=>(ka==kb)) (fun _ _=>rfl) m5_0 c (w64 ((List.length (m3_0++[(Zj.mk c 0)]):Int)-1))) ?_;conv=>arg 3;whnf
   refine ZR rfl ?_;conv=>arg 3;whnf
   refine Zc _ (Zjh _) fun r44 hr44=>?_
   clear hr44
   rcases r44 with r44 | r44
   ·conv=>arg 3;whnf
    exact Zh rfl
   ·conv=>arg 3;whnf
    exact Zh rfl
  ·refine Zc _ Zbu fun x45 hx45=>?_;conv=>arg 3;whnf
   refine Zf (ZeF (f:=Ze) (g:=Ze) (fun ka kb:Int=>(ka==kb)) (fun _ _=>rfl) m5_0 c (w64 ((List.length (m3_0++[(Zj.mk c 0)]):Int)-1))) ?_;conv=>arg 3;whnf
   refine ZR rfl ?_;conv=>arg 3;whnf
   refine Zc _ (Zjp _) fun r84 hr84=>?_
   clear hr84
   rcases r84 with r84 | r84
   ·conv=>arg 3;whnf
    exact Zh rfl
   ·conv=>arg 3;whnf
    exact Zh rfl
 ·exact Zh rfl
theorem Zlu {t0:Bool}{t1:Bool}{t2:Bool}{t3:Bool}{b:Zm}{c:Int}{m1_0:(List Int)}{m2_0:(List Zr)}{m3_0:(List Zj)}{m4_0:(List (Int×Int))}{m5_0:(List (Int×Int))}{m6_0:(List (Zk×Int))}:∀r,(ZeK b c m1_0 m2_0 m3_0 m5_0 m6_0)=some r→evW ctx 42 [(.ptr 0 0),(.d (D.agg (dA t0 t1 t2 t3 b))),(.d (Ze c))] [(.cells [(.sl 1 1),(.sl 2 2),(.sl 3 2),(.mp 4),(.mp 5),(.mp 6)]),(.arr 1 (List.map Ze m1_0)),(.arr 2 (List.map ZI m2_0)),(.arr 2 (List.map Zcb m3_0)),(.mp (mpD Ze Ze m4_0)),(.mp (mpD Ze Ze m5_0)),(.mp (mpD Zt Ze m6_0))]=some ((Zin t0 t1 t2 t3 b c m1_0 m2_0 m3_0 m4_0 m5_0 m6_0) r):=by
 show ZS _ (fun r rhs=>rhs=some ((Zin t0 t1 t2 t3 b c m1_0 m2_0 m3_0 m4_0 m5_0 m6_0) r)) _
 unfold ZeK
 rw[Zd4 ctx 42 ZCR _ _ rfl rfl]
 conv=>arg 3;whnf
 refine Zn (Z3 _ _) ?_;conv=>arg 3;whnf
 refine Zf (ZeF (f:=Ze) (g:=Ze) (fun ka kb:Int=>(ka==kb)) (fun _ _=>rfl) m4_0 c (m3_0.length:Int)) ?_;conv=>arg 3;whnf
 refine Zp _ Zj8 rfl fun x0 hx0=>?_;conv=>arg 3;whnf
 refine Zn (Z3 _ _) ?_;conv=>arg 3;whnf
 refine Zc _ (Zjq _) fun r85 hr85=>?_
 clear hr85
 rcases r85 with r85 | (r85 | r85)
 ·conv=>arg 3;whnf
  exact Zh rfl
 ·conv=>arg 3;whnf
  exact Zh rfl
 ·conv=>arg 3;whnf
  exact Zh rfl
def ZlG (r:Bool):D:=(D.bool r)
theorem ZoL {a:Int}:∀r,(Zd9 a)=some r→evD ctx 79 [(.d (Ze a))]=some (ZlG r):=by
 show ZS _ (fun r rhs=>rhs=some (ZlG r)) _
 unfold Zd9
 rw[ZbV ctx 79 ZBV _ rfl rfl]
 conv=>arg 3;whnf
 refine Zg rfl ?_ ?_<;>conv=>arg 3;whnf
 ·exact Zh rfl
 ·refine Zg rfl ?_ ?_<;>conv=>arg 3;whnf
  ·exact Zh rfl
  ·exact Zh rfl
def ZdB (r:Int):D:=(Ze r)
def Zdd (t0:Bool) (a:(List Int)):(Int⊕Unit)→Ex×List V×Zq
  | (.inl r)=>(.ret,[(.d (Ze r))],[])
  | (.inr r)=>(.exit 0,[.bad],[])
theorem ZfD {t0:Bool}{a:(List Int)}:∀(s0:Int) (r:(Int⊕Unit)),lp (Za7 a (fun z0=>Zd9 z0)) s0=some r→lpW ctx 0 [0,1,7,8] [4] Ztg [(.d (D.list t0 (List.map Ze a))),(.d (D.fn 79 [])),(.d (Ze (a.length:Int))),(.d (Ze s0))] []=some ((Zdd t0 a) r):=by
 refine ZaX (Zdd t0 a) ?_
 intro s0 rcl ih
 show ZS _ _ (lpW _ _ _ _ _ _ _)
 unfold Za7
 rw[ZaY]
 conv=>arg 3;whnf
 refine Zg rfl ?_ ?_<;>conv=>arg 3;whnf
 ·refine Zi rfl rfl fun x1 hx1=>?_;conv=>arg 3;whnf
  refine Zp _ ZoL rfl fun x2 hx2=>?_;conv=>arg 3;whnf
  refine Zg rfl ?_ ?_<;>conv=>arg 3;whnf
  ·exact Zh rfl
  ·exact Zd (ih _)
 ·exact Zh rfl
theorem Zgd {t0:Bool}{a:(List Int)}:∀r,(ZbF a (fun z0=>Zd9 z0))=some r→evD ctx 104 [(.d (D.list t0 (List.map Ze a))),(.d (D.fn 79 []))]=some (ZdB r):=by
 show ZS _ (fun r rhs=>rhs=some (ZdB r)) _
 unfold ZbF
 rw[ZbV ctx 104 ZvN _ rfl rfl]
 conv=>arg 3;whnf
 refine Zn (Z3 _ _) ?_;conv=>arg 3;whnf
 refine Zc _ (ZfD _) fun r3 hr3=>?_
 clear hr3
 rcases r3 with r3 | r3
 ·conv=>arg 3;whnf
  exact Zh rfl
 ·conv=>arg 3;whnf
  exact Zh rfl
def Zdg (r:Bool):D:=(D.bool r)
theorem ZfF {t0:Bool}{a:(List Int)}:∀r,(ZaJ a (fun z0=>Zd9 z0))=some r→evD ctx 77 [(.d (D.list t0 (List.map Ze a))),(.d (D.fn 79 []))]=some (Zdg r):=by
 show ZS _ (fun r rhs=>rhs=some (Zdg r)) _
 unfold ZaJ
 rw[ZbV ctx 77 Zz2 _ rfl rfl]
 conv=>arg 3;whnf
 refine Zp _ Zgd rfl fun x0 hx0=>?_;conv=>arg 3;whnf
 refine Zg rfl ?_ ?_<;>conv=>arg 3;whnf
 ·exact Zh rfl
 ·exact Zh rfl
def ZlI (r:Bool):D:=(D.bool r)
theorem ZkI {t0:Bool}{t1:Bool}{a:Int}{b0:(List Int)}{b1:(List Zr)}:∀r,(ZgB a b0)=some r→evD ctx 80 [(.d (Ze a)),(.d (D.rptr [(D.list t0 (List.map Ze b0)),(D.list t1 (List.map ZI b1))]))]=some (ZlI r):=by
 show ZS _ (fun r rhs=>rhs=some (ZlI r)) _
 unfold ZgB
 rw[ZbV ctx 80 ZCJ _ rfl rfl]
 conv=>arg 3;whnf
 refine Zg rfl ?_ ?_<;>conv=>arg 3;whnf
 ·refine Zn (Z3 _ _) ?_;conv=>arg 3;whnf
  refine Zg rfl ?_ ?_<;>conv=>arg 3;whnf
  ·exact Zh rfl
  ·exact Zh rfl
 ·exact Zh rfl
def ZmR (r:((List Int)×Bool)):D:=(D.tup [(D.list true (List.map Ze r.1)),(D.bool r.2)])
def Zk3 (t0:Bool) (t1:Bool) (a:Zb5) (s0:(List Int)×(List Bool)) (s1:Int):(Unit⊕Unit)→Ex×List V×Zq
  | (.inl r)=>(.exit 3,[(.ptr 0 0),(.sl 1 1),(.sl 2 1),(.d (Ze s1)),(.d (Ze (a.work.length:Int))),(.d (Ze s1))],[(.cells [(.d (D.list t0 (List.map Ze a.work))),(.d (D.list t1 (List.map ZI a.edges)))]),(.arr 1 (List.map Ze s0.1)),(.arr 1 (List.map D.bool s0.2))])
  | (.inr r)=>(.exit 4,[(.ptr 0 0),(.sl 1 1),(.sl 2 1),(.d (Ze s1)),(.d (Ze (a.work.length:Int))),(.d (Ze s1))],[(.cells [(.d (D.list t0 (List.map Ze a.work))),(.d (D.list t1 (List.map ZI a.edges)))]),(.arr 1 (List.map Ze s0.1)),(.arr 1 (List.map D.bool s0.2))])
theorem Zn3 {t0:Bool}{t1:Bool}{a:Zb5}{s0:(List Int)×(List Bool)}{s1:Int}:∀(s3:Int) (r:(Unit⊕Unit)),lp (Zgc a s0 s1) s3=some r→lpW ctx 0 [1,4,5,6,21,22,30,31,32] [1,4,5,6,21,22] ZxV [(.ptr 0 0),(.sl 1 1),(.sl 2 1),(.d (Ze s1)),(.d (Ze (a.work.length:Int))),(.d (Ze s1)),(.d (D.list t1 (List.map ZI a.edges))),(.d (Ze (a.edges.length:Int))),(.d (Ze s3))] [(.cells [(.d (D.list t0 (List.map Ze a.work))),(.d (D.list t1 (List.map ZI a.edges)))]),(.arr 1 (List.map Ze s0.1)),(.arr 1 (List.map D.bool s0.2))]=some ((Zk3 t0 t1 a s0 s1) r):=by
 refine ZaX (Zk3 t0 t1 a s0 s1) ?_
 intro s3 rcl ih
 show ZS _ _ (lpW _ _ _ _ _ _ _)
 unfold Zgc
 rw[ZaY]
 conv=>arg 3;whnf
 refine Zg rfl ?_ ?_<;>conv=>arg 3;whnf
 ·refine Zi rfl rfl fun x4 hx4=>?_;conv=>arg 3;whnf
  refine Zg rfl ?_ ?_<;>conv=>arg 3;whnf
  ·refine Zi rfl rfl fun x5 hx5=>?_;conv=>arg 3;whnf
   refine Zf (Zl rfl hx5) ?_;conv=>arg 3;whnf
   refine Zg rfl ?_ ?_<;>conv=>arg 3;whnf
   ·exact Zd (ih _)
   ·exact Zh rfl
  ·exact Zd (ih _)
 ·exact Zh rfl
def ZkV (t0:Bool) (t1:Bool) (a:Zb5) (s0:(List Int)×(List Bool)):(((List Int)×(List Bool))⊕Unit)→Ex×List V×Zq
  | (.inl r)=>(.exit 1,[(.ptr 0 0),(.sl 1 1),(.sl 2 1)],[(.cells [(.d (D.list t0 (List.map Ze a.work))),(.d (D.list t1 (List.map ZI a.edges)))]),(.arr 1 (List.map Ze r.1)),(.arr 1 (List.map D.bool r.2))])
  | (.inr r)=>(.exit 2,[(.ptr 0 0),(.sl 1 1),(.sl 2 1)],[(.cells [(.d (D.list t0 (List.map Ze a.work))),(.d (D.list t1 (List.map ZI a.edges)))]),(.arr 1 (List.map Ze s0.1)),(.arr 1 (List.map D.bool s0.2))])
theorem Zob {t0:Bool}{t1:Bool}{a:Zb5}{s0:(List Int)×(List Bool)}:∀(s1:Int) (r:(((List Int)×(List Bool))⊕Unit)),lp (Ze3 a s0) s1=some r→lpW ctx 0 [1,4,5,21,22] [1,4,5] ZzT [(.ptr 0 0),(.sl 1 1),(.sl 2 1),(.d (Ze (a.work.length:Int))),(.d (Ze s1))] [(.cells [(.d (D.list t0 (List.map Ze a.work))),(.d (D.list t1 (List.map ZI a.edges)))]),(.arr 1 (List.map Ze s0.1)),(.arr 1 (List.map D.bool s0.2))]=some ((ZkV t0 t1 a s0) r):=by
 refine ZaX (ZkV t0 t1 a s0) ?_
 intro s1 rcl ih
 show ZS _ _ (lpW _ _ _ _ _ _ _)
 unfold Ze3
 rw[ZaY]
 conv=>arg 3;whnf
 refine Zg rfl ?_ ?_<;>conv=>arg 3;whnf
 ·refine Zi rfl rfl fun x2 hx2=>?_;conv=>arg 3;whnf
  refine Zf (Zl rfl hx2) ?_;conv=>arg 3;whnf
  refine Zg rfl ?_ ?_<;>conv=>arg 3;whnf
  ·exact Zd (ih _)
  ·refine Zn (Z3 _ _) ?_;conv=>arg 3;whnf
   refine Zc _ (Zn3 _) fun r6 hr6=>?_
   clear hr6
   rcases r6 with r6 | r6
   ·conv=>arg 3;whnf
    exact Zd (ih _)
   ·conv=>arg 3;whnf
    refine Zf (ZaG rfl hx2) ?_;conv=>arg 3;whnf
    refine Zf (Zl rfl hx2) ?_;conv=>arg 3;whnf
    refine Zn (Z1 D.bool s0.2 s1.toNat true) ?_;conv=>arg 3;whnf
    refine Zbr rfl ?_;conv=>arg 3;whnf
    refine Zg (Zic Ze s0.1 1) ?_ ?_
    ·conv=>arg 3;whnf
     refine Zn (Zh8 Ze s0.1 [s1]) ?_;conv=>arg 3;whnf
     exact Zh rfl
    ·exact ZaN
 ·exact Zh rfl
def ZkE (t0:Bool) (t1:Bool) (a:Zb5):((List Int)⊕(List Int))→Ex×List V×Zq
  | (.inl r)=>(.ret,[(.nilsl 1),(.d (D.bool false)),(.sl 0 1)],[(.arr 1 (List.map Ze r))])
  | (.inr r)=>(.exit 0,[.bad,.bad,(.sl 0 1)],[(.arr 1 (List.map Ze r))])
theorem Zop {t0:Bool}{t1:Bool}{a:Zb5}:∀(s0:(List Int)×(List Bool)) (r:((List Int)⊕(List Int))),lp (Zgf a) s0=some r→lpW ctx 0 [1,4,5] [2,3,4] ZzD [(.ptr 0 0),(.sl 1 1),(.sl 2 1)] [(.cells [(.d (D.list t0 (List.map Ze a.work))),(.d (D.list t1 (List.map ZI a.edges)))]),(.arr 1 (List.map Ze s0.1)),(.arr 1 (List.map D.bool s0.2))]=some ((ZkE t0 t1 a) r):=by
 refine ZaX (ZkE t0 t1 a) ?_
 intro s0 rcl ih
 show ZS _ _ (lpW _ _ _ _ _ _ _)
 unfold Zgf
 rw[ZaY]
 conv=>arg 3;whnf
 refine Zn (Z3 _ _) ?_;conv=>arg 3;whnf
 refine Zn (Z3 _ _) ?_;conv=>arg 3;whnf
 refine Zg rfl ?_ ?_<;>conv=>arg 3;whnf
 ·refine Zn (Z3 _ _) ?_;conv=>arg 3;whnf
  refine Zc _ (Zob _) fun r7 hr7=>?_
  clear hr7
  rcases r7 with r7 | r7
  ·conv=>arg 3;whnf
   exact Zd (ih _)
  ·conv=>arg 3;whnf
   exact Zh rfl
 ·exact Zh rfl
theorem Zl1 {t0:Bool}{t1:Bool}{a:Zb5}:∀r,(Zgh a)=some r→evD ctx 64 [(.d (D.agg [(D.list t0 (List.map Ze a.work)),(D.list t1 (List.map ZI a.edges))]))]=some (ZmR r):=by
 show ZS _ (fun r rhs=>rhs=some (ZmR r)) _
 unfold Zgh
 rw[ZbV ctx 64 ZB4 _ rfl rfl]
 conv=>arg 3;whnf
 refine Zn (Z3 _ _) ?_;conv=>arg 3;whnf
 refine Zg rfl ?_ ?_
 ·conv=>arg 3;whnf
  refine Zn (ZsZ D.bool (false:Bool) (a.work.length:Int)) ?_;conv=>arg 3;whnf
  refine Zc _ (Zop _) fun r8 hr8=>?_
  clear hr8
  rcases r8 with r8 | r8
  ·conv=>arg 3;whnf
   exact Zh rfl
  ·conv=>arg 3;whnf
   exact Zh rfl
 ·exact ZaN
def ZmY (r:Int):D:=(Ze r)
def ZkK (t0:Bool) (t1:Bool) (a:Zb5):(Unit⊕Unit)→Ex×List V×Zq
  | (.inl r)=>(.ret,[(.ptr 0 0),(.d (Ze 42))],[(.cells [(.d (D.list t0 (List.map Ze a.work))),(.d (D.list t1 (List.map ZI a.edges)))])])
  | (.inr r)=>(.exit 0,[(.ptr 0 0),.bad],[(.cells [(.d (D.list t0 (List.map Ze a.work))),(.d (D.list t1 (List.map ZI a.edges)))])])
theorem Zor {t0:Bool}{t1:Bool}{a:Zb5}:∀(s1:Int) (r:(Unit⊕Unit)),lp (Zfl a) s1=some r→lpW ctx 0 [1,3,23,24,25] [1,2] ZyG [(.ptr 0 0),(.fn 80 [(.ptr 0 0)]),(.d (D.list t1 (List.map ZI a.edges))),(.d (Ze (a.edges.length:Int))),(.d (Ze s1))] [(.cells [(.d (D.list t0 (List.map Ze a.work))),(.d (D.list t1 (List.map ZI a.edges)))])]=some ((ZkK t0 t1 a) r):=by
 refine ZaX (ZkK t0 t1 a) ?_
 intro s1 rcl ih
 show ZS _ _ (lpW _ _ _ _ _ _ _)
 unfold Zfl
 rw[ZaY]
 conv=>arg 3;whnf
 refine Zg rfl ?_ ?_<;>conv=>arg 3;whnf
 ·refine Zi rfl rfl fun x2 hx2=>?_;conv=>arg 3;whnf
  refine Zp _ ZkI rfl fun x3 hx3=>?_;conv=>arg 3;whnf
  refine Zg rfl ?_ ?_<;>conv=>arg 3;whnf
  ·refine Zp _ ZkI rfl fun x4 hx4=>?_;conv=>arg 3;whnf
   refine Zg rfl ?_ ?_<;>conv=>arg 3;whnf
   ·refine Zg rfl ?_ ?_<;>conv=>arg 3;whnf
    ·exact Zh rfl
    ·refine Zg rfl ?_ ?_
     ·conv=>arg 3;whnf
      refine Zg (Zyq ZI a.edges s1.toNat) ?_ ?_
      ·conv=>arg 3;whnf
       refine Zbr rfl ?_;conv=>arg 3;whnf
       refine Zn (Ztd ZI a.edges s1.toNat) ?_;conv=>arg 3;whnf
       refine Zp _ ZfG rfl fun x5 hx5=>?_;conv=>arg 3;whnf
       refine Zg rfl ?_ ?_<;>conv=>arg 3;whnf
       ·exact Zh rfl
       ·exact Zd (ih _)
      ·exact ZaN
     ·exact ZaN
   ·exact Zh rfl
  ·exact Zh rfl
 ·exact Zh rfl
theorem Zmf {t0:Bool}{t1:Bool}{a:Zb5}:∀r,(ZhW a)=some r→evD ctx 45 [(.d (D.agg [(D.list t0 (List.map Ze a.work)),(D.list t1 (List.map ZI a.edges))]))]=some (ZmY r):=by
 show ZS _ (fun r rhs=>rhs=some (ZmY r)) _
 unfold ZhW
 rw[ZbV ctx 45 ZCh _ rfl rfl]
 conv=>arg 3;whnf
 refine Zn (Z3 _ _) ?_;conv=>arg 3;whnf
 refine Zg rfl ?_ ?_<;>conv=>arg 3;whnf
 ·exact Zh rfl
 ·refine Zn (Z3 _ _) ?_;conv=>arg 3;whnf
  refine Zg rfl ?_ ?_<;>conv=>arg 3;whnf
  ·exact Zh rfl
  ·refine Zp _ ZfF rfl fun x0 hx0=>?_;conv=>arg 3;whnf
   refine Zg rfl ?_ ?_<;>conv=>arg 3;whnf
   ·exact Zh rfl
   ·refine Zn (Z3 _ _) ?_;conv=>arg 3;whnf
    refine Zc _ (Zor _) fun r6 hr6=>?_
    clear hr6
    rcases r6 with r6 | r6
    ·conv=>arg 3;whnf
     exact Zh rfl
    ·conv=>arg 3;whnf
     refine Zp _ Zl1 rfl fun x7 hx7=>?_;conv=>arg 3;whnf
     refine Zg rfl ?_ ?_<;>conv=>arg 3;whnf
     ·exact Zh rfl
     ·exact Zh rfl
def Zlz (r:(ZlR×Int)):D:=(D.tup [(D.agg [(D.list true (List.map Ze r.1.dag.work)),(D.list true (List.map ZI r.1.dag.edges)),(D.list true (List.map Zcb r.1.pieces))]),(Ze r.2)])
def ZjG (t0:Bool) (t1:Bool) (t2:Bool) (t3:Bool) (a:Zm):((List Int)×(List Zr)×(List Zj)×(List (Int×Int))×(List (Int×Int))×(List (Zk×Int)))→Ex×List V×Zq
  | r=>(.exit 0,[(.ptr 0 0),(.ptr 1 0),(.ptr 2 0)],[(.cells (dV t0 t1 t2 t3 a)),(.cells [(.sl 3 1),(.sl 4 2),(.sl 5 2)]),(.cells [(.sl 6 1),(.sl 7 2),(.sl 8 2),(.mp 9),(.mp 10),(.mp 11)]),(.arr 1 []),(.arr 2 []),(.arr 2 []),(.arr 1 (List.map Ze r.1)),(.arr 2 (List.map ZI r.2.1)),(.arr 2 (List.map Zcb r.2.2.1)),(.mp (mpD Ze Ze r.2.2.2.1)),(.mp (mpD Ze Ze r.2.2.2.2.1)),(.mp (mpD Zt Ze r.2.2.2.2.2))])
theorem ZmK {t0:Bool}{t1:Bool}{t2:Bool}{t3:Bool}{a:Zm}:∀(s1:Int×(List Int)×(List Zr)×(List Zj)×(List (Int×Int))×(List (Int×Int))×(List (Zk×Int))) (r:((List Int)×(List Zr)×(List Zj)×(List (Int×Int))×(List (Int×Int))×(List (Zk×Int)))),lp (Zdv a) s1=some r→lpW ctx 0 [1,2,5,31,32] [1,2,5] ZzK [(.ptr 0 0),(.ptr 1 0),(.ptr 2 0),(.d (Ze (a.parts.length:Int))),(.d (Ze s1.1))] [(.cells (dV t0 t1 t2 t3 a)),(.cells [(.sl 3 1),(.sl 4 2),(.sl 5 2)]),(.cells [(.sl 6 1),(.sl 7 2),(.sl 8 2),(.mp 9),(.mp 10),(.mp 11)]),(.arr 1 []),(.arr 2 []),(.arr 2 []),(.arr 1 (List.map Ze s1.2.1)),(.arr 2 (List.map ZI s1.2.2.1)),(.arr 2 (List.map Zcb s1.2.2.2.1)),(.mp (mpD Ze Ze s1.2.2.2.2.1)),(.mp (mpD Ze Ze s1.2.2.2.2.2.1)),(.mp (mpD Zt Ze s1.2.2.2.2.2.2))]=some ((ZjG t0 t1 t2 t3 a) r):=by
 refine ZaX (ZjG t0 t1 t2 t3 a) ?_
 intro s1 rcl ih
 show ZS _ _ (lpW _ _ _ _ _ _ _)
 unfold Zdv
 rw[ZaY]
 conv=>arg 3;whnf
 refine Zg rfl ?_ ?_<;>conv=>arg 3;whnf
 ·refine Zc _ Zlu fun x2 hx2=>?_
  clear hx2
  rcases x2 with x2 | (x2 | x2)
  ·conv=>arg 3;whnf
   exact Zd (ih _)
  ·conv=>arg 3;whnf
   exact Zd (ih _)
  ·conv=>arg 3;whnf
   exact Zd (ih _)
 ·exact Zh rfl
def ZjF (t0:Bool) (t1:Bool) (t2:Bool) (t3:Bool) (a:Zm) (r3:((List Int)×(List Zr)×(List Zj)×(List (Int×Int))×(List (Int×Int))×(List (Zk×Int)))):(List Zr)→Ex×List V×Zq
  | r=>(.exit 2,[(.ptr 0 0),(.ptr 1 0),(.ptr 2 0)],[(.cells (dV t0 t1 t2 t3 a)),(.cells [(.sl 3 1),(.sl 4 2),(.sl 5 2)]),(.cells [(.sl 6 1),(.sl 7 2),(.sl 8 2),(.mp 9),(.mp 10),(.mp 11)]),(.arr 1 []),(.arr 2 []),(.arr 2 []),(.arr 1 (List.map Ze r3.1)),(.arr 2 (List.map ZI r)),(.arr 2 (List.map Zcb r3.2.2.1)),(.mp (mpD Ze Ze r3.2.2.2.1)),(.mp (mpD Ze Ze r3.2.2.2.2.1)),(.mp (mpD Zt Ze r3.2.2.2.2.2))])
theorem ZmI {t0:Bool}{t1:Bool}{t2:Bool}{t3:Bool}{a:Zm}{r3:((List Int)×(List Zr)×(List Zj)×(List (Int×Int))×(List (Int×Int))×(List (Zk×Int)))}:∀(s4:Int×(List Zr)) (r:(List Zr)),lp (ZdV a r3) s4=some r→lpW ctx 0 [1,2,5,41,42,43] [1,2,5] ZyR [(.ptr 0 0),(.ptr 1 0),(.ptr 2 0),(.d (D.list t1 (List.map ZI a.edges))),(.d (Ze (a.edges.length:Int))),(.d (Ze s4.1))] [(.cells (dV t0 t1 t2 t3 a)),(.cells [(.sl 3 1),(.sl 4 2),(.sl 5 2)]),(.cells [(.sl 6 1),(.sl 7 2),(.sl 8 2),(.mp 9),(.mp 10),(.mp 11)]),(.arr 1 []),(.arr 2 []),(.arr 2 []),(.arr 1 (List.map Ze r3.1)),(.arr 2 (List.map ZI s4.2)),(.arr 2 (List.map Zcb r3.2.2.1)),(.mp (mpD Ze Ze r3.2.2.2.1)),(.mp (mpD Ze Ze r3.2.2.2.2.1)),(.mp (mpD Zt Ze r3.2.2.2.2.2))]=some ((ZjF t0 t1 t2 t3 a r3) r):=by
 refine ZaX (ZjF t0 t1 t2 t3 a r3) ?_
 intro s4 rcl ih
 show ZS _ _ (lpW _ _ _ _ _ _ _)
 unfold ZdV
 rw[ZaY]
 conv=>arg 3;whnf
 refine Zg rfl ?_ ?_<;>conv=>arg 3;whnf
 ·refine Zi rfl rfl fun x5 hx5=>?_;conv=>arg 3;whnf
  refine Zf (Zco (f:=Ze) (g:=Ze) (fun ka kb:Int=>(ka==kb)) (fun _ _=>rfl) r3.2.2.2.2.1 x5.src 0) ?_;conv=>arg 3;whnf
  refine Zf (Zco (f:=Ze) (g:=Ze) (fun ka kb:Int=>(ka==kb)) (fun _ _=>rfl) r3.2.2.2.1 x5.dst 0) ?_;conv=>arg 3;whnf
  refine Zc _ Zbf fun x6 hx6=>?_;conv=>arg 3;whnf
  exact Zd (ih _)
 ·exact Zh rfl
def ZjQ (t0:Bool) (t1:Bool) (t2:Bool) (t3:Bool) (a:Zm) (r3:((List Int)×(List Zr)×(List Zj)×(List (Int×Int))×(List (Int×Int))×(List (Zk×Int)))):(List Zr)→Ex×List V×Zq
  | r=>(.exit 4,[(.ptr 0 0),(.ptr 1 0),(.ptr 2 0)],[(.cells (dV t0 t1 t2 t3 a)),(.cells [(.sl 3 1),(.sl 4 2),(.sl 5 2)]),(.cells [(.sl 6 1),(.sl 7 2),(.sl 8 2),(.mp 9),(.mp 10),(.mp 11)]),(.arr 1 []),(.arr 2 []),(.arr 2 []),(.arr 1 (List.map Ze r3.1)),(.arr 2 (List.map ZI r)),(.arr 2 (List.map Zcb r3.2.2.1)),(.mp (mpD Ze Ze r3.2.2.2.1)),(.mp (mpD Ze Ze r3.2.2.2.2.1)),(.mp (mpD Zt Ze r3.2.2.2.2.2))])
theorem ZmF {t0:Bool}{t1:Bool}{t2:Bool}{t3:Bool}{a:Zm}{r3:((List Int)×(List Zr)×(List Zj)×(List (Int×Int))×(List (Int×Int))×(List (Zk×Int)))}:∀(s8:Int×(List Zr)) (r:(List Zr)),lp (Zd0 a r3) s8=some r→lpW ctx 0 [1,2,5,65,66,67] [1,2,5] ZyK [(.ptr 0 0),(.ptr 1 0),(.ptr 2 0),(.d (D.list t2 (List.map Zt a.futures))),(.d (Ze (a.futures.length:Int))),(.d (Ze s8.1))] [(.cells (dV t0 t1 t2 t3 a)),(.cells [(.sl 3 1),(.sl 4 2),(.sl 5 2)]),(.cells [(.sl 6 1),(.sl 7 2),(.sl 8 2),(.mp 9),(.mp 10),(.mp 11)]),(.arr 1 []),(.arr 2 []),(.arr 2 []),(.arr 1 (List.map Ze r3.1)),(.arr 2 (List.map ZI s8.2)),(.arr 2 (List.map Zcb r3.2.2.1)),(.mp (mpD Ze Ze r3.2.2.2.1)),(.mp (mpD Ze Ze r3.2.2.2.2.1)),(.mp (mpD Zt Ze r3.2.2.2.2.2))]=some ((ZjQ t0 t1 t2 t3 a r3) r):=by
 refine ZaX (ZjQ t0 t1 t2 t3 a r3) ?_
 intro s8 rcl ih
 show ZS _ _ (lpW _ _ _ _ _ _ _)
 unfold Zd0
 rw[ZaY]
 conv=>arg 3;whnf
 refine Zg rfl ?_ ?_<;>conv=>arg 3;whnf
 ·refine Zi rfl rfl fun x9 hx9=>?_;conv=>arg 3;whnf
  refine Zf (Zco (f:=Ze) (g:=Ze) (fun ka kb:Int=>(ka==kb)) (fun _ _=>rfl) r3.2.2.2.2.1 x9.maker 0) ?_;conv=>arg 3;whnf
  refine Zf (Zco (f:=Zt) (g:=Ze) (fun ka kb:Zk=>((ka.maker==kb.maker)&&((ka.user==kb.user)&&((ka.pos==kb.pos)&&true)))) (fun _ _=>rfl) r3.2.2.2.2.2 x9 0) ?_;conv=>arg 3;whnf
  refine Zc _ Zbf fun x10 hx10=>?_;conv=>arg 3;whnf
  exact Zd (ih _)
 ·exact Zh rfl
def ZjR (t3:Bool) (a:Zm) (r3:((List Int)×(List Zr)×(List Zj)×(List (Int×Int))×(List (Int×Int))×(List (Zk×Int)))) (s12:Int×(List Int)×(List Zr)×(List Zj)) (x13:Zv):(List Zr)→Ex×List V×Zq
  | r=>(.exit 8,[(.ptr 0 0),(.ptr 1 0),(.ptr 2 0),(.d (Ze (w64 ((List.length (s12.2.2.2++[(Zj.mk (-1) s12.1)]):Int)-1)))),(.d (D.list t3 (List.map ZB a.barriers))),(.d (Ze (a.barriers.length:Int))),(.d (Ze s12.1))],[(.cells [(.sl 3 1),(.sl 4 2),(.sl 5 2)]),(.cells [(.sl 6 1),(.sl 7 2),(.sl 8 2),(.mp 9),(.mp 10),(.mp 11)]),(.cells [(.d (D.list true (List.map Ze x13.ins))),(.d (D.list true (List.map Ze x13.outs)))]),(.arr 1 []),(.arr 2 []),(.arr 2 []),(.arr 1 (List.map Ze (s12.2.1++[1]))),(.arr 2 (List.map ZI r)),(.arr 2 (List.map Zcb (s12.2.2.2++[(Zj.mk (-1) s12.1)]))),(.mp (mpD Ze Ze r3.2.2.2.1)),(.mp (mpD Ze Ze r3.2.2.2.2.1)),(.mp (mpD Zt Ze r3.2.2.2.2.2))])
theorem ZmG {t3:Bool}{a:Zm}{r3:((List Int)×(List Zr)×(List Zj)×(List (Int×Int))×(List (Int×Int))×(List (Zk×Int)))}{s12:Int×(List Int)×(List Zr)×(List Zj)}{x13:Zv}:∀(s15:Int×(List Zr)) (r:(List Zr)),lp (ZeW r3 s12 x13) s15=some r→lpW ctx 0 [2,5,12,13,88,89,90,100,101,102] [2,5,12,13,88,89,90] Zze [(.ptr 0 0),(.ptr 1 0),(.ptr 2 0),(.d (Ze (w64 ((List.length (s12.2.2.2++[(Zj.mk (-1) s12.1)]):Int)-1)))),(.d (D.list t3 (List.map ZB a.barriers))),(.d (Ze (a.barriers.length:Int))),(.d (Ze s12.1)),(.d (D.list true (List.map Ze x13.ins))),(.d (Ze (x13.ins.length:Int))),(.d (Ze s15.1))] [(.cells [(.sl 3 1),(.sl 4 2),(.sl 5 2)]),(.cells [(.sl 6 1),(.sl 7 2),(.sl 8 2),(.mp 9),(.mp 10),(.mp 11)]),(.cells [(.d (D.list true (List.map Ze x13.ins))),(.d (D.list true (List.map Ze x13.outs)))]),(.arr 1 []),(.arr 2 []),(.arr 2 []),(.arr 1 (List.map Ze (s12.2.1++[1]))),(.arr 2 (List.map ZI s15.2)),(.arr 2 (List.map Zcb (s12.2.2.2++[(Zj.mk (-1) s12.1)]))),(.mp (mpD Ze Ze r3.2.2.2.1)),(.mp (mpD Ze Ze r3.2.2.2.2.1)),(.mp (mpD Zt Ze r3.2.2.2.2.2))]=some ((ZjR t3 a r3 s12 x13) r):=by
 refine ZaX (ZjR t3 a r3 s12 x13) ?_
 intro s15 rcl ih
 show ZS _ _ (lpW _ _ _ _ _ _ _)
 unfold ZeW
 rw[ZaY]
 conv=>arg 3;whnf
 refine Zg rfl ?_ ?_<;>conv=>arg 3;whnf
 ·refine Zi rfl rfl fun x16 hx16=>?_;conv=>arg 3;whnf
  refine Zf (Zco (f:=Ze) (g:=Ze) (fun ka kb:Int=>(ka==kb)) (fun _ _=>rfl) r3.2.2.2.2.1 x16 0) ?_;conv=>arg 3;whnf
  refine Zc _ Zbf fun x17 hx17=>?_;conv=>arg 3;whnf
  exact Zd (ih _)
 ·exact Zh rfl
def ZjO (t3:Bool) (a:Zm) (r3:((List Int)×(List Zr)×(List Zj)×(List (Int×Int))×(List (Int×Int))×(List (Zk×Int)))) (s12:Int×(List Int)×(List Zr)×(List Zj)) (x13:Zv):(List Zr)→Ex×List V×Zq
  | r=>(.exit 10,[(.ptr 0 0),(.ptr 1 0),(.d (D.list t3 (List.map ZB a.barriers))),(.d (Ze (a.barriers.length:Int))),(.d (Ze s12.1))],[(.cells [(.sl 2 1),(.sl 3 2),(.sl 4 2)]),(.cells [(.sl 5 1),(.sl 6 2),(.sl 7 2),(.mp 8),(.mp 9),(.mp 10)]),(.arr 1 []),(.arr 2 []),(.arr 2 []),(.arr 1 (List.map Ze (s12.2.1++[1]))),(.arr 2 (List.map ZI r)),(.arr 2 (List.map Zcb (s12.2.2.2++[(Zj.mk (-1) s12.1)]))),(.mp (mpD Ze Ze r3.2.2.2.1)),(.mp (mpD Ze Ze r3.2.2.2.2.1)),(.mp (mpD Zt Ze r3.2.2.2.2.2))])
theorem ZmL {t3:Bool}{a:Zm}{r3:((List Int)×(List Zr)×(List Zj)×(List (Int×Int))×(List (Int×Int))×(List (Zk×Int)))}{s12:Int×(List Int)×(List Zr)×(List Zj)}{x13:Zv}:∀(s19:Int×(List Zr)) (r:(List Zr)),lp (ZeX r3 s12 x13) s19=some r→lpW ctx 0 [2,5,13,88,89,90,117,118,119] [2,5,88,89,90] ZzE [(.ptr 0 0),(.ptr 1 0),(.d (Ze (w64 ((List.length (s12.2.2.2++[(Zj.mk (-1) s12.1)]):Int)-1)))),(.d (D.list t3 (List.map ZB a.barriers))),(.d (Ze (a.barriers.length:Int))),(.d (Ze s12.1)),(.d (D.list true (List.map Ze x13.outs))),(.d (Ze (x13.outs.length:Int))),(.d (Ze s19.1))] [(.cells [(.sl 2 1),(.sl 3 2),(.sl 4 2)]),(.cells [(.sl 5 1),(.sl 6 2),(.sl 7 2),(.mp 8),(.mp 9),(.mp 10)]),(.arr 1 []),(.arr 2 []),(.arr 2 []),(.arr 1 (List.map Ze (s12.2.1++[1]))),(.arr 2 (List.map ZI s19.2)),(.arr 2 (List.map Zcb (s12.2.2.2++[(Zj.mk (-1) s12.1)]))),(.mp (mpD Ze Ze r3.2.2.2.1)),(.mp (mpD Ze Ze r3.2.2.2.2.1)),(.mp (mpD Zt Ze r3.2.2.2.2.2))]=some ((ZjO t3 a r3 s12 x13) r):=by
 refine ZaX (ZjO t3 a r3 s12 x13) ?_
 intro s19 rcl ih
 show ZS _ _ (lpW _ _ _ _ _ _ _)
 unfold ZeX
 rw[ZaY]
 conv=>arg 3;whnf
 refine Zg rfl ?_ ?_<;>conv=>arg 3;whnf
 ·refine Zi rfl rfl fun x20 hx20=>?_;conv=>arg 3;whnf
  refine Zf (Zco (f:=Ze) (g:=Ze) (fun ka kb:Int=>(ka==kb)) (fun _ _=>rfl) r3.2.2.2.1 x20 0) ?_;conv=>arg 3;whnf
  refine Zc _ Zbf fun x21 hx21=>?_;conv=>arg 3;whnf
  exact Zd (ih _)
 ·exact Zh rfl
def ZjL (t3:Bool) (a:Zm) (r3:((List Int)×(List Zr)×(List Zj)×(List (Int×Int))×(List (Int×Int))×(List (Zk×Int)))):((List Int)×(List Zr)×(List Zj))→Ex×List V×Zq
  | r=>(.exit 6,[(.ptr 0 0),(.ptr 1 0)],[(.cells [(.sl 2 1),(.sl 3 2),(.sl 4 2)]),(.cells [(.sl 5 1),(.sl 6 2),(.sl 7 2),(.mp 8),(.mp 9),(.mp 10)]),(.arr 1 []),(.arr 2 []),(.arr 2 []),(.arr 1 (List.map Ze r.1)),(.arr 2 (List.map ZI r.2.1)),(.arr 2 (List.map Zcb r.2.2)),(.mp (mpD Ze Ze r3.2.2.2.1)),(.mp (mpD Ze Ze r3.2.2.2.2.1)),(.mp (mpD Zt Ze r3.2.2.2.2.2))])
theorem ZmM {t3:Bool}{a:Zm}{r3:((List Int)×(List Zr)×(List Zj)×(List (Int×Int))×(List (Int×Int))×(List (Zk×Int)))}:∀(s12:Int×(List Int)×(List Zr)×(List Zj)) (r:((List Int)×(List Zr)×(List Zj))),lp (ZdZ a r3) s12=some r→lpW ctx 0 [2,5,88,89,90] [2,5] Zzt [(.ptr 0 0),(.ptr 1 0),(.d (D.list t3 (List.map ZB a.barriers))),(.d (Ze (a.barriers.length:Int))),(.d (Ze s12.1))] [(.cells [(.sl 2 1),(.sl 3 2),(.sl 4 2)]),(.cells [(.sl 5 1),(.sl 6 2),(.sl 7 2),(.mp 8),(.mp 9),(.mp 10)]),(.arr 1 []),(.arr 2 []),(.arr 2 []),(.arr 1 (List.map Ze s12.2.1)),(.arr 2 (List.map ZI s12.2.2.1)),(.arr 2 (List.map Zcb s12.2.2.2)),(.mp (mpD Ze Ze r3.2.2.2.1)),(.mp (mpD Ze Ze r3.2.2.2.2.1)),(.mp (mpD Zt Ze r3.2.2.2.2.2))]=some ((ZjL t3 a r3) r):=by
 refine ZaX (ZjL t3 a r3) ?_
 intro s12 rcl ih
 show ZS _ _ (lpW _ _ _ _ _ _ _)
 unfold ZdZ
 rw[ZaY]
 conv=>arg 3;whnf
 refine Zg rfl ?_ ?_<;>conv=>arg 3;whnf
 ·refine Zi rfl rfl fun x13 hx13=>?_;conv=>arg 3;whnf
  refine Zc _ Zbu fun x14 hx14=>?_;conv=>arg 3;whnf
  refine Zn (Z3 _ _) ?_;conv=>arg 3;whnf
  refine Zc _ (ZmG _) fun r18 hr18=>?_;conv=>arg 3;whnf
  refine Zn (Z3 _ _) ?_;conv=>arg 3;whnf
  refine Zc _ (ZmL _) fun r22 hr22=>?_;conv=>arg 3;whnf
  exact Zd (ih _)
 ·exact Zh rfl
theorem Zix {t0:Bool}{t1:Bool}{t2:Bool}{t3:Bool}{a:Zm}:∀r,(ZfV a)=some r→evD ctx 23 [(.d (D.agg (dA t0 t1 t2 t3 a)))]=some (Zlz r):=by
 show ZS _ (fun r rhs=>rhs=some (Zlz r)) _
 unfold ZfV
 rw[ZbV ctx 23 ZCK _ rfl rfl]
 conv=>arg 3;whnf
 refine Zp _ Zi4 rfl fun x0 hx0=>?_;conv=>arg 3;whnf
 refine Zg rfl ?_ ?_<;>conv=>arg 3;whnf
 ·exact Zh rfl
 ·refine Zn (Z3 _ _) ?_;conv=>arg 3;whnf
  refine Zc _ (ZmK _) fun r3 hr3=>?_;conv=>arg 3;whnf
  refine Zn (Z3 _ _) ?_;conv=>arg 3;whnf
  refine Zc _ (ZmI _) fun r7 hr7=>?_;conv=>arg 3;whnf
  refine Zn (Z3 _ _) ?_;conv=>arg 3;whnf
  refine Zc _ (ZmF _) fun r11 hr11=>?_;conv=>arg 3;whnf
  refine Zn (Z3 _ _) ?_;conv=>arg 3;whnf
  refine Zc _ (ZmM _) fun r23 hr23=>?_;conv=>arg 3;whnf
  refine Zp _ Zmf rfl fun x24 hx24=>?_;conv=>arg 3;whnf
  refine Zg rfl ?_ ?_<;>conv=>arg 3;whnf
  ·exact Zh rfl
  ·exact Zh rfl
def ZnS (r:(ZbB×Int)):D:=(D.tup [(D.agg [(D.list true (List.map D.bool r.1.done)),(D.list true (List.map Ze r.1.vals))]),(Ze r.2)])
theorem Zrp {t0:Bool}{t1:Bool}{t2:Bool}{t3:Bool}{a:Zm}:∀r,(ZjV a)=some r→evD ctx 21 [(.d (D.agg (dA t0 t1 t2 t3 a)))]=some (ZnS r):=by
 show ZS _ (fun r rhs=>rhs=some (ZnS r)) _
 unfold ZjV
 rw[ZbV ctx 21 ZCz _ rfl rfl]
 conv=>arg 3;whnf
 refine Zp _ Zix rfl fun x0 hx0=>?_;conv=>arg 3;whnf
 refine Zg rfl ?_ ?_<;>conv=>arg 3;whnf
 ·exact Zh rfl
 ·refine Zn (Z3 _ _) ?_;conv=>arg 3;whnf
  refine Zg rfl ?_ ?_
  ·conv=>arg 3;whnf
   refine Zn (ZsZ D.bool (false:Bool) (x0.1.pieces.length:Int)) ?_;conv=>arg 3;whnf
   refine Zn (Z3 _ _) ?_;conv=>arg 3;whnf
   refine Zg rfl ?_ ?_
   ·conv=>arg 3;whnf
    refine Zn (ZsZ Ze (0:Int) (a.parts.length:Int)) ?_;conv=>arg 3;whnf
    exact Zh rfl
   ·exact ZaN
  ·exact ZaN
def ZmZ (r:(List Int)):D:=(D.list true (List.map Ze r))
theorem ZlN {t0:Bool}{t1:Bool}{a:Zb5}:∀r,(ZhV a)=some r→evD ctx 39 [(.d (D.agg [(D.list t0 (List.map Ze a.work)),(D.list t1 (List.map ZI a.edges))]))]=some (ZmZ r):=by
 show ZS _ (fun r rhs=>rhs=some (ZmZ r)) _
 unfold ZhV
 rw[ZbV ctx 39 ZBA _ rfl rfl]
 conv=>arg 3;whnf
 refine Zp _ Zmf rfl fun x0 hx0=>?_;conv=>arg 3;whnf
 refine Zg rfl ?_ ?_<;>conv=>arg 3;whnf
 ·exact Zh rfl
 ·refine Zp _ Zl1 rfl fun x1 hx1=>?_;conv=>arg 3;whnf
  refine Zg rfl ?_ ?_<;>conv=>arg 3;whnf
  ·exact Zh rfl
  ·exact Zh rfl
def Zgx (t0:Bool) (a:(List Bool)):Unit→V×Zq
  | r=>((.sl 0 1),[(.arr 1 (List.map D.bool a))])
theorem ZiO {t0:Bool}{a:(List Bool)}:∀r,(ZcO a)=some r→evW ctx 54 [(.d (D.list t0 (List.map D.bool a)))] []=some ((Zgx t0 a) r):=by
 show ZS _ (fun r rhs=>rhs=some ((Zgx t0 a) r)) _
 unfold ZcO
 rw[Zd4 ctx 54 ZB9 _ _ rfl rfl]
 conv=>arg 3;whnf
 refine Zg (Zvt D.bool a) ?_ ?_
 ·conv=>arg 3;whnf
  refine Zbr (Zih (f:=D.bool) (fun _=>⟨rfl,rfl⟩) a 0) ?_;conv=>arg 3;whnf
  refine Zg (Zie D.bool a) ?_ ?_
  ·conv=>arg 3;whnf
   refine Zn (rfl:_=List.map D.bool a) ?_;conv=>arg 3;whnf
   exact Zh rfl
  ·exact ZaN
 ·exact ZaN
def Zg0 (t0:Bool) (a:(List Int)):Unit→V×Zq
  | r=>((.sl 0 1),[(.arr 1 (List.map Ze a))])
theorem Zjl {t0:Bool}{a:(List Int)}:∀r,(Zda a)=some r→evW ctx 55 [(.d (D.list t0 (List.map Ze a)))] []=some ((Zg0 t0 a) r):=by
 show ZS _ (fun r rhs=>rhs=some ((Zg0 t0 a) r)) _
 unfold Zda
 rw[Zd4 ctx 55 ZB1 _ _ rfl rfl]
 conv=>arg 3;whnf
 refine Zg (Zvt Ze a) ?_ ?_
 ·conv=>arg 3;whnf
  refine Zbr (Zih (f:=Ze) (fun _=>⟨rfl,rfl⟩) a 0) ?_;conv=>arg 3;whnf
  refine Zg (Zie Ze a) ?_ ?_
  ·conv=>arg 3;whnf
   refine Zn (rfl:_=List.map Ze a) ?_;conv=>arg 3;whnf
   exact Zh rfl
  ·exact ZaN
 ·exact ZaN
def Zmm (r:Int):D:=(Ze r)
theorem Zi1 {t0:Bool}{t1:Bool}{t2:Bool}{a:ZlR}{b:Int}:∀r,(Zgq a b)=some r→evD ctx 25 [(.d (D.agg [(D.list t0 (List.map Ze a.dag.work)),(D.list t1 (List.map ZI a.dag.edges)),(D.list t2 (List.map Zcb a.pieces))])),(.d (Ze b))]=some (Zmm r):=by
 show ZS _ (fun r rhs=>rhs=some (Zmm r)) _
 unfold Zgq
 rw[ZbV ctx 25 ZEu _ rfl rfl]
 conv=>arg 3;whnf
 refine Zzl (f:=Zcb) (g:=(fun x:Zj=>(x.part,x.step))) (l:=a.pieces) (fun _=>rfl) fun x0 hx0=>?_;conv=>arg 3;whnf
 exact Zh rfl
def Zmo (r:(List Int)):D:=(D.list true (List.map Ze r))
def Zj3 (t0:Bool) (t1:Bool) (t2:Bool) (t3:Bool) (a:Zm) (b:Int):(List Int)→Ex×List V×Zq
  | r=>(.exit 0,[(.d (Ze b)),(.ptr 0 0),(.sl 1 1)],[(.cells (dV t0 t1 t2 t3 a)),(.arr 1 (List.map Ze r))])
theorem Znf {t0:Bool}{t1:Bool}{t2:Bool}{t3:Bool}{a:Zm}{b:Int}:∀(s1:Int×(List Int)) (r:(List Int)),lp (ZhH a b) s1=some r→lpW ctx 0 [1,2,5,14,15,16] [1,2,5] Zx9 [(.d (Ze b)),(.ptr 0 0),(.sl 1 1),(.d (D.list t1 (List.map ZI a.edges))),(.d (Ze (a.edges.length:Int))),(.d (Ze s1.1))] [(.cells (dV t0 t1 t2 t3 a)),(.arr 1 (List.map Ze s1.2))]=some ((Zj3 t0 t1 t2 t3 a b) r):=by
 refine ZaX (Zj3 t0 t1 t2 t3 a b) ?_
 intro s1 rcl ih
 show ZS _ _ (lpW _ _ _ _ _ _ _)
 unfold ZhH
 rw[ZaY]
 conv=>arg 3;whnf
 refine Zg rfl ?_ ?_<;>conv=>arg 3;whnf
 ·refine Zi rfl rfl fun x2 hx2=>?_;conv=>arg 3;whnf
  refine Zg rfl ?_ ?_<;>conv=>arg 3;whnf
  ·refine Zbr rfl ?_;conv=>arg 3;whnf
   refine Zg (Zic Ze s1.2 1) ?_ ?_
   ·conv=>arg 3;whnf
    refine Zn (Zh8 Ze s1.2 [x2.src]) ?_;conv=>arg 3;whnf
    exact Zd (ih _)
   ·exact ZaN
  ·exact Zd (ih _)
 ·exact Zh rfl
def Zke (t0:Bool) (t1:Bool) (t2:Bool) (t3:Bool) (a:Zm) (x4:(List Int)):(List Int)→Ex×List V×Zq
  | r=>(.exit 2,[(.sl 0 1)],[(.arr 1 (List.map Ze r))])
theorem Znb {t0:Bool}{t1:Bool}{t2:Bool}{t3:Bool}{a:Zm}{x4:(List Int)}:∀(s5:Int×(List Int)) (r:(List Int)),lp (ZhI a x4) s5=some r→lpW ctx 0 [2,5,32,33,34] [5] ZxR [(.ptr 0 0),(.sl 1 1),(.d (D.list true (List.map Ze x4))),(.d (Ze (x4.length:Int))),(.d (Ze s5.1))] [(.cells (dV t0 t1 t2 t3 a)),(.arr 1 (List.map Ze s5.2))]=some ((Zke t0 t1 t2 t3 a x4) r):=by
 refine ZaX (Zke t0 t1 t2 t3 a x4) ?_
 intro s5 rcl ih
 show ZS _ _ (lpW _ _ _ _ _ _ _)
 unfold ZhI
 rw[ZaY]
 conv=>arg 3;whnf
 refine Zg rfl ?_ ?_<;>conv=>arg 3;whnf
 ·refine Zi rfl rfl fun x6 hx6=>?_;conv=>arg 3;whnf
  refine Zi rfl rfl fun x7 hx7=>?_;conv=>arg 3;whnf
  refine Zbr rfl ?_;conv=>arg 3;whnf
  refine Zg (Zic Ze s5.2 1) ?_ ?_
  ·conv=>arg 3;whnf
   refine Zn (Zh8 Ze s5.2 [x7.maker]) ?_;conv=>arg 3;whnf
   exact Zd (ih _)
  ·exact ZaN
 ·exact Zh rfl
theorem Zpv {t0:Bool}{t1:Bool}{t2:Bool}{t3:Bool}{a:Zm}{b:Int}:∀r,(Zhh a b)=some r→evD ctx 56 [(.d (D.agg (dA t0 t1 t2 t3 a))),(.d (Ze b))]=some (Zmo r):=by
 show ZS _ (fun r rhs=>rhs=some (Zmo r)) _
 unfold Zhh
 rw[ZbV ctx 56 ZCg _ rfl rfl]
 conv=>arg 3;whnf
 refine Zp _ Zi4 rfl fun x0 hx0=>?_;conv=>arg 3;whnf
 refine Zg rfl ?_ ?_<;>conv=>arg 3;whnf
 ·exact Zh rfl
 ·refine Zn (Z3 _ _) ?_;conv=>arg 3;whnf
  refine Zc _ (Znf _) fun r3 hr3=>?_;conv=>arg 3;whnf
  refine Zp _ Zj8 rfl fun x4 hx4=>?_;conv=>arg 3;whnf
  refine Zn (Z3 _ _) ?_;conv=>arg 3;whnf
  refine Zc _ (Znb _) fun r8 hr8=>?_;conv=>arg 3;whnf
  exact Zh rfl
def Zl4 (r:Int):D:=(D.int .u32 r)
theorem Zfx {a:Int}:∀r,(Zd7 a)=some r→evD ctx 49 [(.d (Ze a))]=some (Zl4 r):=by
 show ZS _ (fun r rhs=>rhs=some (Zl4 r)) _
 unfold Zd7
 rw[ZbV ctx 49 ZCP _ rfl rfl]
 conv=>arg 3;whnf
 exact Zh rfl
def Zm6:Unit→D
  | r=>(D.agg [(D.int .u32 0),(D.fn 85 []),(D.int .u32 1),(D.fn 86 []),(D.int .u32 0),(D.fn 87 []),(D.int .u32 7),(D.fn 88 [])])
theorem ZqJ:∀r,ZjX=some r→evD ctx 50 []=some (Zm6 r):=by
 show ZS _ (fun r rhs=>rhs=some (Zm6 r)) _
 unfold ZjX
 rw[ZbV ctx 50 ZCQ _ rfl rfl]
 conv=>arg 3;whnf
 exact Zh rfl
def ZlC (r:Int):D:=(D.int .u32 r)
theorem ZoB {a:Int}{b:Int}:∀r,(Zhv a b)=some r→evD ctx 85 [(.d (D.int .u32 a)),(.d (D.int .u32 b))]=some (ZlC r):=by
 show ZS _ (fun r rhs=>rhs=some (ZlC r)) _
 unfold Zhv
 rw[ZbV ctx 85 ZBL _ rfl rfl]
 conv=>arg 3;whnf
 exact Zh rfl
def ZlD (r:Int):D:=(D.int .u32 r)
theorem ZoR {a:Int}{b:Int}:∀r,(ZhC a b)=some r→evD ctx 86 [(.d (D.int .u32 a)),(.d (D.int .u32 b))]=some (ZlD r):=by
 show ZS _ (fun r rhs=>rhs=some (ZlD r)) _
 unfold ZhC
 rw[ZbV ctx 86 ZCr _ rfl rfl]
 conv=>arg 3;whnf
 exact Zh rfl
def ZlJ (r:Int):D:=(D.int .u32 r)
theorem ZoT {a:Int}{b:Int}:∀r,(ZhB a b)=some r→evD ctx 87 [(.d (D.int .u32 a)),(.d (D.int .u32 b))]=some (ZlJ r):=by
 show ZS _ (fun r rhs=>rhs=some (ZlJ r)) _
 unfold ZhB
 rw[ZbV ctx 87 ZCn _ rfl rfl]
 conv=>arg 3;whnf
 exact Zh rfl
def ZlB (r:Int):D:=(D.int .u32 r)
theorem ZoX {a:Int}{b:Int}:∀r,(ZhG a b)=some r→evD ctx 88 [(.d (D.int .u32 a)),(.d (D.int .u32 b))]=some (ZlB r):=by
 show ZS _ (fun r rhs=>rhs=some (ZlB r)) _
 unfold ZhG
 rw[ZbV ctx 88 ZCl _ rfl rfl]
 conv=>arg 3;whnf
 exact Zh rfl
def Zo6 (r:Int):D:=(Ze r)
def Zmb (t0:Bool) (a:Zaa) (b:(List Int)):(List (Int×Int))→Ex×List V×Zq
  | r=>(.exit 1,[(.ptr 0 0),(.mp 1)],[(.cells [(.d (Ze a.op)),(.d (Ze a.arg)),(.d (Ze a.work))]),(.mp (mpD Ze Ze r))])
theorem ZpD {t0:Bool}{a:Zaa}{b:(List Int)}:∀(s0:Int×(List (Int×Int))) (r:(List (Int×Int))),lp (Zgm b) s0=some r→lpW ctx 0 [3,7,19,20,21] [3,7] Zyg [(.ptr 0 0),(.mp 1),(.d (D.list t0 (List.map Ze b))),(.d (Ze (b.length:Int))),(.d (Ze s0.1))] [(.cells [(.d (Ze a.op)),(.d (Ze a.arg)),(.d (Ze a.work))]),(.mp (mpD Ze Ze s0.2))]=some ((Zmb t0 a b) r):=by
 refine ZaX (Zmb t0 a b) ?_
 intro s0 rcl ih
 show ZS _ _ (lpW _ _ _ _ _ _ _)
 unfold Zgm
 rw[ZaY]
 conv=>arg 3;whnf
 refine Zg rfl ?_ ?_<;>conv=>arg 3;whnf
 ·refine Zi rfl rfl fun x1 hx1=>?_;conv=>arg 3;whnf
  refine Zf (ZeF (f:=Ze) (g:=Ze) (fun ka kb:Int=>(ka==kb)) (fun _ _=>rfl) s0.2 s0.1 x1) ?_;conv=>arg 3;whnf
  exact Zd (ih _)
 ·exact Zh rfl
def Zl5 (t1:Bool) (c:(List Int)):Int→Ex×List V×Zq
  | r=>(.exit 3,[(.d (D.int .u32 r))],[])
theorem Zpt {t1:Bool}{c:(List Int)}:∀(s6:Int×Int) (r:Int),lp (Zgo c) s6=some r→lpW ctx 0 [10,11,60,61,62] [11] ZqD [(.ptr 0 0),(.d (D.int .u32 s6.1)),(.d (D.list t1 (List.map Ze c))),(.d (Ze (c.length:Int))),(.d (Ze s6.2))] [(.cells [(.d (D.int .u32 0)),(.d (D.fn 85 []))])]=some ((Zl5 t1 c) r):=by
 refine ZaX (Zl5 t1 c) ?_
 intro s6 rcl ih
 show ZS _ _ (lpW _ _ _ _ _ _ _)
 unfold Zgo
 rw[ZaY]
 conv=>arg 3;whnf
 refine Zg rfl ?_ ?_<;>conv=>arg 3;whnf
 ·refine Zi rfl rfl fun x7 hx7=>?_;conv=>arg 3;whnf
  refine Zp _ Zfx rfl fun x8 hx8=>?_;conv=>arg 3;whnf
  refine Zp _ ZoB rfl fun x9 hx9=>?_;conv=>arg 3;whnf
  exact Zd (ih _)
 ·exact Zh rfl
def ZkM (t1:Bool) (c:(List Int)):Int→Ex×List V×Zq
  | r=>(.exit 3,[(.d (D.int .u32 r))],[])
theorem Zoi {t1:Bool}{c:(List Int)}:∀(s11:Int×Int) (r:Int),lp (Zfh c) s11=some r→lpW ctx 0 [10,11,60,61,62] [11] ZqD [(.ptr 0 0),(.d (D.int .u32 s11.1)),(.d (D.list t1 (List.map Ze c))),(.d (Ze (c.length:Int))),(.d (Ze s11.2))] [(.cells [(.d (D.int .u32 1)),(.d (D.fn 86 []))])]=some ((ZkM t1 c) r):=by
 refine ZaX (ZkM t1 c) ?_
 intro s11 rcl ih
 show ZS _ _ (lpW _ _ _ _ _ _ _)
 unfold Zfh
 rw[ZaY]
 conv=>arg 3;whnf
 refine Zg rfl ?_ ?_<;>conv=>arg 3;whnf
 ·refine Zi rfl rfl fun x12 hx12=>?_;conv=>arg 3;whnf
  refine Zp _ Zfx rfl fun x13 hx13=>?_;conv=>arg 3;whnf
  refine Zp _ ZoR rfl fun x14 hx14=>?_;conv=>arg 3;whnf
  exact Zd (ih _)
 ·exact Zh rfl
def ZkN (t1:Bool) (c:(List Int)):Int→Ex×List V×Zq
  | r=>(.exit 3,[(.d (D.int .u32 r))],[])
theorem ZnV {t1:Bool}{c:(List Int)}:∀(s16:Int×Int) (r:Int),lp (Zfj c) s16=some r→lpW ctx 0 [10,11,60,61,62] [11] ZqD [(.ptr 0 0),(.d (D.int .u32 s16.1)),(.d (D.list t1 (List.map Ze c))),(.d (Ze (c.length:Int))),(.d (Ze s16.2))] [(.cells [(.d (D.int .u32 0)),(.d (D.fn 87 []))])]=some ((ZkN t1 c) r):=by
 refine ZaX (ZkN t1 c) ?_
 intro s16 rcl ih
 show ZS _ _ (lpW _ _ _ _ _ _ _)
 unfold Zfj
 rw[ZaY]
 conv=>arg 3;whnf
 refine Zg rfl ?_ ?_<;>conv=>arg 3;whnf
 ·refine Zi rfl rfl fun x17 hx17=>?_;conv=>arg 3;whnf
  refine Zp _ Zfx rfl fun x18 hx18=>?_;conv=>arg 3;whnf
  refine Zp _ ZoT rfl fun x19 hx19=>?_;conv=>arg 3;whnf
  exact Zd (ih _)
 ·exact Zh rfl
def ZkJ (t1:Bool) (c:(List Int)):Int→Ex×List V×Zq
  | r=>(.exit 3,[(.d (D.int .u32 r))],[])
theorem ZnU {t1:Bool}{c:(List Int)}:∀(s21:Int×Int) (r:Int),lp (Ze4 c) s21=some r→lpW ctx 0 [10,11,60,61,62] [11] ZqD [(.ptr 0 0),(.d (D.int .u32 s21.1)),(.d (D.list t1 (List.map Ze c))),(.d (Ze (c.length:Int))),(.d (Ze s21.2))] [(.cells [(.d (D.int .u32 7)),(.d (D.fn 88 []))])]=some ((ZkJ t1 c) r):=by
 refine ZaX (ZkJ t1 c) ?_
 intro s21 rcl ih
 show ZS _ _ (lpW _ _ _ _ _ _ _)
 unfold Ze4
 rw[ZaY]
 conv=>arg 3;whnf
 refine Zg rfl ?_ ?_<;>conv=>arg 3;whnf
 ·refine Zi rfl rfl fun x22 hx22=>?_;conv=>arg 3;whnf
  refine Zp _ Zfx rfl fun x23 hx23=>?_;conv=>arg 3;whnf
  refine Zp _ ZoX rfl fun x24 hx24=>?_;conv=>arg 3;whnf
  exact Zd (ih _)
 ·exact Zh rfl
theorem Zte {t0:Bool}{t1:Bool}{a:Zaa}{b:(List Int)}{c:(List Int)}:∀r,(ZkR a b c)=some r→evD ctx 26 [(.d (D.agg [(Ze a.op),(Ze a.arg),(Ze a.work)])),(.d (D.list t0 (List.map Ze b))),(.d (D.list t1 (List.map Ze c)))]=some (Zo6 r):=by
 show ZS _ (fun r rhs=>rhs=some (Zo6 r)) _
 unfold ZkR
 rw[ZbV ctx 26 ZBJ _ rfl rfl]
 conv=>arg 3;whnf
 refine Zg rfl ?_ ?_<;>conv=>arg 3;whnf
 ·refine Zn (Z3 _ _) ?_;conv=>arg 3;whnf
  refine Zc _ (ZpD _) fun r2 hr2=>?_;conv=>arg 3;whnf
  refine Zf (Zco (f:=Ze) (g:=Ze) (fun ka kb:Int=>(ka==kb)) (fun _ _=>rfl) r2 a.arg 0) ?_;conv=>arg 3;whnf
  refine Zp _ Zfx rfl fun x3 hx3=>?_;conv=>arg 3;whnf
  exact Zh rfl
 ·refine Zg rfl ?_ ?_<;>conv=>arg 3;whnf
  ·refine Zp _ Zfx rfl fun x4 hx4=>?_;conv=>arg 3;whnf
   exact Zh rfl
  ·refine Zg rfl ?_ ?_<;>conv=>arg 3;whnf
   ·exact Zh rfl
   ·refine Zg rfl ?_ ?_<;>conv=>arg 3;whnf
    ·exact Zh rfl
    ·refine Zp _ ZqJ rfl fun x5 hx5=>?_;conv=>arg 3;whnf
     refine Zg rfl ?_ ?_
     ·conv=>arg 3;whnf
      refine ZuU rfl ?_ ?_ ?_ ?_<;>conv=>arg 3;whnf
      ·refine Zf rfl ?_;conv=>arg 3;whnf
       refine Zn (Z3 _ _) ?_;conv=>arg 3;whnf
       refine Zc _ (Zpt _) fun r10 hr10=>?_;conv=>arg 3;whnf
       exact Zh rfl
      ·refine Zf rfl ?_;conv=>arg 3;whnf
       refine Zn (Z3 _ _) ?_;conv=>arg 3;whnf
       refine Zc _ (Zoi _) fun r15 hr15=>?_;conv=>arg 3;whnf
       exact Zh rfl
      ·conv=>arg 3;whnf
       refine Zf rfl ?_;conv=>arg 3;whnf
       refine Zn (Z3 _ _) ?_;conv=>arg 3;whnf
       refine Zc _ (ZnV _) fun r20 hr20=>?_;conv=>arg 3;whnf
       exact Zh rfl
      ·conv=>arg 3;whnf
       refine Zf rfl ?_;conv=>arg 3;whnf
       refine Zn (Z3 _ _) ?_;conv=>arg 3;whnf
       refine Zc _ (ZnU _) fun r25 hr25=>?_;conv=>arg 3;whnf
       exact Zh rfl
     ·exact ZaN
def ZlK (r:ZbB):D:=(D.agg [(D.list true (List.map D.bool r.done)),(D.list true (List.map Ze r.vals))])
def ZjT (t0:Bool) (t1:Bool) (t2:Bool) (t3:Bool) (t7:Bool) (a:Zm) (c:(List Int)) (d:ZbB) (e:Int) (x3:Zj) (x5:(List Int)):(List Int)→Ex×List V×Zq
  | r=>(.exit 0,[(.d (D.list t7 (List.map Ze c))),(.ptr 0 0),(.ptr 1 0),(.ptr 2 0),(.d (Ze x3.part)),(.sl 3 1)],[(.cells (dV t0 t1 t2 t3 a)),(.cells [(.sl 4 1),(.sl 5 1)]),(.cells [(.sl 6 1),(.sl 7 1)]),(.arr 1 (List.map Ze r)),(.arr 1 (List.map D.bool (List.set d.done e.toNat true))),(.arr 1 (List.map Ze d.vals)),(.arr 1 []),(.arr 1 [])])
theorem ZmH {t0:Bool}{t1:Bool}{t2:Bool}{t3:Bool}{t7:Bool}{a:Zm}{c:(List Int)}{d:ZbB}{e:Int}{x3:Zj}{x5:(List Int)}:∀(s6:Int×(List Int)) (r:(List Int)),lp (ZeZ d x5) s6=some r→lpW ctx 0 [2,5,8,10,11,12,44,45,46] [2,5,8,10,11,12] Zym [(.d (D.list t7 (List.map Ze c))),(.ptr 0 0),(.ptr 1 0),(.ptr 2 0),(.d (Ze x3.part)),(.sl 3 1),(.d (D.list true (List.map Ze x5))),(.d (Ze (x5.length:Int))),(.d (Ze s6.1))] [(.cells (dV t0 t1 t2 t3 a)),(.cells [(.sl 4 1),(.sl 5 1)]),(.cells [(.sl 6 1),(.sl 7 1)]),(.arr 1 (List.map Ze s6.2)),(.arr 1 (List.map D.bool (List.set d.done e.toNat true))),(.arr 1 (List.map Ze d.vals)),(.arr 1 []),(.arr 1 [])]=some ((ZjT t0 t1 t2 t3 t7 a c d e x3 x5) r):=by
 refine ZaX (ZjT t0 t1 t2 t3 t7 a c d e x3 x5) ?_
 intro s6 rcl ih
 show ZS _ _ (lpW _ _ _ _ _ _ _)
 unfold ZeZ
 rw[ZaY]
 conv=>arg 3;whnf
 refine Zg rfl ?_ ?_<;>conv=>arg 3;whnf
 ·refine Zi rfl rfl fun x7 hx7=>?_;conv=>arg 3;whnf
  refine Zi rfl rfl fun x8 hx8=>?_;conv=>arg 3;whnf
  refine Zf (Zl rfl hx8) ?_;conv=>arg 3;whnf
  refine Zbr rfl ?_;conv=>arg 3;whnf
  refine Zg (Zic Ze s6.2 1) ?_ ?_
  ·conv=>arg 3;whnf
   refine Zn (Zh8 Ze s6.2 [x8]) ?_;conv=>arg 3;whnf
   exact Zd (ih _)
  ·exact ZaN
 ·exact Zh rfl
theorem ZoY {t0:Bool}{t1:Bool}{t2:Bool}{t3:Bool}{t4:Bool}{t5:Bool}{t6:Bool}{t7:Bool}{t8:Bool}{t9:Bool}{a:Zm}{b:ZlR}{c:(List Int)}{d:ZbB}{e:Int}:∀r,(ZhA a b c d e)=some r→evD ctx 30 [(.d (D.agg (dA t0 t1 t2 t3 a))),(.d (D.agg [(D.list t4 (List.map Ze b.dag.work)),(D.list t5 (List.map ZI b.dag.edges)),(D.list t6 (List.map Zcb b.pieces))])),(.d (D.list t7 (List.map Ze c))),(.d (D.agg [(D.list t8 (List.map D.bool d.done)),(D.list t9 (List.map Ze d.vals))])),(.d (Ze e))]=some (ZlK r):=by
 show ZS _ (fun r rhs=>rhs=some (ZlK r)) _
 unfold ZhA
 rw[ZbV ctx 30 ZBR _ rfl rfl]
 conv=>arg 3;whnf
 refine Zc _ ZiO fun x0 hx0=>?_;conv=>arg 3;whnf
 refine Zc _ Zjl fun x1 hx1=>?_;conv=>arg 3;whnf
 refine Zi rfl rfl fun x2 hx2=>?_;conv=>arg 3;whnf
 refine Zf (Zl rfl hx2) ?_;conv=>arg 3;whnf
 refine Zn (Z1 D.bool d.done e.toNat true) ?_;conv=>arg 3;whnf
 refine Zi rfl rfl fun x3 hx3=>?_;conv=>arg 3;whnf
 refine Zg rfl ?_ ?_<;>conv=>arg 3;whnf
 ·exact Zh rfl
 ·refine Zp _ Zi1 rfl fun x4 hx4=>?_;conv=>arg 3;whnf
  refine Zg rfl ?_ ?_<;>conv=>arg 3;whnf
  ·exact Zh rfl
  ·refine Zp _ Zpv rfl fun x5 hx5=>?_;conv=>arg 3;whnf
   refine Zn (Z3 _ _) ?_;conv=>arg 3;whnf
   refine Zc _ (ZmH _) fun r9 hr9=>?_;conv=>arg 3;whnf
   refine Zi rfl rfl fun x10 hx10=>?_;conv=>arg 3;whnf
   refine Zp _ Zte rfl fun x11 hx11=>?_;conv=>arg 3;whnf
   refine Zi rfl rfl fun x12 hx12=>?_;conv=>arg 3;whnf
   refine Zf (Zl rfl hx12) ?_;conv=>arg 3;whnf
   refine Zn (Z1 Ze d.vals x3.part.toNat x11) ?_;conv=>arg 3;whnf
   exact Zh rfl
def ZnG (r:((List Int)×Int)):D:=(D.tup [(D.list true (List.map Ze r.1)),(Ze r.2)])
def ZlE (t0:Bool) (t1:Bool) (t2:Bool) (t3:Bool) (t4:Bool) (a:Zm) (b:(List Int)) (x1:(ZlR×Int)) (x2:(List Int)):((List Bool)×(List Int))→Ex×List V×Zq
  | r=>(.exit 0,[(.ptr 0 0)],[(.cells [(.d (D.list true (List.map D.bool r.1))),(.d (D.list true (List.map Ze r.2)))])])
theorem ZoD {t0:Bool}{t1:Bool}{t2:Bool}{t3:Bool}{t4:Bool}{a:Zm}{b:(List Int)}{x1:(ZlR×Int)}{x2:(List Int)}:∀(s3:Int×(List Bool)×(List Int)) (r:((List Bool)×(List Int))),lp (ZfP a b x1 x2) s3=some r→lpW ctx 0 [1,2,6,8,27,28,29] [6] Zzn [(.d (D.list t4 (List.map Ze b))),(.ptr 0 0),(.ptr 1 0),(.ptr 2 0),(.d (D.list true (List.map Ze x2))),(.d (Ze (x2.length:Int))),(.d (Ze s3.1))] [(.cells (dV t0 t1 t2 t3 a)),(.cells [(.d (D.list true (List.map D.bool s3.2.1))),(.d (D.list true (List.map Ze s3.2.2)))]),(.cells [(.d (D.list true (List.map Ze x1.1.dag.work))),(.d (D.list true (List.map ZI x1.1.dag.edges))),(.d (D.list true (List.map Zcb x1.1.pieces)))])]=some ((ZlE t0 t1 t2 t3 t4 a b x1 x2) r):=by
 refine ZaX (ZlE t0 t1 t2 t3 t4 a b x1 x2) ?_
 intro s3 rcl ih
 show ZS _ _ (lpW _ _ _ _ _ _ _)
 unfold ZfP
 rw[ZaY]
 conv=>arg 3;whnf
 refine Zg rfl ?_ ?_<;>conv=>arg 3;whnf
 ·refine Zi rfl rfl fun x4 hx4=>?_;conv=>arg 3;whnf
  refine Zp _ ZoY rfl fun x5 hx5=>?_;conv=>arg 3;whnf
  exact Zd (ih _)
 ·exact Zh rfl
theorem ZmU {t0:Bool}{t1:Bool}{t2:Bool}{t3:Bool}{t4:Bool}{a:Zm}{b:(List Int)}:∀r,(Zgr a b)=some r→evD ctx 19 [(.d (D.agg (dA t0 t1 t2 t3 a))),(.d (D.list t4 (List.map Ze b)))]=some (ZnG r):=by
 show ZS _ (fun r rhs=>rhs=some (ZnG r)) _
 unfold Zgr
 rw[ZbV ctx 19 ZBD _ rfl rfl]
 conv=>arg 3;whnf
 refine Zp _ Zrp rfl fun x0 hx0=>?_;conv=>arg 3;whnf
 refine Zg rfl ?_ ?_<;>conv=>arg 3;whnf
 ·exact Zh rfl
 ·refine Zp _ Zix rfl fun x1 hx1=>?_;conv=>arg 3;whnf
  refine Zp _ ZlN rfl fun x2 hx2=>?_;conv=>arg 3;whnf
  refine Zn (Z3 _ _) ?_;conv=>arg 3;whnf
  refine Zc _ (ZoD _) fun r6 hr6=>?_;conv=>arg 3;whnf
  exact Zh rfl
def ZlF (r:(Int×Bool)):D:=(D.tup [(Ze r.1),(D.bool r.2)])
theorem ZoI {a:Zr}{b0:Int}:∀r,(ZfM a b0)=some r→evD ctx 82 [(.d (D.agg [(Ze a.src),(Ze a.dst)])),(.d (D.rptr [(Ze b0)]))]=some (ZlF r):=by
 show ZS _ (fun r rhs=>rhs=some (ZlF r)) _
 unfold ZfM
 rw[ZbV ctx 82 ZCA _ rfl rfl]
 conv=>arg 3;whnf
 refine Zg rfl ?_ ?_<;>conv=>arg 3;whnf
 ·exact Zh rfl
 ·exact Zh rfl
def Zj2 (r:Bool):D:=(D.bool r)
theorem ZjD {a:Int}:∀r,(Zgu a)=some r→evD ctx 147 [(.d (Ze a))]=some (Zj2 r):=by
 show ZS _ (fun r rhs=>rhs=some (Zj2 r)) _
 unfold Zgu
 rw[ZbV ctx 147 Zyk _ rfl rfl]
 conv=>arg 3;whnf
 refine Zg rfl ?_ ?_<;>conv=>arg 3;whnf
 ·exact Zh rfl
 ·exact Zh rfl
def ZkL (r:Bool):D:=(D.bool r)
theorem Z4 {a:Int}{b:Int}:∀r,(Z9 a b)=some r→evD ctx 136 [(.d (Ze a)),(.d (Ze b))]=some (ZkL r):=by
 show ZS _ (fun r rhs=>rhs=some (ZkL r)) _
 unfold Z9
 rw[ZbV ctx 136 ZyQ _ rfl rfl]
 conv=>arg 3;whnf
 refine Zp _ ZjD rfl fun x0 hx0=>?_;conv=>arg 3;whnf
 refine Zg rfl ?_ ?_<;>conv=>arg 3;whnf
 ·refine Zp _ ZjD rfl fun x1 hx1=>?_;conv=>arg 3;whnf
  refine Zg rfl ?_ ?_<;>conv=>arg 3;whnf
  ·refine Zg rfl ?_ ?_<;>conv=>arg 3;whnf
   ·exact Zh rfl
   ·exact Zh rfl
  ·exact Zh rfl
 ·refine Zg rfl ?_ ?_<;>conv=>arg 3;whnf
  ·exact Zh rfl
  ·exact Zh rfl
def ZeS (b:Int) (c:Int) (m0_0:(List Int)):(List Int)→V×Zq
  | r=>((.d (D.tup [])),[(.arr 1 (List.map Ze r))])
def Zeh (b:Int) (c:Int) (s0:Int×(List Int)):(List Int)→Ex×List V×Zq
  | r=>(.exit 2,[(.sl 0 1),(.d (Ze b)),(.d (Ze c)),(.d (Ze s0.1))],[(.arr 1 (List.map Ze r))])
theorem ZgS {b:Int}{c:Int}{s0:Int×(List Int)}:∀(s1:Int×(List Int)) (r:(List Int)),lp (Zbq b) s1=some r→lpW ctx 1 [0,1,2,6,7] [0,1,2,6] Zvq [(.sl 0 1),(.d (Ze b)),(.d (Ze c)),(.d (Ze s0.1)),(.d (Ze s1.1))] [(.arr 1 (List.map Ze s1.2))]=some ((Zeh b c s0) r):=by
 refine ZaX (Zeh b c s0) ?_
 intro s1 rcl ih
 show ZS _ _ (lpW _ _ _ _ _ _ _)
 unfold Zbq
 rw[ZaY]
 conv=>arg 3;whnf
 refine Zg rfl ?_ ?_<;>conv=>arg 3;whnf
 ·refine Zi rfl rfl fun x2 hx2=>?_;conv=>arg 3;whnf
  refine Zf (Zl rfl hx2) ?_;conv=>arg 3;whnf
  refine Zi rfl rfl fun x3 hx3=>?_;conv=>arg 3;whnf
  refine Zf (Zl rfl hx3) ?_;conv=>arg 3;whnf
  refine Zp _ Z4 rfl fun x4 hx4=>?_;conv=>arg 3;whnf
  refine Zg rfl ?_ ?_<;>conv=>arg 3;whnf
  ·refine Zf (ZaG rfl hx3) ?_;conv=>arg 3;whnf
   refine Zf (Zl rfl hx3) ?_;conv=>arg 3;whnf
   refine Zf (ZaG rfl hx2) ?_;conv=>arg 3;whnf
   refine Zf (Zl rfl hx2) ?_;conv=>arg 3;whnf
   refine Zf (ZaG rfl hx2) ?_;conv=>arg 3;whnf
   refine Zf (Zl rfl hx2) ?_;conv=>arg 3;whnf
   refine Zn (Z1 Ze s1.2 s1.1.toNat x3) ?_;conv=>arg 3;whnf
   refine Zi rfl rfl fun x5 hx5=>?_;conv=>arg 3;whnf
   refine Zf (Zl rfl hx5) ?_;conv=>arg 3;whnf
   refine Zn (Z1 Ze (List.set s1.2 s1.1.toNat x3) (w64 (s1.1-1)).toNat x2) ?_;conv=>arg 3;whnf
   exact Zd (ih _)
  ·exact Zh rfl
 ·exact Zh rfl
def Zef (b:Int) (c:Int):(List Int)→Ex×List V×Zq
  | r=>(.exit 0,[],[(.arr 1 (List.map Ze r))])
theorem ZgV {b:Int}{c:Int}:∀(s0:Int×(List Int)) (r:(List Int)),lp (Zbp b c) s0=some r→lpW ctx 1 [0,1,2,6] [] Zwr [(.sl 0 1),(.d (Ze b)),(.d (Ze c)),(.d (Ze s0.1))] [(.arr 1 (List.map Ze s0.2))]=some ((Zef b c) r):=by
 refine ZaX (Zef b c) ?_
 intro s0 rcl ih
 show ZS _ _ (lpW _ _ _ _ _ _ _)
 unfold Zbp
 rw[ZaY]
 conv=>arg 3;whnf
 refine Zg rfl ?_ ?_<;>conv=>arg 3;whnf
 ·refine Zc _ (ZgS _) fun r6 hr6=>?_;conv=>arg 3;whnf
  exact Zd (ih _)
 ·exact Zh rfl
theorem Zb6 {b:Int}{c:Int}{m0_0:(List Int)}:∀r,(Zav b c m0_0)=some r→evW ctx 130 [(.sl 0 1),(.d (Ze b)),(.d (Ze c))] [(.arr 1 (List.map Ze m0_0))]=some ((ZeS b c m0_0) r):=by
 show ZS _ (fun r rhs=>rhs=some ((ZeS b c m0_0) r)) _
 unfold Zav
 rw[Zd4 ctx 130 ZyN _ _ rfl rfl]
 conv=>arg 3;whnf
 refine Zc _ (ZgV _) fun r7 hr7=>?_;conv=>arg 3;whnf
 exact Zh rfl
def Zf8 (b:Int) (c:Int) (d:Int) (m0_0:(List Int)):(List Int)→V×Zq
  | r=>((.d (D.tup [])),[(.arr 1 (List.map Ze r))])
def Zfn (c:Int) (d:Int):((List Int)⊕(List Int))→Ex×List V×Zq
  | (.inl r)=>(.exit 0,[],[(.arr 1 (List.map Ze r))])
  | (.inr r)=>(.ret,[],[(.arr 1 (List.map Ze r))])
theorem ZhM {c:Int}{d:Int}:∀(s0:Int×(List Int)) (r:((List Int)⊕(List Int))),lp (ZbZ c d) s0=some r→lpW ctx 1 [0,2,3,8] [] ZvP [(.sl 0 1),(.d (Ze c)),(.d (Ze d)),(.d (Ze s0.1))] [(.arr 1 (List.map Ze s0.2))]=some ((Zfn c d) r):=by
 refine ZaX (Zfn c d) ?_
 intro s0 rcl ih
 show ZS _ _ (lpW _ _ _ _ _ _ _)
 unfold ZbZ
 rw[ZaY]
 conv=>arg 3;whnf
 refine Zg rfl ?_ ?_<;>conv=>arg 3;whnf
 ·exact Zh rfl
 ·refine Zg rfl ?_ ?_<;>conv=>arg 3;whnf
  ·refine Zi rfl rfl fun x1 hx1=>?_;conv=>arg 3;whnf
   refine Zf (Zl rfl hx1) ?_;conv=>arg 3;whnf
   refine Zi rfl rfl fun x2 hx2=>?_;conv=>arg 3;whnf
   refine Zf (Zl rfl hx2) ?_;conv=>arg 3;whnf
   refine Zp _ Z4 rfl fun x3 hx3=>?_;conv=>arg 3;whnf
   refine Zg rfl ?_ ?_<;>conv=>arg 3;whnf
   ·refine Zi rfl rfl fun x4 hx4=>?_;conv=>arg 3;whnf
    refine Zf (Zl rfl hx4) ?_;conv=>arg 3;whnf
    refine Zi rfl rfl fun x5 hx5=>?_;conv=>arg 3;whnf
    refine Zf (Zl rfl hx5) ?_;conv=>arg 3;whnf
    refine Zp _ Z4 rfl fun x6 hx6=>?_;conv=>arg 3;whnf
    refine Zg rfl ?_ ?_<;>conv=>arg 3;whnf
    ·refine Zf (ZaG rfl hx5) ?_;conv=>arg 3;whnf
     refine Zf (Zl rfl hx5) ?_;conv=>arg 3;whnf
     refine Zf (ZaG rfl hx4) ?_;conv=>arg 3;whnf
     refine Zf (Zl rfl hx4) ?_;conv=>arg 3;whnf
     refine Zf (ZaG rfl hx4) ?_;conv=>arg 3;whnf
     refine Zf (Zl rfl hx4) ?_;conv=>arg 3;whnf
     refine Zn (Z1 Ze s0.2 (w64 (d+s0.1)).toNat x5) ?_;conv=>arg 3;whnf
     refine Zi rfl rfl fun x7 hx7=>?_;conv=>arg 3;whnf
     refine Zf (Zl rfl hx7) ?_;conv=>arg 3;whnf
     refine Zn (Z1 Ze (List.set s0.2 (w64 (d+s0.1)).toNat x5) (w64 (d+(w64 ((w64 ((w64 (2*s0.1))+1))+1)))).toNat x4) ?_;conv=>arg 3;whnf
     exact Zd (ih _)
    ·exact Zh rfl
   ·refine Zi rfl rfl fun x8 hx8=>?_;conv=>arg 3;whnf
    refine Zf (Zl rfl hx8) ?_;conv=>arg 3;whnf
    refine Zf (ZaG rfl hx1) ?_;conv=>arg 3;whnf
    refine Zf (Zl rfl hx1) ?_;conv=>arg 3;whnf
    refine Zp _ Z4 rfl fun x9 hx9=>?_;conv=>arg 3;whnf
    refine Zg rfl ?_ ?_<;>conv=>arg 3;whnf
    ·refine Zf (ZaG rfl hx1) ?_;conv=>arg 3;whnf
     refine Zf (Zl rfl hx1) ?_;conv=>arg 3;whnf
     refine Zf (ZaG rfl hx8) ?_;conv=>arg 3;whnf
     refine Zf (Zl rfl hx8) ?_;conv=>arg 3;whnf
     refine Zf (ZaG rfl hx8) ?_;conv=>arg 3;whnf
     refine Zf (Zl rfl hx8) ?_;conv=>arg 3;whnf
     refine Zn (Z1 Ze s0.2 (w64 (d+s0.1)).toNat x1) ?_;conv=>arg 3;whnf
     refine Zi rfl rfl fun x10 hx10=>?_;conv=>arg 3;whnf
     refine Zf (Zl rfl hx10) ?_;conv=>arg 3;whnf
     refine Zn (Z1 Ze (List.set s0.2 (w64 (d+s0.1)).toNat x1) (w64 (d+(w64 ((w64 (2*s0.1))+1)))).toNat x8) ?_;conv=>arg 3;whnf
     exact Zd (ih _)
    ·exact Zh rfl
  ·refine Zi rfl rfl fun x11 hx11=>?_;conv=>arg 3;whnf
   refine Zf (Zl rfl hx11) ?_;conv=>arg 3;whnf
   refine Zi rfl rfl fun x12 hx12=>?_;conv=>arg 3;whnf
   refine Zf (Zl rfl hx12) ?_;conv=>arg 3;whnf
   refine Zp _ Z4 rfl fun x13 hx13=>?_;conv=>arg 3;whnf
   refine Zg rfl ?_ ?_<;>conv=>arg 3;whnf
   ·refine Zf (ZaG rfl hx12) ?_;conv=>arg 3;whnf
    refine Zf (Zl rfl hx12) ?_;conv=>arg 3;whnf
    refine Zf (ZaG rfl hx11) ?_;conv=>arg 3;whnf
    refine Zf (Zl rfl hx11) ?_;conv=>arg 3;whnf
    refine Zf (ZaG rfl hx11) ?_;conv=>arg 3;whnf
    refine Zf (Zl rfl hx11) ?_;conv=>arg 3;whnf
    refine Zn (Z1 Ze s0.2 (w64 (d+s0.1)).toNat x12) ?_;conv=>arg 3;whnf
    refine Zi rfl rfl fun x14 hx14=>?_;conv=>arg 3;whnf
    refine Zf (Zl rfl hx14) ?_;conv=>arg 3;whnf
    refine Zn (Z1 Ze (List.set s0.2 (w64 (d+s0.1)).toNat x12) (w64 (d+(w64 ((w64 (2*s0.1))+1)))).toNat x11) ?_;conv=>arg 3;whnf
    exact Zd (ih _)
   ·exact Zh rfl
theorem ZfX {b:Int}{c:Int}{d:Int}{m0_0:(List Int)}:∀r,(ZbH b c d m0_0)=some r→evW ctx 144 [(.sl 0 1),(.d (Ze b)),(.d (Ze c)),(.d (Ze d))] [(.arr 1 (List.map Ze m0_0))]=some ((Zf8 b c d m0_0) r):=by
 show ZS _ (fun r rhs=>rhs=some ((Zf8 b c d m0_0) r)) _
 unfold ZbH
 rw[Zd4 ctx 144 ZxW _ _ rfl rfl]
 conv=>arg 3;whnf
 refine Zc _ (ZhM _) fun r15 hr15=>?_
 clear hr15
 rcases r15 with r15 | r15
 ·conv=>arg 3;whnf
  exact Zh rfl
 ·conv=>arg 3;whnf
  exact Zh rfl
def Zgg (b:Int) (c:Int) (m0_0:(List Int)):(List Int)→V×Zq
  | r=>((.d (D.tup [])),[(.arr 1 (List.map Ze r))])
def Zfp (b:Int) (c:Int):(List Int)→Ex×List V×Zq
  | r=>(.exit 0,[(.sl 0 1),(.d (Ze b)),(.d (Ze 0)),(.d (Ze (w64 (c-b))))],[(.arr 1 (List.map Ze r))])
theorem ZhQ {b:Int}{c:Int}:∀(s0:Int×(List Int)) (r:(List Int)),lp (ZbW b c) s0=some r→lpW ctx 1 [0,6,7,8,9] [0,6,7,8] ZvH [(.sl 0 1),(.d (Ze b)),(.d (Ze 0)),(.d (Ze (w64 (c-b)))),(.d (Ze s0.1))] [(.arr 1 (List.map Ze s0.2))]=some ((Zfp b c) r):=by
 refine ZaX (Zfp b c) ?_
 intro s0 rcl ih
 show ZS _ _ (lpW _ _ _ _ _ _ _)
 unfold ZbW
 rw[ZaY]
 conv=>arg 3;whnf
 refine Zg rfl ?_ ?_<;>conv=>arg 3;whnf
 ·refine Zc _ ZfX fun x1 hx1=>?_;conv=>arg 3;whnf
  exact Zd (ih _)
 ·exact Zh rfl
def Zfq (b:Int):(List Int)→Ex×List V×Zq
  | r=>(.exit 2,[],[(.arr 1 (List.map Ze r))])
theorem ZhP {b:Int}:∀(s3:Int×(List Int)) (r:(List Int)),lp (ZbY b) s3=some r→lpW ctx 1 [0,6,7,10] [] Zwq [(.sl 0 1),(.d (Ze b)),(.d (Ze 0)),(.d (Ze s3.1))] [(.arr 1 (List.map Ze s3.2))]=some ((Zfq b) r):=by
 refine ZaX (Zfq b) ?_
 intro s3 rcl ih
 show ZS _ _ (lpW _ _ _ _ _ _ _)
 unfold ZbY
 rw[ZaY]
 conv=>arg 3;whnf
 refine Zg rfl ?_ ?_<;>conv=>arg 3;whnf
 ·refine Zi rfl rfl fun x4 hx4=>?_;conv=>arg 3;whnf
  refine Zf (Zl rfl hx4) ?_;conv=>arg 3;whnf
  refine Zi rfl rfl fun x5 hx5=>?_;conv=>arg 3;whnf
  refine Zf (Zl rfl hx5) ?_;conv=>arg 3;whnf
  refine Zf (ZaG rfl hx5) ?_;conv=>arg 3;whnf
  refine Zf (Zl rfl hx5) ?_;conv=>arg 3;whnf
  refine Zn (Z1 Ze s3.2 b.toNat x4) ?_;conv=>arg 3;whnf
  refine Zi rfl rfl fun x6 hx6=>?_;conv=>arg 3;whnf
  refine Zf (Zl rfl hx6) ?_;conv=>arg 3;whnf
  refine Zn (Z1 Ze (List.set s3.2 b.toNat x4) (w64 (b+s3.1)).toNat x5) ?_;conv=>arg 3;whnf
  refine Zc _ ZfX fun x7 hx7=>?_;conv=>arg 3;whnf
  exact Zd (ih _)
 ·exact Zh rfl
theorem ZcF {b:Int}{c:Int}{m0_0:(List Int)}:∀r,(Za6 b c m0_0)=some r→evW ctx 131 [(.sl 0 1),(.d (Ze b)),(.d (Ze c))] [(.arr 1 (List.map Ze m0_0))]=some ((Zgg b c m0_0) r):=by
 show ZS _ (fun r rhs=>rhs=some ((Zgg b c m0_0) r)) _
 unfold Za6
 rw[Zd4 ctx 131 ZzB _ _ rfl rfl]
 conv=>arg 3;whnf
 refine ZR rfl ?_;conv=>arg 3;whnf
 refine Zc _ (ZhQ _) fun r2 hr2=>?_;conv=>arg 3;whnf
 refine Zc _ (ZhP _) fun r8 hr8=>?_;conv=>arg 3;whnf
 exact Zh rfl
def Zgt (b:Int) (c:Int) (m0_0:(List Int)) (m1_0:Int):(Int×Int×Int)→V×Zq
  | r=>((.d (D.tup [(Ze r.1),(Ze r.2.1)])),[(.arr 1 (List.map Ze m0_0)),(.cells [(.d (Ze r.2.2))])])
theorem Zee {b:Int}{c:Int}{m0_0:(List Int)}{m1_0:Int}:∀r,(Zbz b c m0_0 m1_0)=some r→evW ctx 149 [(.sl 0 1),(.d (Ze b)),(.d (Ze c)),(.ptr 1 0)] [(.arr 1 (List.map Ze m0_0)),(.cells [(.d (Ze m1_0))])]=some ((Zgt b c m0_0 m1_0) r):=by
 show ZS _ (fun r rhs=>rhs=some ((Zgt b c m0_0 m1_0) r)) _
 unfold Zbz
 rw[Zd4 ctx 149 Zzy _ _ rfl rfl]
 conv=>arg 3;whnf
 refine Zi rfl rfl fun x0 hx0=>?_;conv=>arg 3;whnf
 refine Zf (Zl rfl hx0) ?_;conv=>arg 3;whnf
 refine Zi rfl rfl fun x1 hx1=>?_;conv=>arg 3;whnf
 refine Zf (Zl rfl hx1) ?_;conv=>arg 3;whnf
 refine Zp _ Z4 rfl fun x2 hx2=>?_;conv=>arg 3;whnf
 refine Zg rfl ?_ ?_<;>conv=>arg 3;whnf
 ·exact Zh rfl
 ·exact Zh rfl
def Zgz (b:Int) (c:Int) (d:Int) (m0_0:(List Int)) (m1_0:Int):(Int×Int)→V×Zq
  | r=>((.d (Ze r.1)),[(.arr 1 (List.map Ze m0_0)),(.cells [(.d (Ze r.2))])])
theorem Zei {b:Int}{c:Int}{d:Int}{m0_0:(List Int)}{m1_0:Int}:∀r,(ZbA b c d m0_0 m1_0)=some r→evW ctx 146 [(.sl 0 1),(.d (Ze b)),(.d (Ze c)),(.d (Ze d)),(.ptr 1 0)] [(.arr 1 (List.map Ze m0_0)),(.cells [(.d (Ze m1_0))])]=some ((Zgz b c d m0_0 m1_0) r):=by
 show ZS _ (fun r rhs=>rhs=some ((Zgz b c d m0_0 m1_0) r)) _
 unfold ZbA
 rw[Zd4 ctx 146 ZzW _ _ rfl rfl]
 conv=>arg 3;whnf
 refine Zc _ Zee fun x0 hx0=>?_;conv=>arg 3;whnf
 refine Zc _ Zee fun x1 hx1=>?_;conv=>arg 3;whnf
 refine Zc _ Zee fun x2 hx2=>?_;conv=>arg 3;whnf
 exact Zh rfl
def ZeG (b:Int) (m0_0:(List Int)) (m1_0:Int):(Int×Int)→V×Zq
  | r=>((.d (Ze r.1)),[(.arr 1 (List.map Ze m0_0)),(.cells [(.d (Ze r.2))])])
theorem ZcW {b:Int}{m0_0:(List Int)}{m1_0:Int}:∀r,(ZaO b m0_0 m1_0)=some r→evW ctx 145 [(.sl 0 1),(.d (Ze b)),(.ptr 1 0)] [(.arr 1 (List.map Ze m0_0)),(.cells [(.d (Ze m1_0))])]=some ((ZeG b m0_0 m1_0) r):=by
 show ZS _ (fun r rhs=>rhs=some ((ZeG b m0_0 m1_0) r)) _
 unfold ZaO
 rw[Zd4 ctx 145 Zx6 _ _ rfl rfl]
 conv=>arg 3;whnf
 refine Zc _ Zei fun x0 hx0=>?_;conv=>arg 3;whnf
 exact Zh rfl
def Zfo (b:Int) (c:Int) (m0_0:(List Int)):(Int×Int)→V×Zq
  | r=>((.d (D.tup [(Ze r.1),(Ze r.2)])),[(.arr 1 (List.map Ze m0_0))])
theorem Zcf {b:Int}{c:Int}{m0_0:(List Int)}:∀r,(ZaK b c m0_0)=some r→evW ctx 133 [(.sl 0 1),(.d (Ze b)),(.d (Ze c))] [(.arr 1 (List.map Ze m0_0))]=some ((Zfo b c m0_0) r):=by
 show ZS _ (fun r rhs=>rhs=some ((Zfo b c m0_0) r)) _
 unfold ZaK
 rw[Zd4 ctx 133 Zyf _ _ rfl rfl]
 conv=>arg 3;whnf
 refine ZR rfl ?_;conv=>arg 3;whnf
 refine ZR rfl ?_;conv=>arg 3;whnf
 refine ZR rfl ?_;conv=>arg 3;whnf
 refine Zg rfl ?_ ?_<;>conv=>arg 3;whnf
 ·refine Zg rfl ?_ ?_<;>conv=>arg 3;whnf
  ·refine Zc _ ZcW fun x0 hx0=>?_;conv=>arg 3;whnf
   refine Zc _ ZcW fun x1 hx1=>?_;conv=>arg 3;whnf
   refine Zc _ ZcW fun x2 hx2=>?_;conv=>arg 3;whnf
   refine Zc _ Zei fun x3 hx3=>?_;conv=>arg 3;whnf
   refine Zg rfl ?_ ?_<;>conv=>arg 3;whnf
   ·exact Zh rfl
   ·refine Zg rfl ?_ ?_<;>conv=>arg 3;whnf
    ·exact Zh rfl
    ·exact Zh rfl
  ·refine Zc _ Zei fun x4 hx4=>?_;conv=>arg 3;whnf
   refine Zg rfl ?_ ?_<;>conv=>arg 3;whnf
   ·exact Zh rfl
   ·refine Zg rfl ?_ ?_<;>conv=>arg 3;whnf
    ·exact Zh rfl
    ·exact Zh rfl
 ·refine Zbr rfl ?_;conv=>arg 3;whnf
  exact Zh rfl
def Zfg (b:Int) (c:Int) (m0_0:(List Int)):(List Int)→V×Zq
  | r=>((.d (D.tup [])),[(.arr 1 (List.map Ze r))])
def Zet:(List Int)→Ex×List V×Zq
  | r=>(.exit 0,[],[(.arr 1 (List.map Ze r))])
theorem Zg1:∀(s0:Int×Int×(List Int)) (r:(List Int)),lp (Zbw) s0=some r→lpW ctx 1 [0,6,7] [] ZvJ [(.sl 0 1),(.d (Ze s0.1)),(.d (Ze s0.2.1))] [(.arr 1 (List.map Ze s0.2.2))]=some (Zet r):=by
 refine ZaX Zet ?_
 intro s0 rcl ih
 show ZS _ _ (lpW _ _ _ _ _ _ _)
 unfold Zbw
 rw[ZaY]
 conv=>arg 3;whnf
 refine Zg rfl ?_ ?_<;>conv=>arg 3;whnf
 ·refine Zi rfl rfl fun x1 hx1=>?_;conv=>arg 3;whnf
  refine Zf (Zl rfl hx1) ?_;conv=>arg 3;whnf
  refine Zi rfl rfl fun x2 hx2=>?_;conv=>arg 3;whnf
  refine Zf (Zl rfl hx2) ?_;conv=>arg 3;whnf
  refine Zf (ZaG rfl hx2) ?_;conv=>arg 3;whnf
  refine Zf (Zl rfl hx2) ?_;conv=>arg 3;whnf
  refine Zn (Z1 Ze s0.2.2 s0.1.toNat x1) ?_;conv=>arg 3;whnf
  refine Zi rfl rfl fun x3 hx3=>?_;conv=>arg 3;whnf
  refine Zf (Zl rfl hx3) ?_;conv=>arg 3;whnf
  refine Zn (Z1 Ze (List.set s0.2.2 s0.1.toNat x1) s0.2.1.toNat x2) ?_;conv=>arg 3;whnf
  exact Zd (ih _)
 ·exact Zh rfl
theorem Zca {b:Int}{c:Int}{m0_0:(List Int)}:∀r,(ZaC b c m0_0)=some r→evW ctx 134 [(.sl 0 1),(.d (Ze b)),(.d (Ze c))] [(.arr 1 (List.map Ze m0_0))]=some ((Zfg b c m0_0) r):=by
 show ZS _ (fun r rhs=>rhs=some ((Zfg b c m0_0) r)) _
 unfold ZaC
 rw[Zd4 ctx 134 Zxt _ _ rfl rfl]
 conv=>arg 3;whnf
 refine Zc _ (Zg1 _) fun r4 hr4=>?_;conv=>arg 3;whnf
 exact Zh rfl
def ZdF (b:Int) (c:Int) (m0_0:(List Int)):((List Int)⊕(List Int))→V×Zq
  | (.inl r)=>((.d (D.bool true)),[(.arr 1 (List.map Ze r))])
  | (.inr r)=>((.d (D.bool false)),[(.arr 1 (List.map Ze r))])
def Zdp (b:Int) (c:Int) (s0:Int×Int×(List Int)):Int→Ex×List V×Zq
  | r=>(.exit 2,[(.sl 0 1),(.d (Ze b)),(.d (Ze c)),(.d (Ze r)),(.d (Ze s0.2.1))],[(.arr 1 (List.map Ze s0.2.2))])
theorem ZfU {b:Int}{c:Int}{s0:Int×Int×(List Int)}:∀(s1:Int) (r:Int),lp (ZaV c s0) s1=some r→lpW ctx 1 [0,1,2,7,8] [0,1,2,7,8] ZvT [(.sl 0 1),(.d (Ze b)),(.d (Ze c)),(.d (Ze s1)),(.d (Ze s0.2.1))] [(.arr 1 (List.map Ze s0.2.2))]=some ((Zdp b c s0) r):=by
 refine ZaX (Zdp b c s0) ?_
 intro s1 rcl ih
 show ZS _ _ (lpW _ _ _ _ _ _ _)
 unfold ZaV
 rw[ZaY]
 conv=>arg 3;whnf
 refine Zg rfl ?_ ?_<;>conv=>arg 3;whnf
 ·refine Zi rfl rfl fun x2 hx2=>?_;conv=>arg 3;whnf
  refine Zf (Zl rfl hx2) ?_;conv=>arg 3;whnf
  refine Zi rfl rfl fun x3 hx3=>?_;conv=>arg 3;whnf
  refine Zf (Zl rfl hx3) ?_;conv=>arg 3;whnf
  refine Zp _ Z4 rfl fun x4 hx4=>?_;conv=>arg 3;whnf
  refine Zg rfl ?_ ?_<;>conv=>arg 3;whnf
  ·exact Zh rfl
  ·exact Zd (ih _)
 ·exact Zh rfl
def Zdo (b:Int) (c:Int) (s0:Int×Int×(List Int)) (r5:Int):(List Int)→Ex×List V×Zq
  | r=>(.exit 4,[(.sl 0 1),(.d (Ze b)),(.d (Ze c)),(.d (Ze r5)),(.d (Ze s0.2.1))],[(.arr 1 (List.map Ze r))])
theorem ZfW {b:Int}{c:Int}{s0:Int×Int×(List Int)}{r5:Int}:∀(s9:Int×(List Int)) (r:(List Int)),lp (ZaS) s9=some r→lpW ctx 1 [0,1,2,7,8,9] [0,1,2,7,8] ZvM [(.sl 0 1),(.d (Ze b)),(.d (Ze c)),(.d (Ze r5)),(.d (Ze s0.2.1)),(.d (Ze s9.1))] [(.arr 1 (List.map Ze s9.2))]=some ((Zdo b c s0 r5) r):=by
 refine ZaX (Zdo b c s0 r5) ?_
 intro s9 rcl ih
 show ZS _ _ (lpW _ _ _ _ _ _ _)
 unfold ZaS
 rw[ZaY]
 conv=>arg 3;whnf
 refine Zg rfl ?_ ?_<;>conv=>arg 3;whnf
 ·refine Zi rfl rfl fun x10 hx10=>?_;conv=>arg 3;whnf
  refine Zf (Zl rfl hx10) ?_;conv=>arg 3;whnf
  refine Zi rfl rfl fun x11 hx11=>?_;conv=>arg 3;whnf
  refine Zf (Zl rfl hx11) ?_;conv=>arg 3;whnf
  refine Zp _ Z4 rfl fun x12 hx12=>?_;conv=>arg 3;whnf
  refine Zg rfl ?_ ?_<;>conv=>arg 3;whnf
  ·refine Zf (ZaG rfl hx11) ?_;conv=>arg 3;whnf
   refine Zf (Zl rfl hx11) ?_;conv=>arg 3;whnf
   refine Zf (ZaG rfl hx10) ?_;conv=>arg 3;whnf
   refine Zf (Zl rfl hx10) ?_;conv=>arg 3;whnf
   refine Zf (ZaG rfl hx10) ?_;conv=>arg 3;whnf
   refine Zf (Zl rfl hx10) ?_;conv=>arg 3;whnf
   refine Zn (Z1 Ze s9.2 s9.1.toNat x11) ?_;conv=>arg 3;whnf
   refine Zi rfl rfl fun x13 hx13=>?_;conv=>arg 3;whnf
   refine Zf (Zl rfl hx13) ?_;conv=>arg 3;whnf
   refine Zn (Z1 Ze (List.set s9.2 s9.1.toNat x11) (w64 (s9.1-1)).toNat x10) ?_;conv=>arg 3;whnf
   exact Zd (ih _)
  ·exact Zh rfl
 ·exact Zh rfl
def Zdm (b:Int) (c:Int) (s0:Int×Int×(List Int)) (r5:Int):(List Int)→Ex×List V×Zq
  | r=>(.exit 6,[(.sl 0 1),(.d (Ze b)),(.d (Ze c)),(.d (Ze r5)),(.d (Ze s0.2.1))],[(.arr 1 (List.map Ze r))])
theorem Zdc {b:Int}{c:Int}{s0:Int×Int×(List Int)}{r5:Int}:∀(s15:Int×(List Int)) (r:(List Int)),lp (Zap c) s15=some r→lpW ctx 1 [0,1,2,7,8,10] [0,1,2,7,8] Zwp [(.sl 0 1),(.d (Ze b)),(.d (Ze c)),(.d (Ze r5)),(.d (Ze s0.2.1)),(.d (Ze s15.1))] [(.arr 1 (List.map Ze s15.2))]=some ((Zdm b c s0 r5) r):=by
 refine ZaX (Zdm b c s0 r5) ?_
 intro s15 rcl ih
 show ZS _ _ (lpW _ _ _ _ _ _ _)
 unfold Zap
 rw[ZaY]
 conv=>arg 3;whnf
 refine Zg rfl ?_ ?_<;>conv=>arg 3;whnf
 ·refine Zi rfl rfl fun x16 hx16=>?_;conv=>arg 3;whnf
  refine Zf (Zl rfl hx16) ?_;conv=>arg 3;whnf
  refine Zi rfl rfl fun x17 hx17=>?_;conv=>arg 3;whnf
  refine Zf (Zl rfl hx17) ?_;conv=>arg 3;whnf
  refine Zp _ Z4 rfl fun x18 hx18=>?_;conv=>arg 3;whnf
  refine Zg rfl ?_ ?_<;>conv=>arg 3;whnf
  ·refine Zf (ZaG rfl hx17) ?_;conv=>arg 3;whnf
   refine Zf (Zl rfl hx17) ?_;conv=>arg 3;whnf
   refine Zf (ZaG rfl hx16) ?_;conv=>arg 3;whnf
   refine Zf (Zl rfl hx16) ?_;conv=>arg 3;whnf
   refine Zf (ZaG rfl hx16) ?_;conv=>arg 3;whnf
   refine Zf (Zl rfl hx16) ?_;conv=>arg 3;whnf
   refine Zn (Z1 Ze s15.2 s15.1.toNat x17) ?_;conv=>arg 3;whnf
   refine Zi rfl rfl fun x19 hx19=>?_;conv=>arg 3;whnf
   refine Zf (Zl rfl hx19) ?_;conv=>arg 3;whnf
   refine Zn (Z1 Ze (List.set s15.2 s15.1.toNat x17) (w64 (s15.1-1)).toNat x16) ?_;conv=>arg 3;whnf
   exact Zd (ih _)
  ·exact Zh rfl
 ·exact Zh rfl
def Zdn (b:Int) (c:Int):((List Int)⊕((List Int)⊕(List Int)))→Ex×List V×Zq
  | (.inl r)=>(.ret,[(.d (D.bool true))],[(.arr 1 (List.map Ze r))])
  | (.inr (.inl r))=>(.ret,[(.d (D.bool false))],[(.arr 1 (List.map Ze r))])
  | (.inr (.inr r))=>(.exit 0,[.bad],[(.arr 1 (List.map Ze r))])
theorem ZfL {b:Int}{c:Int}:∀(s0:Int×Int×(List Int)) (r:((List Int)⊕((List Int)⊕(List Int)))),lp (ZaU b c) s0=some r→lpW ctx 1 [0,1,2,7,8] [6] Zvs [(.sl 0 1),(.d (Ze b)),(.d (Ze c)),(.d (Ze s0.1)),(.d (Ze s0.2.1))] [(.arr 1 (List.map Ze s0.2.2))]=some ((Zdn b c) r):=by
 refine ZaX (Zdn b c) ?_
 intro s0 rcl ih
 show ZS _ _ (lpW _ _ _ _ _ _ _)
 unfold ZaU
 rw[ZaY]
 conv=>arg 3;whnf
 refine Zg rfl ?_ ?_<;>conv=>arg 3;whnf
 ·refine Zc _ (ZfU _) fun r5 hr5=>?_;conv=>arg 3;whnf
  refine Zg rfl ?_ ?_<;>conv=>arg 3;whnf
  ·exact Zh rfl
  ·refine Zg rfl ?_ ?_<;>conv=>arg 3;whnf
   ·exact Zh rfl
   ·refine Zi rfl rfl fun x6 hx6=>?_;conv=>arg 3;whnf
    refine Zf (Zl rfl hx6) ?_;conv=>arg 3;whnf
    refine Zi rfl rfl fun x7 hx7=>?_;conv=>arg 3;whnf
    refine Zf (Zl rfl hx7) ?_;conv=>arg 3;whnf
    refine Zf (ZaG rfl hx7) ?_;conv=>arg 3;whnf
    refine Zf (Zl rfl hx7) ?_;conv=>arg 3;whnf
    refine Zn (Z1 Ze s0.2.2 r5.toNat x6) ?_;conv=>arg 3;whnf
    refine Zi rfl rfl fun x8 hx8=>?_;conv=>arg 3;whnf
    refine Zf (Zl rfl hx8) ?_;conv=>arg 3;whnf
    refine Zn (Z1 Ze (List.set s0.2.2 r5.toNat x6) (w64 (r5-1)).toNat x7) ?_;conv=>arg 3;whnf
    refine Zg rfl ?_ ?_<;>conv=>arg 3;whnf
    ·refine Zc _ (ZfW _) fun r14 hr14=>?_;conv=>arg 3;whnf
     refine Zg rfl ?_ ?_<;>conv=>arg 3;whnf
     ·refine Zc _ (Zdc _) fun r20 hr20=>?_;conv=>arg 3;whnf
      exact Zd (ih _)
     ·exact Zd (ih _)
    ·refine Zg rfl ?_ ?_<;>conv=>arg 3;whnf
     ·refine Zc _ (Zdc _) fun r26 hr26=>?_;conv=>arg 3;whnf
      exact Zd (ih _)
     ·exact Zd (ih _)
 ·exact Zh rfl
theorem ZdA {b:Int}{c:Int}{m0_0:(List Int)}:∀r,(ZaH b c m0_0)=some r→evW ctx 135 [(.sl 0 1),(.d (Ze b)),(.d (Ze c))] [(.arr 1 (List.map Ze m0_0))]=some ((ZdF b c m0_0) r):=by
 show ZS _ (fun r rhs=>rhs=some ((ZdF b c m0_0) r)) _
 unfold ZaH
 rw[Zd4 ctx 135 Zx1 _ _ rfl rfl]
 conv=>arg 3;whnf
 refine Zc _ (ZfL _) fun r27 hr27=>?_
 clear hr27
 rcases r27 with r27 | (r27 | r27)
 ·conv=>arg 3;whnf
  exact Zh rfl
 ·conv=>arg 3;whnf
  exact Zh rfl
 ·conv=>arg 3;whnf
  exact Zh rfl
def ZfZ (b:Int) (c:Int) (d:Int) (m0_0:(List Int)):((Int×(List Int))⊕(Int×(List Int)))→V×Zq
  | (.inl r)=>((.d (D.tup [(Ze r.1),(D.bool true)])),[(.arr 1 (List.map Ze r.2))])
  | (.inr r)=>((.d (D.tup [(Ze r.1),(D.bool false)])),[(.arr 1 (List.map Ze r.2))])
def Zfe (b:Int) (c:Int) (d:Int) (m0_0:(List Int)) (x0:Int) (x1:Int):Int→Ex×List V×Zq
  | r=>(.exit 0,[(.sl 0 1),(.d (Ze b)),(.d (Ze r)),(.d (Ze (w64 (c-1))))],[(.arr 1 (List.map Ze (List.set (List.set m0_0 b.toNat x0) d.toNat x1)))])
theorem Zhr {b:Int}{c:Int}{d:Int}{m0_0:(List Int)}{x0:Int}{x1:Int}:∀(s3:Int) (r:Int),lp (ZbP b c d m0_0 x0 x1) s3=some r→lpW ctx 1 [0,1,10,11] [0,1,10,11] Zwx [(.sl 0 1),(.d (Ze b)),(.d (Ze s3)),(.d (Ze (w64 (c-1))))] [(.arr 1 (List.map Ze (List.set (List.set m0_0 b.toNat x0) d.toNat x1)))]=some ((Zfe b c d m0_0 x0 x1) r):=by
 refine ZaX (Zfe b c d m0_0 x0 x1) ?_
 intro s3 rcl ih
 show ZS _ _ (lpW _ _ _ _ _ _ _)
 unfold ZbP
 rw[ZaY]
 conv=>arg 3;whnf
 refine Zg rfl ?_ ?_<;>conv=>arg 3;whnf
 ·refine Zi rfl rfl fun x4 hx4=>?_;conv=>arg 3;whnf
  refine Zf (Zl rfl hx4) ?_;conv=>arg 3;whnf
  refine Zi rfl rfl fun x5 hx5=>?_;conv=>arg 3;whnf
  refine Zf (Zl rfl hx5) ?_;conv=>arg 3;whnf
  refine Zp _ Z4 rfl fun x6 hx6=>?_;conv=>arg 3;whnf
  refine Zg rfl ?_ ?_<;>conv=>arg 3;whnf
  ·exact Zd (ih _)
  ·exact Zh rfl
 ·exact Zh rfl
def Zff (b:Int) (d:Int) (m0_0:(List Int)) (x0:Int) (x1:Int) (r7:Int):Int→Ex×List V×Zq
  | r=>(.exit 2,[(.sl 0 1),(.d (Ze b)),(.d (Ze r7)),(.d (Ze r))],[(.arr 1 (List.map Ze (List.set (List.set m0_0 b.toNat x0) d.toNat x1)))])
theorem Zhy {b:Int}{d:Int}{m0_0:(List Int)}{x0:Int}{x1:Int}{r7:Int}:∀(s8:Int) (r:Int),lp (ZbI b d m0_0 x0 x1 r7) s8=some r→lpW ctx 1 [0,1,10,11] [0,1,10,11] Zwj [(.sl 0 1),(.d (Ze b)),(.d (Ze r7)),(.d (Ze s8))] [(.arr 1 (List.map Ze (List.set (List.set m0_0 b.toNat x0) d.toNat x1)))]=some ((Zff b d m0_0 x0 x1 r7) r):=by
 refine ZaX (Zff b d m0_0 x0 x1 r7) ?_
 intro s8 rcl ih
 show ZS _ _ (lpW _ _ _ _ _ _ _)
 unfold ZbI
 rw[ZaY]
 conv=>arg 3;whnf
 refine Zg rfl ?_ ?_<;>conv=>arg 3;whnf
 ·refine Zi rfl rfl fun x9 hx9=>?_;conv=>arg 3;whnf
  refine Zf (Zl rfl hx9) ?_;conv=>arg 3;whnf
  refine Zi rfl rfl fun x10 hx10=>?_;conv=>arg 3;whnf
  refine Zf (Zl rfl hx10) ?_;conv=>arg 3;whnf
  refine Zp _ Z4 rfl fun x11 hx11=>?_;conv=>arg 3;whnf
  refine Zg rfl ?_ ?_<;>conv=>arg 3;whnf
  ·exact Zh rfl
  ·exact Zd (ih _)
 ·exact Zh rfl
def Zfb (b:Int) (s19:Int×Int×(List Int)):Int→Ex×List V×Zq
  | r=>(.exit 6,[(.sl 0 1),(.d (Ze b)),(.d (Ze r)),(.d (Ze s19.2.1))],[(.arr 1 (List.map Ze s19.2.2))])
theorem Zhu {b:Int}{s19:Int×Int×(List Int)}:∀(s20:Int) (r:Int),lp (ZbJ b s19) s20=some r→lpW ctx 1 [0,1,10,11] [0,1,10,11] Zvx [(.sl 0 1),(.d (Ze b)),(.d (Ze s20)),(.d (Ze s19.2.1))] [(.arr 1 (List.map Ze s19.2.2))]=some ((Zfb b s19) r):=by
 refine ZaX (Zfb b s19) ?_
 intro s20 rcl ih
 show ZS _ _ (lpW _ _ _ _ _ _ _)
 unfold ZbJ
 rw[ZaY]
 conv=>arg 3;whnf
 refine Zg rfl ?_ ?_<;>conv=>arg 3;whnf
 ·refine Zi rfl rfl fun x21 hx21=>?_;conv=>arg 3;whnf
  refine Zf (Zl rfl hx21) ?_;conv=>arg 3;whnf
  refine Zi rfl rfl fun x22 hx22=>?_;conv=>arg 3;whnf
  refine Zf (Zl rfl hx22) ?_;conv=>arg 3;whnf
  refine Zp _ Z4 rfl fun x23 hx23=>?_;conv=>arg 3;whnf
  refine Zg rfl ?_ ?_<;>conv=>arg 3;whnf
  ·exact Zd (ih _)
  ·exact Zh rfl
 ·exact Zh rfl
def Ze9 (b:Int) (s19:Int×Int×(List Int)) (r24:Int):Int→Ex×List V×Zq
  | r=>(.exit 8,[(.sl 0 1),(.d (Ze b)),(.d (Ze r24)),(.d (Ze r))],[(.arr 1 (List.map Ze s19.2.2))])
theorem Zhw {b:Int}{s19:Int×Int×(List Int)}{r24:Int}:∀(s25:Int) (r:Int),lp (ZbL b s19 r24) s25=some r→lpW ctx 1 [0,1,10,11] [0,1,10,11] Zwi [(.sl 0 1),(.d (Ze b)),(.d (Ze r24)),(.d (Ze s25))] [(.arr 1 (List.map Ze s19.2.2))]=some ((Ze9 b s19 r24) r):=by
 refine ZaX (Ze9 b s19 r24) ?_
 intro s25 rcl ih
 show ZS _ _ (lpW _ _ _ _ _ _ _)
 unfold ZbL
 rw[ZaY]
 conv=>arg 3;whnf
 refine Zg rfl ?_ ?_<;>conv=>arg 3;whnf
 ·refine Zi rfl rfl fun x26 hx26=>?_;conv=>arg 3;whnf
  refine Zf (Zl rfl hx26) ?_;conv=>arg 3;whnf
  refine Zi rfl rfl fun x27 hx27=>?_;conv=>arg 3;whnf
  refine Zf (Zl rfl hx27) ?_;conv=>arg 3;whnf
  refine Zp _ Z4 rfl fun x28 hx28=>?_;conv=>arg 3;whnf
  refine Zg rfl ?_ ?_<;>conv=>arg 3;whnf
  ·exact Zh rfl
  ·exact Zd (ih _)
 ·exact Zh rfl
def Zfc (b:Int):(Int×(List Int))→Ex×List V×Zq
  | r=>(.exit 4,[(.sl 0 1),(.d (Ze b)),(.d (Ze r.1))],[(.arr 1 (List.map Ze r.2))])
theorem Zhz {b:Int}:∀(s19:Int×Int×(List Int)) (r:(Int×(List Int))),lp (ZbN b) s19=some r→lpW ctx 1 [0,1,10,11] [0,1,11] Zvp [(.sl 0 1),(.d (Ze b)),(.d (Ze s19.1)),(.d (Ze s19.2.1))] [(.arr 1 (List.map Ze s19.2.2))]=some ((Zfc b) r):=by
 refine ZaX (Zfc b) ?_
 intro s19 rcl ih
 show ZS _ _ (lpW _ _ _ _ _ _ _)
 unfold ZbN
 rw[ZaY]
 conv=>arg 3;whnf
 refine Zc _ (Zhu _) fun r24 hr24=>?_;conv=>arg 3;whnf
 refine Zc _ (Zhw _) fun r29 hr29=>?_;conv=>arg 3;whnf
 refine Zg rfl ?_ ?_<;>conv=>arg 3;whnf
 ·exact Zh rfl
 ·refine Zi rfl rfl fun x30 hx30=>?_;conv=>arg 3;whnf
  refine Zf (Zl rfl hx30) ?_;conv=>arg 3;whnf
  refine Zi rfl rfl fun x31 hx31=>?_;conv=>arg 3;whnf
  refine Zf (Zl rfl hx31) ?_;conv=>arg 3;whnf
  refine Zf (ZaG rfl hx31) ?_;conv=>arg 3;whnf
  refine Zf (Zl rfl hx31) ?_;conv=>arg 3;whnf
  refine Zn (Z1 Ze s19.2.2 r24.toNat x30) ?_;conv=>arg 3;whnf
  refine Zi rfl rfl fun x32 hx32=>?_;conv=>arg 3;whnf
  refine Zf (Zl rfl hx32) ?_;conv=>arg 3;whnf
  refine Zn (Z1 Ze (List.set s19.2.2 r24.toNat x30) r29.toNat x31) ?_;conv=>arg 3;whnf
  exact Zd (ih _)
theorem ZA {b:Int}{c:Int}{d:Int}{m0_0:(List Int)}:∀r,(Zw b c d m0_0)=some r→evW ctx 138 [(.sl 0 1),(.d (Ze b)),(.d (Ze c)),(.d (Ze d))] [(.arr 1 (List.map Ze m0_0))]=some ((ZfZ b c d m0_0) r):=by
 show ZS _ (fun r rhs=>rhs=some ((ZfZ b c d m0_0) r)) _
 unfold Zw
 rw[Zd4 ctx 138 Zye _ _ rfl rfl]
 conv=>arg 3;whnf
 refine Zi rfl rfl fun x0 hx0=>?_;conv=>arg 3;whnf
 refine Zf (Zl rfl hx0) ?_;conv=>arg 3;whnf
 refine Zi rfl rfl fun x1 hx1=>?_;conv=>arg 3;whnf
 refine Zf (Zl rfl hx1) ?_;conv=>arg 3;whnf
 refine Zf (ZaG rfl hx1) ?_;conv=>arg 3;whnf
 refine Zf (Zl rfl hx1) ?_;conv=>arg 3;whnf
 refine Zn (Z1 Ze m0_0 b.toNat x0) ?_;conv=>arg 3;whnf
 refine Zi rfl rfl fun x2 hx2=>?_;conv=>arg 3;whnf
 refine Zf (Zl rfl hx2) ?_;conv=>arg 3;whnf
 refine Zn (Z1 Ze (List.set m0_0 b.toNat x0) d.toNat x1) ?_;conv=>arg 3;whnf
 refine Zc _ (Zhr _) fun r7 hr7=>?_;conv=>arg 3;whnf
 refine Zc _ (Zhy _) fun r12 hr12=>?_;conv=>arg 3;whnf
 refine Zg rfl ?_ ?_<;>conv=>arg 3;whnf
 ·refine Zi rfl rfl fun x13 hx13=>?_;conv=>arg 3;whnf
  refine Zf (Zl rfl hx13) ?_;conv=>arg 3;whnf
  refine Zi rfl rfl fun x14 hx14=>?_;conv=>arg 3;whnf
  refine Zf (Zl rfl hx14) ?_;conv=>arg 3;whnf
  refine Zf (ZaG rfl hx14) ?_;conv=>arg 3;whnf
  refine Zf (Zl rfl hx14) ?_;conv=>arg 3;whnf
  refine Zn (Z1 Ze (List.set (List.set m0_0 b.toNat x0) d.toNat x1) r12.toNat x13) ?_;conv=>arg 3;whnf
  refine Zi rfl rfl fun x15 hx15=>?_;conv=>arg 3;whnf
  refine Zf (Zl rfl hx15) ?_;conv=>arg 3;whnf
  refine Zn (Z1 Ze (List.set (List.set (List.set m0_0 b.toNat x0) d.toNat x1) r12.toNat x13) b.toNat x14) ?_;conv=>arg 3;whnf
  exact Zh rfl
 ·refine Zi rfl rfl fun x16 hx16=>?_;conv=>arg 3;whnf
  refine Zf (Zl rfl hx16) ?_;conv=>arg 3;whnf
  refine Zi rfl rfl fun x17 hx17=>?_;conv=>arg 3;whnf
  refine Zf (Zl rfl hx17) ?_;conv=>arg 3;whnf
  refine Zf (ZaG rfl hx17) ?_;conv=>arg 3;whnf
  refine Zf (Zl rfl hx17) ?_;conv=>arg 3;whnf
  refine Zn (Z1 Ze (List.set (List.set m0_0 b.toNat x0) d.toNat x1) r7.toNat x16) ?_;conv=>arg 3;whnf
  refine Zi rfl rfl fun x18 hx18=>?_;conv=>arg 3;whnf
  refine Zf (Zl rfl hx18) ?_;conv=>arg 3;whnf
  refine Zn (Z1 Ze (List.set (List.set (List.set m0_0 b.toNat x0) d.toNat x1) r7.toNat x16) r12.toNat x17) ?_;conv=>arg 3;whnf
  refine Zc _ (Zhz _) fun r33 hr33=>?_;conv=>arg 3;whnf
  refine Zi rfl rfl fun x34 hx34=>?_;conv=>arg 3;whnf
  refine Zf (Zl rfl hx34) ?_;conv=>arg 3;whnf
  refine Zi rfl rfl fun x35 hx35=>?_;conv=>arg 3;whnf
  refine Zf (Zl rfl hx35) ?_;conv=>arg 3;whnf
  refine Zf (ZaG rfl hx35) ?_;conv=>arg 3;whnf
  refine Zf (Zl rfl hx35) ?_;conv=>arg 3;whnf
  refine Zn (Z1 Ze r33.2 r33.1.toNat x34) ?_;conv=>arg 3;whnf
  refine Zi rfl rfl fun x36 hx36=>?_;conv=>arg 3;whnf
  refine Zf (Zl rfl hx36) ?_;conv=>arg 3;whnf
  refine Zn (Z1 Ze (List.set r33.2 r33.1.toNat x34) b.toNat x35) ?_;conv=>arg 3;whnf
  exact Zh rfl
def ZeJ (b:Int) (c:Int) (d:Int) (m0_0:(List Int)):(Int×(List Int))→V×Zq
  | r=>((.d (Ze r.1)),[(.arr 1 (List.map Ze r.2))])
def Zd3 (b:Int) (s3:Int×Int×(List Int)):Int→Ex×List V×Zq
  | r=>(.exit 2,[(.sl 0 1),(.d (Ze b)),(.d (Ze r)),(.d (Ze s3.2.1))],[(.arr 1 (List.map Ze s3.2.2))])
theorem ZgH {b:Int}{s3:Int×Int×(List Int)}:∀(s4:Int) (r:Int),lp (Zbj b s3) s4=some r→lpW ctx 1 [0,1,9,10] [0,1,9,10] ZvZ [(.sl 0 1),(.d (Ze b)),(.d (Ze s4)),(.d (Ze s3.2.1))] [(.arr 1 (List.map Ze s3.2.2))]=some ((Zd3 b s3) r):=by
 refine ZaX (Zd3 b s3) ?_
 intro s4 rcl ih
 show ZS _ _ (lpW _ _ _ _ _ _ _)
 unfold Zbj
 rw[ZaY]
 conv=>arg 3;whnf
 refine Zg rfl ?_ ?_<;>conv=>arg 3;whnf
 ·refine Zi rfl rfl fun x5 hx5=>?_;conv=>arg 3;whnf
  refine Zf (Zl rfl hx5) ?_;conv=>arg 3;whnf
  refine Zi rfl rfl fun x6 hx6=>?_;conv=>arg 3;whnf
  refine Zf (Zl rfl hx6) ?_;conv=>arg 3;whnf
  refine Zp _ Z4 rfl fun x7 hx7=>?_;conv=>arg 3;whnf
  refine Zg rfl ?_ ?_<;>conv=>arg 3;whnf
  ·exact Zh rfl
  ·exact Zd (ih _)
 ·exact Zh rfl
def Zd2 (b:Int) (s3:Int×Int×(List Int)) (r8:Int):Int→Ex×List V×Zq
  | r=>(.exit 4,[(.sl 0 1),(.d (Ze b)),(.d (Ze r8)),(.d (Ze r))],[(.arr 1 (List.map Ze s3.2.2))])
theorem ZgJ {b:Int}{s3:Int×Int×(List Int)}{r8:Int}:∀(s9:Int) (r:Int),lp (Zbk b s3 r8) s9=some r→lpW ctx 1 [0,1,9,10] [0,1,9,10] ZvU [(.sl 0 1),(.d (Ze b)),(.d (Ze r8)),(.d (Ze s9))] [(.arr 1 (List.map Ze s3.2.2))]=some ((Zd2 b s3 r8) r):=by
 refine ZaX (Zd2 b s3 r8) ?_
 intro s9 rcl ih
 show ZS _ _ (lpW _ _ _ _ _ _ _)
 unfold Zbk
 rw[ZaY]
 conv=>arg 3;whnf
 refine Zg rfl ?_ ?_<;>conv=>arg 3;whnf
 ·refine Zi rfl rfl fun x10 hx10=>?_;conv=>arg 3;whnf
  refine Zf (Zl rfl hx10) ?_;conv=>arg 3;whnf
  refine Zi rfl rfl fun x11 hx11=>?_;conv=>arg 3;whnf
  refine Zf (Zl rfl hx11) ?_;conv=>arg 3;whnf
  refine Zp _ Z4 rfl fun x12 hx12=>?_;conv=>arg 3;whnf
  refine Zg rfl ?_ ?_<;>conv=>arg 3;whnf
  ·exact Zd (ih _)
  ·exact Zh rfl
 ·exact Zh rfl
def Zd6 (b:Int):(Int×(List Int))→Ex×List V×Zq
  | r=>(.exit 0,[(.d (Ze r.1))],[(.arr 1 (List.map Ze r.2))])
theorem ZgG {b:Int}:∀(s3:Int×Int×(List Int)) (r:(Int×(List Int))),lp (Zbl b) s3=some r→lpW ctx 1 [0,1,9,10] [9] Zwd [(.sl 0 1),(.d (Ze b)),(.d (Ze s3.1)),(.d (Ze s3.2.1))] [(.arr 1 (List.map Ze s3.2.2))]=some ((Zd6 b) r):=by
 refine ZaX (Zd6 b) ?_
 intro s3 rcl ih
 show ZS _ _ (lpW _ _ _ _ _ _ _)
 unfold Zbl
 rw[ZaY]
 conv=>arg 3;whnf
 refine Zc _ (ZgH _) fun r8 hr8=>?_;conv=>arg 3;whnf
 refine Zc _ (ZgJ _) fun r13 hr13=>?_;conv=>arg 3;whnf
 refine Zg rfl ?_ ?_<;>conv=>arg 3;whnf
 ·exact Zh rfl
 ·refine Zi rfl rfl fun x14 hx14=>?_;conv=>arg 3;whnf
  refine Zf (Zl rfl hx14) ?_;conv=>arg 3;whnf
  refine Zi rfl rfl fun x15 hx15=>?_;conv=>arg 3;whnf
  refine Zf (Zl rfl hx15) ?_;conv=>arg 3;whnf
  refine Zf (ZaG rfl hx15) ?_;conv=>arg 3;whnf
  refine Zf (Zl rfl hx15) ?_;conv=>arg 3;whnf
  refine Zn (Z1 Ze s3.2.2 r8.toNat x14) ?_;conv=>arg 3;whnf
  refine Zi rfl rfl fun x16 hx16=>?_;conv=>arg 3;whnf
  refine Zf (Zl rfl hx16) ?_;conv=>arg 3;whnf
  refine Zn (Z1 Ze (List.set s3.2.2 r8.toNat x14) r13.toNat x15) ?_;conv=>arg 3;whnf
  exact Zd (ih _)
theorem Z8 {b:Int}{c:Int}{d:Int}{m0_0:(List Int)}:∀r,(ZM b c d m0_0)=some r→evW ctx 137 [(.sl 0 1),(.d (Ze b)),(.d (Ze c)),(.d (Ze d))] [(.arr 1 (List.map Ze m0_0))]=some ((ZeJ b c d m0_0) r):=by
 show ZS _ (fun r rhs=>rhs=some ((ZeJ b c d m0_0) r)) _
 unfold ZM
 rw[Zd4 ctx 137 ZxG _ _ rfl rfl]
 conv=>arg 3;whnf
 refine Zi rfl rfl fun x0 hx0=>?_;conv=>arg 3;whnf
 refine Zf (Zl rfl hx0) ?_;conv=>arg 3;whnf
 refine Zi rfl rfl fun x1 hx1=>?_;conv=>arg 3;whnf
 refine Zf (Zl rfl hx1) ?_;conv=>arg 3;whnf
 refine Zf (ZaG rfl hx1) ?_;conv=>arg 3;whnf
 refine Zf (Zl rfl hx1) ?_;conv=>arg 3;whnf
 refine Zn (Z1 Ze m0_0 b.toNat x0) ?_;conv=>arg 3;whnf
 refine Zi rfl rfl fun x2 hx2=>?_;conv=>arg 3;whnf
 refine Zf (Zl rfl hx2) ?_;conv=>arg 3;whnf
 refine Zn (Z1 Ze (List.set m0_0 b.toNat x0) d.toNat x1) ?_;conv=>arg 3;whnf
 refine Zc _ (ZgG _) fun r17 hr17=>?_;conv=>arg 3;whnf
 exact Zh rfl
def ZeT (b:Int) (c:Int) (m0_0:(List Int)):(List Int)→V×Zq
  | r=>((.d (D.tup [])),[(.arr 1 (List.map Ze r))])
def Zed (b:Int) (c:Int) (x0:Int):(List Int)→Ex×List V×Zq
  | r=>(.exit 0,[],[(.arr 1 (List.map Ze r))])
theorem ZgR {b:Int}{c:Int}{x0:Int}:∀(s1:Int×(List Int)×Int) (r:(List Int)),lp (Zbs b c x0) s1=some r→lpW ctx 1 [0,1,6,7,8,9] [] Zv5 [(.sl 0 1),(.d (Ze b)),(.d (Ze (w64 (c-b)))),(.ptr 1 0),(.d (D.int .u64 x0)),(.d (Ze s1.1))] [(.arr 1 (List.map Ze s1.2.1)),(.cells [(.d (D.int .u64 s1.2.2))])]=some ((Zed b c x0) r):=by
 refine ZaX (Zed b c x0) ?_
 intro s1 rcl ih
 show ZS _ _ (lpW _ _ _ _ _ _ _)
 unfold Zbs
 rw[ZaY]
 conv=>arg 3;whnf
 refine ZR rfl ?_;conv=>arg 3;whnf
 refine Zg rfl ?_ ?_<;>conv=>arg 3;whnf
 ·refine Zc _ Zho fun x2 hx2=>?_;conv=>arg 3;whnf
  refine Zg rfl ?_ ?_<;>conv=>arg 3;whnf
  ·refine Zi rfl rfl fun x3 hx3=>?_;conv=>arg 3;whnf
   refine Zf (Zl rfl hx3) ?_;conv=>arg 3;whnf
   refine Zi rfl rfl fun x4 hx4=>?_;conv=>arg 3;whnf
   refine Zf (Zl rfl hx4) ?_;conv=>arg 3;whnf
   refine Zf (ZaG rfl hx4) ?_;conv=>arg 3;whnf
   refine Zf (Zl rfl hx4) ?_;conv=>arg 3;whnf
   refine Zn (Z1 Ze s1.2.1 s1.1.toNat x3) ?_;conv=>arg 3;whnf
   refine Zi rfl rfl fun x5 hx5=>?_;conv=>arg 3;whnf
   refine Zf (Zl rfl hx5) ?_;conv=>arg 3;whnf
   refine Zn (Z1 Ze (List.set s1.2.1 s1.1.toNat x3) (w64 (b+(w64 ((w64 (IntKind.u64.wrap (BitVec.ofInt IntKind.u64.bits (IntKind.u64.wrap (BitVec.ofInt IntKind.u64.bits (IntKind.u64.wrap (BitVec.ofInt IntKind.u64.bits (IntKind.u64.wrap (BitVec.ofInt IntKind.u64.bits s1.2.2 ^^^ BitVec.ofInt IntKind.u64.bits (IntKind.u64.wrap (s1.2.2*2 ^ 13))).toNat) ^^^ BitVec.ofInt IntKind.u64.bits (Int.fdiv (IntKind.u64.wrap (BitVec.ofInt IntKind.u64.bits s1.2.2 ^^^ BitVec.ofInt IntKind.u64.bits (IntKind.u64.wrap (s1.2.2*2 ^ 13))).toNat) (2 ^ 7))).toNat) ^^^ BitVec.ofInt IntKind.u64.bits (IntKind.u64.wrap ((IntKind.u64.wrap (BitVec.ofInt IntKind.u64.bits (IntKind.u64.wrap (BitVec.ofInt IntKind.u64.bits s1.2.2 ^^^ BitVec.ofInt IntKind.u64.bits (IntKind.u64.wrap (s1.2.2*2 ^ 13))).toNat) ^^^ BitVec.ofInt IntKind.u64.bits (Int.fdiv (IntKind.u64.wrap (BitVec.ofInt IntKind.u64.bits s1.2.2 ^^^ BitVec.ofInt IntKind.u64.bits (IntKind.u64.wrap (s1.2.2*2 ^ 13))).toNat) (2 ^ 7))).toNat)*2 ^ 17))).toNat) &&& BitVec.ofInt IntKind.u64.bits (IntKind.u64.wrap (x0-1))).toNat))-(w64 (c-b)))))).toNat x4) ?_;conv=>arg 3;whnf
   exact Zd (ih _)
  ·refine Zi rfl rfl fun x6 hx6=>?_;conv=>arg 3;whnf
   refine Zf (Zl rfl hx6) ?_;conv=>arg 3;whnf
   refine Zi rfl rfl fun x7 hx7=>?_;conv=>arg 3;whnf
   refine Zf (Zl rfl hx7) ?_;conv=>arg 3;whnf
   refine Zf (ZaG rfl hx7) ?_;conv=>arg 3;whnf
   refine Zf (Zl rfl hx7) ?_;conv=>arg 3;whnf
   refine Zn (Z1 Ze s1.2.1 s1.1.toNat x6) ?_;conv=>arg 3;whnf
   refine Zi rfl rfl fun x8 hx8=>?_;conv=>arg 3;whnf
   refine Zf (Zl rfl hx8) ?_;conv=>arg 3;whnf
   refine Zn (Z1 Ze (List.set s1.2.1 s1.1.toNat x6) (w64 (b+(w64 (IntKind.u64.wrap (BitVec.ofInt IntKind.u64.bits (IntKind.u64.wrap (BitVec.ofInt IntKind.u64.bits (IntKind.u64.wrap (BitVec.ofInt IntKind.u64.bits (IntKind.u64.wrap (BitVec.ofInt IntKind.u64.bits s1.2.2 ^^^ BitVec.ofInt IntKind.u64.bits (IntKind.u64.wrap (s1.2.2*2 ^ 13))).toNat) ^^^ BitVec.ofInt IntKind.u64.bits (Int.fdiv (IntKind.u64.wrap (BitVec.ofInt IntKind.u64.bits s1.2.2 ^^^ BitVec.ofInt IntKind.u64.bits (IntKind.u64.wrap (s1.2.2*2 ^ 13))).toNat) (2 ^ 7))).toNat) ^^^ BitVec.ofInt IntKind.u64.bits (IntKind.u64.wrap ((IntKind.u64.wrap (BitVec.ofInt IntKind.u64.bits (IntKind.u64.wrap (BitVec.ofInt IntKind.u64.bits s1.2.2 ^^^ BitVec.ofInt IntKind.u64.bits (IntKind.u64.wrap (s1.2.2*2 ^ 13))).toNat) ^^^ BitVec.ofInt IntKind.u64.bits (Int.fdiv (IntKind.u64.wrap (BitVec.ofInt IntKind.u64.bits s1.2.2 ^^^ BitVec.ofInt IntKind.u64.bits (IntKind.u64.wrap (s1.2.2*2 ^ 13))).toNat) (2 ^ 7))).toNat)*2 ^ 17))).toNat) &&& BitVec.ofInt IntKind.u64.bits (IntKind.u64.wrap (x0-1))).toNat)))).toNat x7) ?_;conv=>arg 3;whnf
   exact Zd (ih _)
 ·exact Zh rfl
theorem ZeH {b:Int}{c:Int}{m0_0:(List Int)}:∀r,(Zbg b c m0_0)=some r→evW ctx 132 [(.sl 0 1),(.d (Ze b)),(.d (Ze c))] [(.arr 1 (List.map Ze m0_0))]=some ((ZeT b c m0_0) r):=by
 show ZS _ (fun r rhs=>rhs=some ((ZeT b c m0_0) r)) _
 unfold Zbg
 rw[Zd4 ctx 132 ZzG _ _ rfl rfl]
 conv=>arg 3;whnf
 refine Zg rfl ?_ ?_<;>conv=>arg 3;whnf
 ·refine Zp _ ZgZ rfl fun x0 hx0=>?_;conv=>arg 3;whnf
  refine ZR rfl ?_;conv=>arg 3;whnf
  refine Zc _ (ZgR _) fun r9 hr9=>?_;conv=>arg 3;whnf
  exact Zh rfl
 ·exact Zh rfl
def Zb (b:Int) (c:Int) (d:Int) (m0_0:(List Int)):(List Int)→V×Zq
  | r=>((.d (D.tup [])),[(.arr 1 (List.map Ze r))])
def ZfA (rc:Int→Int→Int→(List Int)→Option (List Int)):(List Int)→Ex×List V×Zq
  | r=>(.ret,[],[(.arr 1 (List.map Ze r))])
theorem Zh0 {rc:Int→Int→Int→(List Int)→Option (List Int)} (hrc:∀(b:Int) (c:Int) (d:Int) (m0_0:(List Int)) (r:(List Int)),rc b c d m0_0=some r→evW ctx 119 [(.sl 0 1),(.d (Ze b)),(.d (Ze c)),(.d (Ze d))] [(.arr 1 (List.map Ze m0_0))]=some ((Zb b c d m0_0) r)):∀(s0:Int×Int×Int×Bool×Bool×(List Int)) (r:(List Int)),lp (Zb8 rc) s0=some r→lpW ctx 1 [0,1,2,3,8,9] [] ZvG [(.sl 0 1),(.d (Ze s0.1)),(.d (Ze s0.2.1)),(.d (Ze s0.2.2.1)),(.d (D.bool s0.2.2.2.1)),(.d (D.bool s0.2.2.2.2.1))] [(.arr 1 (List.map Ze s0.2.2.2.2.2))]=some ((ZfA rc) r):=by
 refine ZaX (ZfA rc) ?_
 intro s0 rcl ih
 show ZS _ _ (lpW _ _ _ _ _ _ _)
 unfold Zb8
 rw[ZaY]
 rcases hb:s0.2.2.2.1 with _ | _
 ·refine ZoW ?_
  rcases hb:s0.2.2.2.2.1 with _ | _
  ·refine ZoW ?_;conv=>arg 3;whnf
   refine Zg rfl ?_ ?_<;>conv=>arg 3;whnf
   ·refine Zc _ Zb6 fun x170 hx170=>?_;conv=>arg 3;whnf
    exact Zh rfl
   ·refine Zg rfl ?_ ?_<;>conv=>arg 3;whnf
    ·refine Zc _ ZcF fun x171 hx171=>?_;conv=>arg 3;whnf
     exact Zh rfl
    ·refine Zc _ ZeH fun x172 hx172=>?_;conv=>arg 3;whnf
     refine Zc _ Zcf fun x173 hx173=>?_;conv=>arg 3;whnf
     refine Zg rfl ?_ ?_<;>conv=>arg 3;whnf
     ·refine Zc _ Zca fun x174 hx174=>?_;conv=>arg 3;whnf
      refine Zg rfl ?_ ?_<;>conv=>arg 3;whnf
      ·refine Zi rfl rfl fun x175 hx175=>?_;conv=>arg 3;whnf
       refine Zf (Zl rfl hx175) ?_;conv=>arg 3;whnf
       refine Zi rfl rfl fun x176 hx176=>?_;conv=>arg 3;whnf
       refine Zf (Zl rfl hx176) ?_;conv=>arg 3;whnf
       refine Zp _ Z4 rfl fun x177 hx177=>?_;conv=>arg 3;whnf
       refine Zg rfl ?_ ?_<;>conv=>arg 3;whnf
       ·refine Zc _ ZA fun x178 hx178=>?_
        clear hx178
        rcases x178 with x178 | x178
        ·conv=>arg 3;whnf
         refine Zbr rfl ?_;conv=>arg 3;whnf
         refine ZR rfl ?_;conv=>arg 3;whnf
         refine Zg rfl ?_ ?_<;>conv=>arg 3;whnf
         ·refine Zg rfl ?_ ?_<;>conv=>arg 3;whnf
          ·refine Zc (Zb s0.1 x178.1 (w64 (s0.2.2.1-1)) x178.2) (hrc s0.1 x178.1 (w64 (s0.2.2.1-1)) x178.2) fun x179 hx179=>?_;conv=>arg 3;whnf
           exact Zd (ih _)
          ·refine Zc (Zb s0.1 x178.1 (w64 (s0.2.2.1-1)) x178.2) (hrc s0.1 x178.1 (w64 (s0.2.2.1-1)) x178.2) fun x180 hx180=>?_;conv=>arg 3;whnf
           exact Zd (ih _)
         ·refine Zg rfl ?_ ?_<;>conv=>arg 3;whnf
          ·refine Zc (Zb (w64 (x178.1+1)) s0.2.1 (w64 (s0.2.2.1-1)) x178.2) (hrc (w64 (x178.1+1)) s0.2.1 (w64 (s0.2.2.1-1)) x178.2) fun x181 hx181=>?_;conv=>arg 3;whnf
           exact Zd (ih _)
          ·refine Zc (Zb (w64 (x178.1+1)) s0.2.1 (w64 (s0.2.2.1-1)) x178.2) (hrc (w64 (x178.1+1)) s0.2.1 (w64 (s0.2.2.1-1)) x178.2) fun x182 hx182=>?_;conv=>arg 3;whnf
           exact Zd (ih _)
        ·conv=>arg 3;whnf
         refine ZR rfl ?_;conv=>arg 3;whnf
         refine ZR rfl ?_;conv=>arg 3;whnf
         refine Zg rfl ?_ ?_<;>conv=>arg 3;whnf
         ·refine Zg rfl ?_ ?_<;>conv=>arg 3;whnf
          ·refine Zc (Zb s0.1 x178.1 (w64 (s0.2.2.1-1)) x178.2) (hrc s0.1 x178.1 (w64 (s0.2.2.1-1)) x178.2) fun x183 hx183=>?_;conv=>arg 3;whnf
           exact Zd (ih _)
          ·refine Zc (Zb s0.1 x178.1 (w64 (s0.2.2.1-1)) x178.2) (hrc s0.1 x178.1 (w64 (s0.2.2.1-1)) x178.2) fun x184 hx184=>?_;conv=>arg 3;whnf
           exact Zd (ih _)
         ·refine Zg rfl ?_ ?_<;>conv=>arg 3;whnf
          ·refine Zc (Zb (w64 (x178.1+1)) s0.2.1 (w64 (s0.2.2.1-1)) x178.2) (hrc (w64 (x178.1+1)) s0.2.1 (w64 (s0.2.2.1-1)) x178.2) fun x185 hx185=>?_;conv=>arg 3;whnf
           exact Zd (ih _)
          ·refine Zc (Zb (w64 (x178.1+1)) s0.2.1 (w64 (s0.2.2.1-1)) x178.2) (hrc (w64 (x178.1+1)) s0.2.1 (w64 (s0.2.2.1-1)) x178.2) fun x186 hx186=>?_;conv=>arg 3;whnf
           exact Zd (ih _)
       ·refine Zc _ Z8 fun x187 hx187=>?_;conv=>arg 3;whnf
        exact Zd (ih _)
      ·refine Zc _ ZA fun x188 hx188=>?_
       clear hx188
       rcases x188 with x188 | x188
       ·conv=>arg 3;whnf
        refine Zbr rfl ?_;conv=>arg 3;whnf
        refine ZR rfl ?_;conv=>arg 3;whnf
        refine Zg rfl ?_ ?_<;>conv=>arg 3;whnf
        ·refine Zg rfl ?_ ?_<;>conv=>arg 3;whnf
         ·refine Zc (Zb s0.1 x188.1 (w64 (s0.2.2.1-1)) x188.2) (hrc s0.1 x188.1 (w64 (s0.2.2.1-1)) x188.2) fun x189 hx189=>?_;conv=>arg 3;whnf
          exact Zd (ih _)
         ·refine Zc (Zb s0.1 x188.1 (w64 (s0.2.2.1-1)) x188.2) (hrc s0.1 x188.1 (w64 (s0.2.2.1-1)) x188.2) fun x190 hx190=>?_;conv=>arg 3;whnf
          exact Zd (ih _)
        ·refine Zg rfl ?_ ?_<;>conv=>arg 3;whnf
         ·refine Zc (Zb (w64 (x188.1+1)) s0.2.1 (w64 (s0.2.2.1-1)) x188.2) (hrc (w64 (x188.1+1)) s0.2.1 (w64 (s0.2.2.1-1)) x188.2) fun x191 hx191=>?_;conv=>arg 3;whnf
          exact Zd (ih _)
         ·refine Zc (Zb (w64 (x188.1+1)) s0.2.1 (w64 (s0.2.2.1-1)) x188.2) (hrc (w64 (x188.1+1)) s0.2.1 (w64 (s0.2.2.1-1)) x188.2) fun x192 hx192=>?_;conv=>arg 3;whnf
          exact Zd (ih _)
       ·conv=>arg 3;whnf
        refine ZR rfl ?_;conv=>arg 3;whnf
        refine ZR rfl ?_;conv=>arg 3;whnf
        refine Zg rfl ?_ ?_<;>conv=>arg 3;whnf
        ·refine Zg rfl ?_ ?_<;>conv=>arg 3;whnf
         ·refine Zc (Zb s0.1 x188.1 (w64 (s0.2.2.1-1)) x188.2) (hrc s0.1 x188.1 (w64 (s0.2.2.1-1)) x188.2) fun x193 hx193=>?_;conv=>arg 3;whnf
          exact Zd (ih _)
         ·refine Zc (Zb s0.1 x188.1 (w64 (s0.2.2.1-1)) x188.2) (hrc s0.1 x188.1 (w64 (s0.2.2.1-1)) x188.2) fun x194 hx194=>?_;conv=>arg 3;whnf
          exact Zd (ih _)
        ·refine Zg rfl ?_ ?_<;>conv=>arg 3;whnf
         ·refine Zc (Zb (w64 (x188.1+1)) s0.2.1 (w64 (s0.2.2.1-1)) x188.2) (hrc (w64 (x188.1+1)) s0.2.1 (w64 (s0.2.2.1-1)) x188.2) fun x195 hx195=>?_;conv=>arg 3;whnf
          exact Zd (ih _)
         ·refine Zc (Zb (w64 (x188.1+1)) s0.2.1 (w64 (s0.2.2.1-1)) x188.2) (hrc (w64 (x188.1+1)) s0.2.1 (w64 (s0.2.2.1-1)) x188.2) fun x196 hx196=>?_;conv=>arg 3;whnf
          exact Zd (ih _)
     ·refine Zg rfl ?_ ?_<;>conv=>arg 3;whnf
      ·refine Zi rfl rfl fun x197 hx197=>?_;conv=>arg 3;whnf
       refine Zf (Zl rfl hx197) ?_;conv=>arg 3;whnf
       refine Zi rfl rfl fun x198 hx198=>?_;conv=>arg 3;whnf
       refine Zf (Zl rfl hx198) ?_;conv=>arg 3;whnf
       refine Zp _ Z4 rfl fun x199 hx199=>?_;conv=>arg 3;whnf
       refine Zg rfl ?_ ?_<;>conv=>arg 3;whnf
       ·refine Zc _ ZA fun x200 hx200=>?_
        clear hx200
        rcases x200 with x200 | x200
        ·conv=>arg 3;whnf
         refine Zbr rfl ?_;conv=>arg 3;whnf
         refine ZR rfl ?_;conv=>arg 3;whnf
         refine Zg rfl ?_ ?_<;>conv=>arg 3;whnf
         ·refine Zg rfl ?_ ?_<;>conv=>arg 3;whnf
          ·refine Zc (Zb s0.1 x200.1 (w64 (s0.2.2.1-1)) x200.2) (hrc s0.1 x200.1 (w64 (s0.2.2.1-1)) x200.2) fun x201 hx201=>?_;conv=>arg 3;whnf
           exact Zd (ih _)
          ·refine Zc (Zb s0.1 x200.1 (w64 (s0.2.2.1-1)) x200.2) (hrc s0.1 x200.1 (w64 (s0.2.2.1-1)) x200.2) fun x202 hx202=>?_;conv=>arg 3;whnf
           exact Zd (ih _)
         ·refine Zg rfl ?_ ?_<;>conv=>arg 3;whnf
          ·refine Zc (Zb (w64 (x200.1+1)) s0.2.1 (w64 (s0.2.2.1-1)) x200.2) (hrc (w64 (x200.1+1)) s0.2.1 (w64 (s0.2.2.1-1)) x200.2) fun x203 hx203=>?_;conv=>arg 3;whnf
           exact Zd (ih _)
          ·refine Zc (Zb (w64 (x200.1+1)) s0.2.1 (w64 (s0.2.2.1-1)) x200.2) (hrc (w64 (x200.1+1)) s0.2.1 (w64 (s0.2.2.1-1)) x200.2) fun x204 hx204=>?_;conv=>arg 3;whnf
           exact Zd (ih _)
        ·conv=>arg 3;whnf
         refine ZR rfl ?_;conv=>arg 3;whnf
         refine ZR rfl ?_;conv=>arg 3;whnf
         refine Zg rfl ?_ ?_<;>conv=>arg 3;whnf
         ·refine Zg rfl ?_ ?_<;>conv=>arg 3;whnf
          ·refine Zc (Zb s0.1 x200.1 (w64 (s0.2.2.1-1)) x200.2) (hrc s0.1 x200.1 (w64 (s0.2.2.1-1)) x200.2) fun x205 hx205=>?_;conv=>arg 3;whnf
           exact Zd (ih _)
          ·refine Zc (Zb s0.1 x200.1 (w64 (s0.2.2.1-1)) x200.2) (hrc s0.1 x200.1 (w64 (s0.2.2.1-1)) x200.2) fun x206 hx206=>?_;conv=>arg 3;whnf
           exact Zd (ih _)
         ·refine Zg rfl ?_ ?_<;>conv=>arg 3;whnf
          ·refine Zc (Zb (w64 (x200.1+1)) s0.2.1 (w64 (s0.2.2.1-1)) x200.2) (hrc (w64 (x200.1+1)) s0.2.1 (w64 (s0.2.2.1-1)) x200.2) fun x207 hx207=>?_;conv=>arg 3;whnf
           exact Zd (ih _)
          ·refine Zc (Zb (w64 (x200.1+1)) s0.2.1 (w64 (s0.2.2.1-1)) x200.2) (hrc (w64 (x200.1+1)) s0.2.1 (w64 (s0.2.2.1-1)) x200.2) fun x208 hx208=>?_;conv=>arg 3;whnf
           exact Zd (ih _)
       ·refine Zc _ Z8 fun x209 hx209=>?_;conv=>arg 3;whnf
        exact Zd (ih _)
      ·refine Zc _ ZA fun x210 hx210=>?_
       clear hx210
       rcases x210 with x210 | x210
       ·conv=>arg 3;whnf
        refine Zbr rfl ?_;conv=>arg 3;whnf
        refine ZR rfl ?_;conv=>arg 3;whnf
        refine Zg rfl ?_ ?_<;>conv=>arg 3;whnf
        ·refine Zg rfl ?_ ?_<;>conv=>arg 3;whnf
         ·refine Zc (Zb s0.1 x210.1 (w64 (s0.2.2.1-1)) x210.2) (hrc s0.1 x210.1 (w64 (s0.2.2.1-1)) x210.2) fun x211 hx211=>?_;conv=>arg 3;whnf
          exact Zd (ih _)
         ·refine Zc (Zb s0.1 x210.1 (w64 (s0.2.2.1-1)) x210.2) (hrc s0.1 x210.1 (w64 (s0.2.2.1-1)) x210.2) fun x212 hx212=>?_;conv=>arg 3;whnf
          exact Zd (ih _)
        ·refine Zg rfl ?_ ?_<;>conv=>arg 3;whnf
         ·refine Zc (Zb (w64 (x210.1+1)) s0.2.1 (w64 (s0.2.2.1-1)) x210.2) (hrc (w64 (x210.1+1)) s0.2.1 (w64 (s0.2.2.1-1)) x210.2) fun x213 hx213=>?_;conv=>arg 3;whnf
          exact Zd (ih _)
         ·refine Zc (Zb (w64 (x210.1+1)) s0.2.1 (w64 (s0.2.2.1-1)) x210.2) (hrc (w64 (x210.1+1)) s0.2.1 (w64 (s0.2.2.1-1)) x210.2) fun x214 hx214=>?_;conv=>arg 3;whnf
          exact Zd (ih _)
       ·conv=>arg 3;whnf
        refine ZR rfl ?_;conv=>arg 3;whnf
        refine ZR rfl ?_;conv=>arg 3;whnf
        refine Zg rfl ?_ ?_<;>conv=>arg 3;whnf
        ·refine Zg rfl ?_ ?_<;>conv=>arg 3;whnf
         ·refine Zc (Zb s0.1 x210.1 (w64 (s0.2.2.1-1)) x210.2) (hrc s0.1 x210.1 (w64 (s0.2.2.1-1)) x210.2) fun x215 hx215=>?_;conv=>arg 3;whnf
          exact Zd (ih _)
         ·refine Zc (Zb s0.1 x210.1 (w64 (s0.2.2.1-1)) x210.2) (hrc s0.1 x210.1 (w64 (s0.2.2.1-1)) x210.2) fun x216 hx216=>?_;conv=>arg 3;whnf
          exact Zd (ih _)
        ·refine Zg rfl ?_ ?_<;>conv=>arg 3;whnf
         ·refine Zc (Zb (w64 (x210.1+1)) s0.2.1 (w64 (s0.2.2.1-1)) x210.2) (hrc (w64 (x210.1+1)) s0.2.1 (w64 (s0.2.2.1-1)) x210.2) fun x217 hx217=>?_;conv=>arg 3;whnf
          exact Zd (ih _)
         ·refine Zc (Zb (w64 (x210.1+1)) s0.2.1 (w64 (s0.2.2.1-1)) x210.2) (hrc (w64 (x210.1+1)) s0.2.1 (w64 (s0.2.2.1-1)) x210.2) fun x218 hx218=>?_;conv=>arg 3;whnf
          exact Zd (ih _)
  ·refine Zox ?_;conv=>arg 3;whnf
   refine Zg rfl ?_ ?_<;>conv=>arg 3;whnf
   ·refine Zc _ Zb6 fun x121 hx121=>?_;conv=>arg 3;whnf
    exact Zh rfl
   ·refine Zg rfl ?_ ?_<;>conv=>arg 3;whnf
    ·refine Zc _ ZcF fun x122 hx122=>?_;conv=>arg 3;whnf
     exact Zh rfl
    ·refine Zc _ ZeH fun x123 hx123=>?_;conv=>arg 3;whnf
     refine Zc _ Zcf fun x124 hx124=>?_;conv=>arg 3;whnf
     refine Zg rfl ?_ ?_<;>conv=>arg 3;whnf
     ·refine Zc _ Zca fun x125 hx125=>?_;conv=>arg 3;whnf
      refine Zg rfl ?_ ?_<;>conv=>arg 3;whnf
      ·refine Zi rfl rfl fun x126 hx126=>?_;conv=>arg 3;whnf
       refine Zf (Zl rfl hx126) ?_;conv=>arg 3;whnf
       refine Zi rfl rfl fun x127 hx127=>?_;conv=>arg 3;whnf
       refine Zf (Zl rfl hx127) ?_;conv=>arg 3;whnf
       refine Zp _ Z4 rfl fun x128 hx128=>?_;conv=>arg 3;whnf
       refine Zg rfl ?_ ?_<;>conv=>arg 3;whnf
       ·refine Zc _ ZA fun x129 hx129=>?_
        clear hx129
        rcases x129 with x129 | x129
        ·conv=>arg 3;whnf
         refine Zbr rfl ?_;conv=>arg 3;whnf
         refine ZR rfl ?_;conv=>arg 3;whnf
         refine Zg rfl ?_ ?_<;>conv=>arg 3;whnf
         ·refine Zg rfl ?_ ?_<;>conv=>arg 3;whnf
          ·refine Zc (Zb s0.1 x129.1 (w64 (s0.2.2.1-1)) x129.2) (hrc s0.1 x129.1 (w64 (s0.2.2.1-1)) x129.2) fun x130 hx130=>?_;conv=>arg 3;whnf
           exact Zd (ih _)
          ·refine Zc (Zb s0.1 x129.1 (w64 (s0.2.2.1-1)) x129.2) (hrc s0.1 x129.1 (w64 (s0.2.2.1-1)) x129.2) fun x131 hx131=>?_;conv=>arg 3;whnf
           exact Zd (ih _)
         ·refine Zg rfl ?_ ?_<;>conv=>arg 3;whnf
          ·refine Zc (Zb (w64 (x129.1+1)) s0.2.1 (w64 (s0.2.2.1-1)) x129.2) (hrc (w64 (x129.1+1)) s0.2.1 (w64 (s0.2.2.1-1)) x129.2) fun x132 hx132=>?_;conv=>arg 3;whnf
           exact Zd (ih _)
          ·refine Zc (Zb (w64 (x129.1+1)) s0.2.1 (w64 (s0.2.2.1-1)) x129.2) (hrc (w64 (x129.1+1)) s0.2.1 (w64 (s0.2.2.1-1)) x129.2) fun x133 hx133=>?_;conv=>arg 3;whnf
           exact Zd (ih _)
        ·conv=>arg 3;whnf
         refine ZR rfl ?_;conv=>arg 3;whnf
         refine ZR rfl ?_;conv=>arg 3;whnf
         refine Zg rfl ?_ ?_<;>conv=>arg 3;whnf
         ·refine Zg rfl ?_ ?_<;>conv=>arg 3;whnf
          ·refine Zc (Zb s0.1 x129.1 (w64 (s0.2.2.1-1)) x129.2) (hrc s0.1 x129.1 (w64 (s0.2.2.1-1)) x129.2) fun x134 hx134=>?_;conv=>arg 3;whnf
           exact Zd (ih _)
          ·refine Zc (Zb s0.1 x129.1 (w64 (s0.2.2.1-1)) x129.2) (hrc s0.1 x129.1 (w64 (s0.2.2.1-1)) x129.2) fun x135 hx135=>?_;conv=>arg 3;whnf
           exact Zd (ih _)
         ·refine Zg rfl ?_ ?_<;>conv=>arg 3;whnf
          ·refine Zc (Zb (w64 (x129.1+1)) s0.2.1 (w64 (s0.2.2.1-1)) x129.2) (hrc (w64 (x129.1+1)) s0.2.1 (w64 (s0.2.2.1-1)) x129.2) fun x136 hx136=>?_;conv=>arg 3;whnf
           exact Zd (ih _)
          ·refine Zc (Zb (w64 (x129.1+1)) s0.2.1 (w64 (s0.2.2.1-1)) x129.2) (hrc (w64 (x129.1+1)) s0.2.1 (w64 (s0.2.2.1-1)) x129.2) fun x137 hx137=>?_;conv=>arg 3;whnf
           exact Zd (ih _)
       ·refine Zc _ Z8 fun x138 hx138=>?_;conv=>arg 3;whnf
        exact Zd (ih _)
      ·refine Zc _ ZA fun x139 hx139=>?_
       clear hx139
       rcases x139 with x139 | x139
       ·conv=>arg 3;whnf
        refine Zbr rfl ?_;conv=>arg 3;whnf
        refine ZR rfl ?_;conv=>arg 3;whnf
        refine Zg rfl ?_ ?_<;>conv=>arg 3;whnf
        ·refine Zg rfl ?_ ?_<;>conv=>arg 3;whnf
         ·refine Zc (Zb s0.1 x139.1 (w64 (s0.2.2.1-1)) x139.2) (hrc s0.1 x139.1 (w64 (s0.2.2.1-1)) x139.2) fun x140 hx140=>?_;conv=>arg 3;whnf
          exact Zd (ih _)
         ·refine Zc (Zb s0.1 x139.1 (w64 (s0.2.2.1-1)) x139.2) (hrc s0.1 x139.1 (w64 (s0.2.2.1-1)) x139.2) fun x141 hx141=>?_;conv=>arg 3;whnf
          exact Zd (ih _)
        ·refine Zg rfl ?_ ?_<;>conv=>arg 3;whnf
         ·refine Zc (Zb (w64 (x139.1+1)) s0.2.1 (w64 (s0.2.2.1-1)) x139.2) (hrc (w64 (x139.1+1)) s0.2.1 (w64 (s0.2.2.1-1)) x139.2) fun x142 hx142=>?_;conv=>arg 3;whnf
          exact Zd (ih _)
         ·refine Zc (Zb (w64 (x139.1+1)) s0.2.1 (w64 (s0.2.2.1-1)) x139.2) (hrc (w64 (x139.1+1)) s0.2.1 (w64 (s0.2.2.1-1)) x139.2) fun x143 hx143=>?_;conv=>arg 3;whnf
          exact Zd (ih _)
       ·conv=>arg 3;whnf
        refine ZR rfl ?_;conv=>arg 3;whnf
        refine ZR rfl ?_;conv=>arg 3;whnf
        refine Zg rfl ?_ ?_<;>conv=>arg 3;whnf
        ·refine Zg rfl ?_ ?_<;>conv=>arg 3;whnf
         ·refine Zc (Zb s0.1 x139.1 (w64 (s0.2.2.1-1)) x139.2) (hrc s0.1 x139.1 (w64 (s0.2.2.1-1)) x139.2) fun x144 hx144=>?_;conv=>arg 3;whnf
          exact Zd (ih _)
         ·refine Zc (Zb s0.1 x139.1 (w64 (s0.2.2.1-1)) x139.2) (hrc s0.1 x139.1 (w64 (s0.2.2.1-1)) x139.2) fun x145 hx145=>?_;conv=>arg 3;whnf
          exact Zd (ih _)
        ·refine Zg rfl ?_ ?_<;>conv=>arg 3;whnf
         ·refine Zc (Zb (w64 (x139.1+1)) s0.2.1 (w64 (s0.2.2.1-1)) x139.2) (hrc (w64 (x139.1+1)) s0.2.1 (w64 (s0.2.2.1-1)) x139.2) fun x146 hx146=>?_;conv=>arg 3;whnf
          exact Zd (ih _)
         ·refine Zc (Zb (w64 (x139.1+1)) s0.2.1 (w64 (s0.2.2.1-1)) x139.2) (hrc (w64 (x139.1+1)) s0.2.1 (w64 (s0.2.2.1-1)) x139.2) fun x147 hx147=>?_;conv=>arg 3;whnf
          exact Zd (ih _)
     ·refine Zg rfl ?_ ?_<;>conv=>arg 3;whnf
      ·refine Zi rfl rfl fun x148 hx148=>?_;conv=>arg 3;whnf
       refine Zf (Zl rfl hx148) ?_;conv=>arg 3;whnf
       refine Zi rfl rfl fun x149 hx149=>?_;conv=>arg 3;whnf
       refine Zf (Zl rfl hx149) ?_;conv=>arg 3;whnf
       refine Zp _ Z4 rfl fun x150 hx150=>?_;conv=>arg 3;whnf
       refine Zg rfl ?_ ?_<;>conv=>arg 3;whnf
       ·refine Zc _ ZA fun x151 hx151=>?_
        clear hx151
        rcases x151 with x151 | x151
        ·conv=>arg 3;whnf
         refine Zbr rfl ?_;conv=>arg 3;whnf
         refine ZR rfl ?_;conv=>arg 3;whnf
         refine Zg rfl ?_ ?_<;>conv=>arg 3;whnf
         ·refine Zg rfl ?_ ?_<;>conv=>arg 3;whnf
          ·refine Zc (Zb s0.1 x151.1 (w64 (s0.2.2.1-1)) x151.2) (hrc s0.1 x151.1 (w64 (s0.2.2.1-1)) x151.2) fun x152 hx152=>?_;conv=>arg 3;whnf
           exact Zd (ih _)
          ·refine Zc (Zb s0.1 x151.1 (w64 (s0.2.2.1-1)) x151.2) (hrc s0.1 x151.1 (w64 (s0.2.2.1-1)) x151.2) fun x153 hx153=>?_;conv=>arg 3;whnf
           exact Zd (ih _)
         ·refine Zg rfl ?_ ?_<;>conv=>arg 3;whnf
          ·refine Zc (Zb (w64 (x151.1+1)) s0.2.1 (w64 (s0.2.2.1-1)) x151.2) (hrc (w64 (x151.1+1)) s0.2.1 (w64 (s0.2.2.1-1)) x151.2) fun x154 hx154=>?_;conv=>arg 3;whnf
           exact Zd (ih _)
          ·refine Zc (Zb (w64 (x151.1+1)) s0.2.1 (w64 (s0.2.2.1-1)) x151.2) (hrc (w64 (x151.1+1)) s0.2.1 (w64 (s0.2.2.1-1)) x151.2) fun x155 hx155=>?_;conv=>arg 3;whnf
           exact Zd (ih _)
        ·conv=>arg 3;whnf
         refine ZR rfl ?_;conv=>arg 3;whnf
         refine ZR rfl ?_;conv=>arg 3;whnf
         refine Zg rfl ?_ ?_<;>conv=>arg 3;whnf
         ·refine Zg rfl ?_ ?_<;>conv=>arg 3;whnf
          ·refine Zc (Zb s0.1 x151.1 (w64 (s0.2.2.1-1)) x151.2) (hrc s0.1 x151.1 (w64 (s0.2.2.1-1)) x151.2) fun x156 hx156=>?_;conv=>arg 3;whnf
           exact Zd (ih _)
          ·refine Zc (Zb s0.1 x151.1 (w64 (s0.2.2.1-1)) x151.2) (hrc s0.1 x151.1 (w64 (s0.2.2.1-1)) x151.2) fun x157 hx157=>?_;conv=>arg 3;whnf
           exact Zd (ih _)
         ·refine Zg rfl ?_ ?_<;>conv=>arg 3;whnf
          ·refine Zc (Zb (w64 (x151.1+1)) s0.2.1 (w64 (s0.2.2.1-1)) x151.2) (hrc (w64 (x151.1+1)) s0.2.1 (w64 (s0.2.2.1-1)) x151.2) fun x158 hx158=>?_;conv=>arg 3;whnf
           exact Zd (ih _)
          ·refine Zc (Zb (w64 (x151.1+1)) s0.2.1 (w64 (s0.2.2.1-1)) x151.2) (hrc (w64 (x151.1+1)) s0.2.1 (w64 (s0.2.2.1-1)) x151.2) fun x159 hx159=>?_;conv=>arg 3;whnf
           exact Zd (ih _)
       ·refine Zc _ Z8 fun x160 hx160=>?_;conv=>arg 3;whnf
        exact Zd (ih _)
      ·refine Zc _ ZA fun x161 hx161=>?_
       clear hx161
       rcases x161 with x161 | x161
       ·conv=>arg 3;whnf
        refine Zbr rfl ?_;conv=>arg 3;whnf
        refine ZR rfl ?_;conv=>arg 3;whnf
        refine Zg rfl ?_ ?_<;>conv=>arg 3;whnf
        ·refine Zg rfl ?_ ?_<;>conv=>arg 3;whnf
         ·refine Zc (Zb s0.1 x161.1 (w64 (s0.2.2.1-1)) x161.2) (hrc s0.1 x161.1 (w64 (s0.2.2.1-1)) x161.2) fun x162 hx162=>?_;conv=>arg 3;whnf
          exact Zd (ih _)
         ·refine Zc (Zb s0.1 x161.1 (w64 (s0.2.2.1-1)) x161.2) (hrc s0.1 x161.1 (w64 (s0.2.2.1-1)) x161.2) fun x163 hx163=>?_;conv=>arg 3;whnf
          exact Zd (ih _)
        ·refine Zg rfl ?_ ?_<;>conv=>arg 3;whnf
         ·refine Zc (Zb (w64 (x161.1+1)) s0.2.1 (w64 (s0.2.2.1-1)) x161.2) (hrc (w64 (x161.1+1)) s0.2.1 (w64 (s0.2.2.1-1)) x161.2) fun x164 hx164=>?_;conv=>arg 3;whnf
          exact Zd (ih _)
         ·refine Zc (Zb (w64 (x161.1+1)) s0.2.1 (w64 (s0.2.2.1-1)) x161.2) (hrc (w64 (x161.1+1)) s0.2.1 (w64 (s0.2.2.1-1)) x161.2) fun x165 hx165=>?_;conv=>arg 3;whnf
          exact Zd (ih _)
       ·conv=>arg 3;whnf
        refine ZR rfl ?_;conv=>arg 3;whnf
        refine ZR rfl ?_;conv=>arg 3;whnf
        refine Zg rfl ?_ ?_<;>conv=>arg 3;whnf
        ·refine Zg rfl ?_ ?_<;>conv=>arg 3;whnf
         ·refine Zc (Zb s0.1 x161.1 (w64 (s0.2.2.1-1)) x161.2) (hrc s0.1 x161.1 (w64 (s0.2.2.1-1)) x161.2) fun x166 hx166=>?_;conv=>arg 3;whnf
          exact Zd (ih _)
         ·refine Zc (Zb s0.1 x161.1 (w64 (s0.2.2.1-1)) x161.2) (hrc s0.1 x161.1 (w64 (s0.2.2.1-1)) x161.2) fun x167 hx167=>?_;conv=>arg 3;whnf
          exact Zd (ih _)
        ·refine Zg rfl ?_ ?_<;>conv=>arg 3;whnf
         ·refine Zc (Zb (w64 (x161.1+1)) s0.2.1 (w64 (s0.2.2.1-1)) x161.2) (hrc (w64 (x161.1+1)) s0.2.1 (w64 (s0.2.2.1-1)) x161.2) fun x168 hx168=>?_;conv=>arg 3;whnf
          exact Zd (ih _)
         ·refine Zc (Zb (w64 (x161.1+1)) s0.2.1 (w64 (s0.2.2.1-1)) x161.2) (hrc (w64 (x161.1+1)) s0.2.1 (w64 (s0.2.2.1-1)) x161.2) fun x169 hx169=>?_;conv=>arg 3;whnf
          exact Zd (ih _)
 ·refine Zox ?_
  rcases hb:s0.2.2.2.2.1 with _ | _
  ·refine ZoW ?_;conv=>arg 3;whnf
   refine Zg rfl ?_ ?_<;>conv=>arg 3;whnf
   ·refine Zc _ Zb6 fun x73 hx73=>?_;conv=>arg 3;whnf
    exact Zh rfl
   ·refine Zg rfl ?_ ?_<;>conv=>arg 3;whnf
    ·refine Zc _ ZcF fun x74 hx74=>?_;conv=>arg 3;whnf
     exact Zh rfl
    ·refine Zc _ Zcf fun x75 hx75=>?_;conv=>arg 3;whnf
     refine Zg rfl ?_ ?_<;>conv=>arg 3;whnf
     ·refine Zc _ Zca fun x76 hx76=>?_;conv=>arg 3;whnf
      refine Zg rfl ?_ ?_<;>conv=>arg 3;whnf
      ·refine Zi rfl rfl fun x77 hx77=>?_;conv=>arg 3;whnf
       refine Zf (Zl rfl hx77) ?_;conv=>arg 3;whnf
       refine Zi rfl rfl fun x78 hx78=>?_;conv=>arg 3;whnf
       refine Zf (Zl rfl hx78) ?_;conv=>arg 3;whnf
       refine Zp _ Z4 rfl fun x79 hx79=>?_;conv=>arg 3;whnf
       refine Zg rfl ?_ ?_<;>conv=>arg 3;whnf
       ·refine Zc _ ZA fun x80 hx80=>?_
        clear hx80
        rcases x80 with x80 | x80
        ·conv=>arg 3;whnf
         refine Zbr rfl ?_;conv=>arg 3;whnf
         refine ZR rfl ?_;conv=>arg 3;whnf
         refine Zg rfl ?_ ?_<;>conv=>arg 3;whnf
         ·refine Zg rfl ?_ ?_<;>conv=>arg 3;whnf
          ·refine Zc (Zb s0.1 x80.1 s0.2.2.1 x80.2) (hrc s0.1 x80.1 s0.2.2.1 x80.2) fun x81 hx81=>?_;conv=>arg 3;whnf
           exact Zd (ih _)
          ·refine Zc (Zb s0.1 x80.1 s0.2.2.1 x80.2) (hrc s0.1 x80.1 s0.2.2.1 x80.2) fun x82 hx82=>?_;conv=>arg 3;whnf
           exact Zd (ih _)
         ·refine Zg rfl ?_ ?_<;>conv=>arg 3;whnf
          ·refine Zc (Zb (w64 (x80.1+1)) s0.2.1 s0.2.2.1 x80.2) (hrc (w64 (x80.1+1)) s0.2.1 s0.2.2.1 x80.2) fun x83 hx83=>?_;conv=>arg 3;whnf
           exact Zd (ih _)
          ·refine Zc (Zb (w64 (x80.1+1)) s0.2.1 s0.2.2.1 x80.2) (hrc (w64 (x80.1+1)) s0.2.1 s0.2.2.1 x80.2) fun x84 hx84=>?_;conv=>arg 3;whnf
           exact Zd (ih _)
        ·conv=>arg 3;whnf
         refine ZR rfl ?_;conv=>arg 3;whnf
         refine ZR rfl ?_;conv=>arg 3;whnf
         refine Zg rfl ?_ ?_<;>conv=>arg 3;whnf
         ·refine Zg rfl ?_ ?_<;>conv=>arg 3;whnf
          ·refine Zc (Zb s0.1 x80.1 s0.2.2.1 x80.2) (hrc s0.1 x80.1 s0.2.2.1 x80.2) fun x85 hx85=>?_;conv=>arg 3;whnf
           exact Zd (ih _)
          ·refine Zc (Zb s0.1 x80.1 s0.2.2.1 x80.2) (hrc s0.1 x80.1 s0.2.2.1 x80.2) fun x86 hx86=>?_;conv=>arg 3;whnf
           exact Zd (ih _)
         ·refine Zg rfl ?_ ?_<;>conv=>arg 3;whnf
          ·refine Zc (Zb (w64 (x80.1+1)) s0.2.1 s0.2.2.1 x80.2) (hrc (w64 (x80.1+1)) s0.2.1 s0.2.2.1 x80.2) fun x87 hx87=>?_;conv=>arg 3;whnf
           exact Zd (ih _)
          ·refine Zc (Zb (w64 (x80.1+1)) s0.2.1 s0.2.2.1 x80.2) (hrc (w64 (x80.1+1)) s0.2.1 s0.2.2.1 x80.2) fun x88 hx88=>?_;conv=>arg 3;whnf
           exact Zd (ih _)
       ·refine Zc _ Z8 fun x89 hx89=>?_;conv=>arg 3;whnf
        exact Zd (ih _)
      ·refine Zc _ ZA fun x90 hx90=>?_
       clear hx90
       rcases x90 with x90 | x90
       ·conv=>arg 3;whnf
        refine Zbr rfl ?_;conv=>arg 3;whnf
        refine ZR rfl ?_;conv=>arg 3;whnf
        refine Zg rfl ?_ ?_<;>conv=>arg 3;whnf
        ·refine Zg rfl ?_ ?_<;>conv=>arg 3;whnf
         ·refine Zc (Zb s0.1 x90.1 s0.2.2.1 x90.2) (hrc s0.1 x90.1 s0.2.2.1 x90.2) fun x91 hx91=>?_;conv=>arg 3;whnf
          exact Zd (ih _)
         ·refine Zc (Zb s0.1 x90.1 s0.2.2.1 x90.2) (hrc s0.1 x90.1 s0.2.2.1 x90.2) fun x92 hx92=>?_;conv=>arg 3;whnf
          exact Zd (ih _)
        ·refine Zg rfl ?_ ?_<;>conv=>arg 3;whnf
         ·refine Zc (Zb (w64 (x90.1+1)) s0.2.1 s0.2.2.1 x90.2) (hrc (w64 (x90.1+1)) s0.2.1 s0.2.2.1 x90.2) fun x93 hx93=>?_;conv=>arg 3;whnf
          exact Zd (ih _)
         ·refine Zc (Zb (w64 (x90.1+1)) s0.2.1 s0.2.2.1 x90.2) (hrc (w64 (x90.1+1)) s0.2.1 s0.2.2.1 x90.2) fun x94 hx94=>?_;conv=>arg 3;whnf
          exact Zd (ih _)
       ·conv=>arg 3;whnf
        refine ZR rfl ?_;conv=>arg 3;whnf
        refine ZR rfl ?_;conv=>arg 3;whnf
        refine Zg rfl ?_ ?_<;>conv=>arg 3;whnf
        ·refine Zg rfl ?_ ?_<;>conv=>arg 3;whnf
         ·refine Zc (Zb s0.1 x90.1 s0.2.2.1 x90.2) (hrc s0.1 x90.1 s0.2.2.1 x90.2) fun x95 hx95=>?_;conv=>arg 3;whnf
          exact Zd (ih _)
         ·refine Zc (Zb s0.1 x90.1 s0.2.2.1 x90.2) (hrc s0.1 x90.1 s0.2.2.1 x90.2) fun x96 hx96=>?_;conv=>arg 3;whnf
          exact Zd (ih _)
        ·refine Zg rfl ?_ ?_<;>conv=>arg 3;whnf
         ·refine Zc (Zb (w64 (x90.1+1)) s0.2.1 s0.2.2.1 x90.2) (hrc (w64 (x90.1+1)) s0.2.1 s0.2.2.1 x90.2) fun x97 hx97=>?_;conv=>arg 3;whnf
          exact Zd (ih _)
         ·refine Zc (Zb (w64 (x90.1+1)) s0.2.1 s0.2.2.1 x90.2) (hrc (w64 (x90.1+1)) s0.2.1 s0.2.2.1 x90.2) fun x98 hx98=>?_;conv=>arg 3;whnf
          exact Zd (ih _)
     ·refine Zg rfl ?_ ?_<;>conv=>arg 3;whnf
      ·refine Zi rfl rfl fun x99 hx99=>?_;conv=>arg 3;whnf
       refine Zf (Zl rfl hx99) ?_;conv=>arg 3;whnf
       refine Zi rfl rfl fun x100 hx100=>?_;conv=>arg 3;whnf
       refine Zf (Zl rfl hx100) ?_;conv=>arg 3;whnf
       refine Zp _ Z4 rfl fun x101 hx101=>?_;conv=>arg 3;whnf
       refine Zg rfl ?_ ?_<;>conv=>arg 3;whnf
       ·refine Zc _ ZA fun x102 hx102=>?_
        clear hx102
        rcases x102 with x102 | x102
        ·conv=>arg 3;whnf
         refine Zbr rfl ?_;conv=>arg 3;whnf
         refine ZR rfl ?_;conv=>arg 3;whnf
         refine Zg rfl ?_ ?_<;>conv=>arg 3;whnf
         ·refine Zg rfl ?_ ?_<;>conv=>arg 3;whnf
          ·refine Zc (Zb s0.1 x102.1 s0.2.2.1 x102.2) (hrc s0.1 x102.1 s0.2.2.1 x102.2) fun x103 hx103=>?_;conv=>arg 3;whnf
           exact Zd (ih _)
          ·refine Zc (Zb s0.1 x102.1 s0.2.2.1 x102.2) (hrc s0.1 x102.1 s0.2.2.1 x102.2) fun x104 hx104=>?_;conv=>arg 3;whnf
           exact Zd (ih _)
         ·refine Zg rfl ?_ ?_<;>conv=>arg 3;whnf
          ·refine Zc (Zb (w64 (x102.1+1)) s0.2.1 s0.2.2.1 x102.2) (hrc (w64 (x102.1+1)) s0.2.1 s0.2.2.1 x102.2) fun x105 hx105=>?_;conv=>arg 3;whnf
           exact Zd (ih _)
          ·refine Zc (Zb (w64 (x102.1+1)) s0.2.1 s0.2.2.1 x102.2) (hrc (w64 (x102.1+1)) s0.2.1 s0.2.2.1 x102.2) fun x106 hx106=>?_;conv=>arg 3;whnf
           exact Zd (ih _)
        ·conv=>arg 3;whnf
         refine ZR rfl ?_;conv=>arg 3;whnf
         refine ZR rfl ?_;conv=>arg 3;whnf
         refine Zg rfl ?_ ?_<;>conv=>arg 3;whnf
         ·refine Zg rfl ?_ ?_<;>conv=>arg 3;whnf
          ·refine Zc (Zb s0.1 x102.1 s0.2.2.1 x102.2) (hrc s0.1 x102.1 s0.2.2.1 x102.2) fun x107 hx107=>?_;conv=>arg 3;whnf
           exact Zd (ih _)
          ·refine Zc (Zb s0.1 x102.1 s0.2.2.1 x102.2) (hrc s0.1 x102.1 s0.2.2.1 x102.2) fun x108 hx108=>?_;conv=>arg 3;whnf
           exact Zd (ih _)
         ·refine Zg rfl ?_ ?_<;>conv=>arg 3;whnf
          ·refine Zc (Zb (w64 (x102.1+1)) s0.2.1 s0.2.2.1 x102.2) (hrc (w64 (x102.1+1)) s0.2.1 s0.2.2.1 x102.2) fun x109 hx109=>?_;conv=>arg 3;whnf
           exact Zd (ih _)
          ·refine Zc (Zb (w64 (x102.1+1)) s0.2.1 s0.2.2.1 x102.2) (hrc (w64 (x102.1+1)) s0.2.1 s0.2.2.1 x102.2) fun x110 hx110=>?_;conv=>arg 3;whnf
           exact Zd (ih _)
       ·refine Zc _ Z8 fun x111 hx111=>?_;conv=>arg 3;whnf
        exact Zd (ih _)
      ·refine Zc _ ZA fun x112 hx112=>?_
       clear hx112
       rcases x112 with x112 | x112
       ·conv=>arg 3;whnf
        refine Zbr rfl ?_;conv=>arg 3;whnf
        refine ZR rfl ?_;conv=>arg 3;whnf
        refine Zg rfl ?_ ?_<;>conv=>arg 3;whnf
        ·refine Zg rfl ?_ ?_<;>conv=>arg 3;whnf
         ·refine Zc (Zb s0.1 x112.1 s0.2.2.1 x112.2) (hrc s0.1 x112.1 s0.2.2.1 x112.2) fun x113 hx113=>?_;conv=>arg 3;whnf
          exact Zd (ih _)
         ·refine Zc (Zb s0.1 x112.1 s0.2.2.1 x112.2) (hrc s0.1 x112.1 s0.2.2.1 x112.2) fun x114 hx114=>?_;conv=>arg 3;whnf
          exact Zd (ih _)
        ·refine Zg rfl ?_ ?_<;>conv=>arg 3;whnf
         ·refine Zc (Zb (w64 (x112.1+1)) s0.2.1 s0.2.2.1 x112.2) (hrc (w64 (x112.1+1)) s0.2.1 s0.2.2.1 x112.2) fun x115 hx115=>?_;conv=>arg 3;whnf
          exact Zd (ih _)
         ·refine Zc (Zb (w64 (x112.1+1)) s0.2.1 s0.2.2.1 x112.2) (hrc (w64 (x112.1+1)) s0.2.1 s0.2.2.1 x112.2) fun x116 hx116=>?_;conv=>arg 3;whnf
          exact Zd (ih _)
       ·conv=>arg 3;whnf
        refine ZR rfl ?_;conv=>arg 3;whnf
        refine ZR rfl ?_;conv=>arg 3;whnf
        refine Zg rfl ?_ ?_<;>conv=>arg 3;whnf
        ·refine Zg rfl ?_ ?_<;>conv=>arg 3;whnf
         ·refine Zc (Zb s0.1 x112.1 s0.2.2.1 x112.2) (hrc s0.1 x112.1 s0.2.2.1 x112.2) fun x117 hx117=>?_;conv=>arg 3;whnf
          exact Zd (ih _)
         ·refine Zc (Zb s0.1 x112.1 s0.2.2.1 x112.2) (hrc s0.1 x112.1 s0.2.2.1 x112.2) fun x118 hx118=>?_;conv=>arg 3;whnf
          exact Zd (ih _)
        ·refine Zg rfl ?_ ?_<;>conv=>arg 3;whnf
         ·refine Zc (Zb (w64 (x112.1+1)) s0.2.1 s0.2.2.1 x112.2) (hrc (w64 (x112.1+1)) s0.2.1 s0.2.2.1 x112.2) fun x119 hx119=>?_;conv=>arg 3;whnf
          exact Zd (ih _)
         ·refine Zc (Zb (w64 (x112.1+1)) s0.2.1 s0.2.2.1 x112.2) (hrc (w64 (x112.1+1)) s0.2.1 s0.2.2.1 x112.2) fun x120 hx120=>?_;conv=>arg 3;whnf
          exact Zd (ih _)
  ·refine Zox ?_;conv=>arg 3;whnf
   refine Zg rfl ?_ ?_<;>conv=>arg 3;whnf
   ·refine Zc _ Zb6 fun x1 hx1=>?_;conv=>arg 3;whnf
    exact Zh rfl
   ·refine Zg rfl ?_ ?_<;>conv=>arg 3;whnf
    ·refine Zc _ ZcF fun x2 hx2=>?_;conv=>arg 3;whnf
     exact Zh rfl
    ·refine Zc _ Zcf fun x3 hx3=>?_;conv=>arg 3;whnf
     refine Zg rfl ?_ ?_<;>conv=>arg 3;whnf
     ·refine Zc _ Zca fun x4 hx4=>?_;conv=>arg 3;whnf
      refine Zbr rfl ?_;conv=>arg 3;whnf
      refine Zc _ ZdA fun x5 hx5=>?_
      clear hx5
      rcases x5 with x5 | x5
      ·conv=>arg 3;whnf
       exact Zh rfl
      ·conv=>arg 3;whnf
       refine Zg rfl ?_ ?_<;>conv=>arg 3;whnf
       ·refine Zi rfl rfl fun x6 hx6=>?_;conv=>arg 3;whnf
        refine Zf (Zl rfl hx6) ?_;conv=>arg 3;whnf
        refine Zi rfl rfl fun x7 hx7=>?_;conv=>arg 3;whnf
        refine Zf (Zl rfl hx7) ?_;conv=>arg 3;whnf
        refine Zp _ Z4 rfl fun x8 hx8=>?_;conv=>arg 3;whnf
        refine Zg rfl ?_ ?_<;>conv=>arg 3;whnf
        ·refine Zc _ ZA fun x9 hx9=>?_
         clear hx9
         rcases x9 with x9 | x9
         ·conv=>arg 3;whnf
          refine Zbr rfl ?_;conv=>arg 3;whnf
          refine ZR rfl ?_;conv=>arg 3;whnf
          refine Zg rfl ?_ ?_<;>conv=>arg 3;whnf
          ·refine Zg rfl ?_ ?_<;>conv=>arg 3;whnf
           ·refine Zc (Zb s0.1 x9.1 s0.2.2.1 x9.2) (hrc s0.1 x9.1 s0.2.2.1 x9.2) fun x10 hx10=>?_;conv=>arg 3;whnf
            exact Zd (ih _)
           ·refine Zc (Zb s0.1 x9.1 s0.2.2.1 x9.2) (hrc s0.1 x9.1 s0.2.2.1 x9.2) fun x11 hx11=>?_;conv=>arg 3;whnf
            exact Zd (ih _)
          ·refine Zg rfl ?_ ?_<;>conv=>arg 3;whnf
           ·refine Zc (Zb (w64 (x9.1+1)) s0.2.1 s0.2.2.1 x9.2) (hrc (w64 (x9.1+1)) s0.2.1 s0.2.2.1 x9.2) fun x12 hx12=>?_;conv=>arg 3;whnf
            exact Zd (ih _)
           ·refine Zc (Zb (w64 (x9.1+1)) s0.2.1 s0.2.2.1 x9.2) (hrc (w64 (x9.1+1)) s0.2.1 s0.2.2.1 x9.2) fun x13 hx13=>?_;conv=>arg 3;whnf
            exact Zd (ih _)
         ·conv=>arg 3;whnf
          refine ZR rfl ?_;conv=>arg 3;whnf
          refine ZR rfl ?_;conv=>arg 3;whnf
          refine Zg rfl ?_ ?_<;>conv=>arg 3;whnf
          ·refine Zg rfl ?_ ?_<;>conv=>arg 3;whnf
           ·refine Zc (Zb s0.1 x9.1 s0.2.2.1 x9.2) (hrc s0.1 x9.1 s0.2.2.1 x9.2) fun x14 hx14=>?_;conv=>arg 3;whnf
            exact Zd (ih _)
           ·refine Zc (Zb s0.1 x9.1 s0.2.2.1 x9.2) (hrc s0.1 x9.1 s0.2.2.1 x9.2) fun x15 hx15=>?_;conv=>arg 3;whnf
            exact Zd (ih _)
          ·refine Zg rfl ?_ ?_<;>conv=>arg 3;whnf
           ·refine Zc (Zb (w64 (x9.1+1)) s0.2.1 s0.2.2.1 x9.2) (hrc (w64 (x9.1+1)) s0.2.1 s0.2.2.1 x9.2) fun x16 hx16=>?_;conv=>arg 3;whnf
            exact Zd (ih _)
           ·refine Zc (Zb (w64 (x9.1+1)) s0.2.1 s0.2.2.1 x9.2) (hrc (w64 (x9.1+1)) s0.2.1 s0.2.2.1 x9.2) fun x17 hx17=>?_;conv=>arg 3;whnf
            exact Zd (ih _)
        ·refine Zc _ Z8 fun x18 hx18=>?_;conv=>arg 3;whnf
         exact Zd (ih _)
       ·refine Zc _ ZA fun x19 hx19=>?_
        clear hx19
        rcases x19 with x19 | x19
        ·conv=>arg 3;whnf
         refine Zbr rfl ?_;conv=>arg 3;whnf
         refine ZR rfl ?_;conv=>arg 3;whnf
         refine Zg rfl ?_ ?_<;>conv=>arg 3;whnf
         ·refine Zg rfl ?_ ?_<;>conv=>arg 3;whnf
          ·refine Zc (Zb s0.1 x19.1 s0.2.2.1 x19.2) (hrc s0.1 x19.1 s0.2.2.1 x19.2) fun x20 hx20=>?_;conv=>arg 3;whnf
           exact Zd (ih _)
          ·refine Zc (Zb s0.1 x19.1 s0.2.2.1 x19.2) (hrc s0.1 x19.1 s0.2.2.1 x19.2) fun x21 hx21=>?_;conv=>arg 3;whnf
           exact Zd (ih _)
         ·refine Zg rfl ?_ ?_<;>conv=>arg 3;whnf
          ·refine Zc (Zb (w64 (x19.1+1)) s0.2.1 s0.2.2.1 x19.2) (hrc (w64 (x19.1+1)) s0.2.1 s0.2.2.1 x19.2) fun x22 hx22=>?_;conv=>arg 3;whnf
           exact Zd (ih _)
          ·refine Zc (Zb (w64 (x19.1+1)) s0.2.1 s0.2.2.1 x19.2) (hrc (w64 (x19.1+1)) s0.2.1 s0.2.2.1 x19.2) fun x23 hx23=>?_;conv=>arg 3;whnf
           exact Zd (ih _)
        ·conv=>arg 3;whnf
         refine ZR rfl ?_;conv=>arg 3;whnf
         refine ZR rfl ?_;conv=>arg 3;whnf
         refine Zg rfl ?_ ?_<;>conv=>arg 3;whnf
         ·refine Zg rfl ?_ ?_<;>conv=>arg 3;whnf
          ·refine Zc (Zb s0.1 x19.1 s0.2.2.1 x19.2) (hrc s0.1 x19.1 s0.2.2.1 x19.2) fun x24 hx24=>?_;conv=>arg 3;whnf
           exact Zd (ih _)
          ·refine Zc (Zb s0.1 x19.1 s0.2.2.1 x19.2) (hrc s0.1 x19.1 s0.2.2.1 x19.2) fun x25 hx25=>?_;conv=>arg 3;whnf
           exact Zd (ih _)
         ·refine Zg rfl ?_ ?_<;>conv=>arg 3;whnf
          ·refine Zc (Zb (w64 (x19.1+1)) s0.2.1 s0.2.2.1 x19.2) (hrc (w64 (x19.1+1)) s0.2.1 s0.2.2.1 x19.2) fun x26 hx26=>?_;conv=>arg 3;whnf
           exact Zd (ih _)
          ·refine Zc (Zb (w64 (x19.1+1)) s0.2.1 s0.2.2.1 x19.2) (hrc (w64 (x19.1+1)) s0.2.1 s0.2.2.1 x19.2) fun x27 hx27=>?_;conv=>arg 3;whnf
           exact Zd (ih _)
     ·refine Zg rfl ?_ ?_<;>conv=>arg 3;whnf
      ·refine Zc _ ZdA fun x28 hx28=>?_
       clear hx28
       rcases x28 with x28 | x28
       ·conv=>arg 3;whnf
        exact Zh rfl
       ·conv=>arg 3;whnf
        refine Zg rfl ?_ ?_<;>conv=>arg 3;whnf
        ·refine Zi rfl rfl fun x29 hx29=>?_;conv=>arg 3;whnf
         refine Zf (Zl rfl hx29) ?_;conv=>arg 3;whnf
         refine Zi rfl rfl fun x30 hx30=>?_;conv=>arg 3;whnf
         refine Zf (Zl rfl hx30) ?_;conv=>arg 3;whnf
         refine Zp _ Z4 rfl fun x31 hx31=>?_;conv=>arg 3;whnf
         refine Zg rfl ?_ ?_<;>conv=>arg 3;whnf
         ·refine Zc _ ZA fun x32 hx32=>?_
          clear hx32
          rcases x32 with x32 | x32
          ·conv=>arg 3;whnf
           refine Zbr rfl ?_;conv=>arg 3;whnf
           refine ZR rfl ?_;conv=>arg 3;whnf
           refine Zg rfl ?_ ?_<;>conv=>arg 3;whnf
           ·refine Zg rfl ?_ ?_<;>conv=>arg 3;whnf
            ·refine Zc (Zb s0.1 x32.1 s0.2.2.1 x32.2) (hrc s0.1 x32.1 s0.2.2.1 x32.2) fun x33 hx33=>?_;conv=>arg 3;whnf
             exact Zd (ih _)
            ·refine Zc (Zb s0.1 x32.1 s0.2.2.1 x32.2) (hrc s0.1 x32.1 s0.2.2.1 x32.2) fun x34 hx34=>?_;conv=>arg 3;whnf
             exact Zd (ih _)
           ·refine Zg rfl ?_ ?_<;>conv=>arg 3;whnf
            ·refine Zc (Zb (w64 (x32.1+1)) s0.2.1 s0.2.2.1 x32.2) (hrc (w64 (x32.1+1)) s0.2.1 s0.2.2.1 x32.2) fun x35 hx35=>?_;conv=>arg 3;whnf
             exact Zd (ih _)
            ·refine Zc (Zb (w64 (x32.1+1)) s0.2.1 s0.2.2.1 x32.2) (hrc (w64 (x32.1+1)) s0.2.1 s0.2.2.1 x32.2) fun x36 hx36=>?_;conv=>arg 3;whnf
             exact Zd (ih _)
          ·conv=>arg 3;whnf
           refine ZR rfl ?_;conv=>arg 3;whnf
           refine ZR rfl ?_;conv=>arg 3;whnf
           refine Zg rfl ?_ ?_<;>conv=>arg 3;whnf
           ·refine Zg rfl ?_ ?_<;>conv=>arg 3;whnf
            ·refine Zc (Zb s0.1 x32.1 s0.2.2.1 x32.2) (hrc s0.1 x32.1 s0.2.2.1 x32.2) fun x37 hx37=>?_;conv=>arg 3;whnf
             exact Zd (ih _)
            ·refine Zc (Zb s0.1 x32.1 s0.2.2.1 x32.2) (hrc s0.1 x32.1 s0.2.2.1 x32.2) fun x38 hx38=>?_;conv=>arg 3;whnf
             exact Zd (ih _)
           ·refine Zg rfl ?_ ?_<;>conv=>arg 3;whnf
            ·refine Zc (Zb (w64 (x32.1+1)) s0.2.1 s0.2.2.1 x32.2) (hrc (w64 (x32.1+1)) s0.2.1 s0.2.2.1 x32.2) fun x39 hx39=>?_;conv=>arg 3;whnf
             exact Zd (ih _)
            ·refine Zc (Zb (w64 (x32.1+1)) s0.2.1 s0.2.2.1 x32.2) (hrc (w64 (x32.1+1)) s0.2.1 s0.2.2.1 x32.2) fun x40 hx40=>?_;conv=>arg 3;whnf
             exact Zd (ih _)
         ·refine Zc _ Z8 fun x41 hx41=>?_;conv=>arg 3;whnf
          exact Zd (ih _)
        ·refine Zc _ ZA fun x42 hx42=>?_
         clear hx42
         rcases x42 with x42 | x42
         ·conv=>arg 3;whnf
          refine Zbr rfl ?_;conv=>arg 3;whnf
          refine ZR rfl ?_;conv=>arg 3;whnf
          refine Zg rfl ?_ ?_<;>conv=>arg 3;whnf
          ·refine Zg rfl ?_ ?_<;>conv=>arg 3;whnf
           ·refine Zc (Zb s0.1 x42.1 s0.2.2.1 x42.2) (hrc s0.1 x42.1 s0.2.2.1 x42.2) fun x43 hx43=>?_;conv=>arg 3;whnf
            exact Zd (ih _)
           ·refine Zc (Zb s0.1 x42.1 s0.2.2.1 x42.2) (hrc s0.1 x42.1 s0.2.2.1 x42.2) fun x44 hx44=>?_;conv=>arg 3;whnf
            exact Zd (ih _)
          ·refine Zg rfl ?_ ?_<;>conv=>arg 3;whnf
           ·refine Zc (Zb (w64 (x42.1+1)) s0.2.1 s0.2.2.1 x42.2) (hrc (w64 (x42.1+1)) s0.2.1 s0.2.2.1 x42.2) fun x45 hx45=>?_;conv=>arg 3;whnf
            exact Zd (ih _)
           ·refine Zc (Zb (w64 (x42.1+1)) s0.2.1 s0.2.2.1 x42.2) (hrc (w64 (x42.1+1)) s0.2.1 s0.2.2.1 x42.2) fun x46 hx46=>?_;conv=>arg 3;whnf
            exact Zd (ih _)
         ·conv=>arg 3;whnf
          refine ZR rfl ?_;conv=>arg 3;whnf
          refine ZR rfl ?_;conv=>arg 3;whnf
          refine Zg rfl ?_ ?_<;>conv=>arg 3;whnf
          ·refine Zg rfl ?_ ?_<;>conv=>arg 3;whnf
           ·refine Zc (Zb s0.1 x42.1 s0.2.2.1 x42.2) (hrc s0.1 x42.1 s0.2.2.1 x42.2) fun x47 hx47=>?_;conv=>arg 3;whnf
            exact Zd (ih _)
           ·refine Zc (Zb s0.1 x42.1 s0.2.2.1 x42.2) (hrc s0.1 x42.1 s0.2.2.1 x42.2) fun x48 hx48=>?_;conv=>arg 3;whnf
            exact Zd (ih _)
          ·refine Zg rfl ?_ ?_<;>conv=>arg 3;whnf
           ·refine Zc (Zb (w64 (x42.1+1)) s0.2.1 s0.2.2.1 x42.2) (hrc (w64 (x42.1+1)) s0.2.1 s0.2.2.1 x42.2) fun x49 hx49=>?_;conv=>arg 3;whnf
            exact Zd (ih _)
           ·refine Zc (Zb (w64 (x42.1+1)) s0.2.1 s0.2.2.1 x42.2) (hrc (w64 (x42.1+1)) s0.2.1 s0.2.2.1 x42.2) fun x50 hx50=>?_;conv=>arg 3;whnf
            exact Zd (ih _)
      ·refine Zg rfl ?_ ?_<;>conv=>arg 3;whnf
       ·refine Zi rfl rfl fun x51 hx51=>?_;conv=>arg 3;whnf
        refine Zf (Zl rfl hx51) ?_;conv=>arg 3;whnf
        refine Zi rfl rfl fun x52 hx52=>?_;conv=>arg 3;whnf
        refine Zf (Zl rfl hx52) ?_;conv=>arg 3;whnf
        refine Zp _ Z4 rfl fun x53 hx53=>?_;conv=>arg 3;whnf
        refine Zg rfl ?_ ?_<;>conv=>arg 3;whnf
        ·refine Zc _ ZA fun x54 hx54=>?_
         clear hx54
         rcases x54 with x54 | x54
         ·conv=>arg 3;whnf
          refine Zbr rfl ?_;conv=>arg 3;whnf
          refine ZR rfl ?_;conv=>arg 3;whnf
          refine Zg rfl ?_ ?_<;>conv=>arg 3;whnf
          ·refine Zg rfl ?_ ?_<;>conv=>arg 3;whnf
           ·refine Zc (Zb s0.1 x54.1 s0.2.2.1 x54.2) (hrc s0.1 x54.1 s0.2.2.1 x54.2) fun x55 hx55=>?_;conv=>arg 3;whnf
            exact Zd (ih _)
           ·refine Zc (Zb s0.1 x54.1 s0.2.2.1 x54.2) (hrc s0.1 x54.1 s0.2.2.1 x54.2) fun x56 hx56=>?_;conv=>arg 3;whnf
            exact Zd (ih _)
          ·refine Zg rfl ?_ ?_<;>conv=>arg 3;whnf
           ·refine Zc (Zb (w64 (x54.1+1)) s0.2.1 s0.2.2.1 x54.2) (hrc (w64 (x54.1+1)) s0.2.1 s0.2.2.1 x54.2) fun x57 hx57=>?_;conv=>arg 3;whnf
            exact Zd (ih _)
           ·refine Zc (Zb (w64 (x54.1+1)) s0.2.1 s0.2.2.1 x54.2) (hrc (w64 (x54.1+1)) s0.2.1 s0.2.2.1 x54.2) fun x58 hx58=>?_;conv=>arg 3;whnf
            exact Zd (ih _)
         ·conv=>arg 3;whnf
          refine ZR rfl ?_;conv=>arg 3;whnf
          refine ZR rfl ?_;conv=>arg 3;whnf
          refine Zg rfl ?_ ?_<;>conv=>arg 3;whnf
          ·refine Zg rfl ?_ ?_<;>conv=>arg 3;whnf
           ·refine Zc (Zb s0.1 x54.1 s0.2.2.1 x54.2) (hrc s0.1 x54.1 s0.2.2.1 x54.2) fun x59 hx59=>?_;conv=>arg 3;whnf
            exact Zd (ih _)
           ·refine Zc (Zb s0.1 x54.1 s0.2.2.1 x54.2) (hrc s0.1 x54.1 s0.2.2.1 x54.2) fun x60 hx60=>?_;conv=>arg 3;whnf
            exact Zd (ih _)
          ·refine Zg rfl ?_ ?_<;>conv=>arg 3;whnf
           ·refine Zc (Zb (w64 (x54.1+1)) s0.2.1 s0.2.2.1 x54.2) (hrc (w64 (x54.1+1)) s0.2.1 s0.2.2.1 x54.2) fun x61 hx61=>?_;conv=>arg 3;whnf
            exact Zd (ih _)
           ·refine Zc (Zb (w64 (x54.1+1)) s0.2.1 s0.2.2.1 x54.2) (hrc (w64 (x54.1+1)) s0.2.1 s0.2.2.1 x54.2) fun x62 hx62=>?_;conv=>arg 3;whnf
            exact Zd (ih _)
        ·refine Zc _ Z8 fun x63 hx63=>?_;conv=>arg 3;whnf
         exact Zd (ih _)
       ·refine Zc _ ZA fun x64 hx64=>?_
        clear hx64
        rcases x64 with x64 | x64
        ·conv=>arg 3;whnf
         refine Zbr rfl ?_;conv=>arg 3;whnf
         refine ZR rfl ?_;conv=>arg 3;whnf
         refine Zg rfl ?_ ?_<;>conv=>arg 3;whnf
         ·refine Zg rfl ?_ ?_<;>conv=>arg 3;whnf
          ·refine Zc (Zb s0.1 x64.1 s0.2.2.1 x64.2) (hrc s0.1 x64.1 s0.2.2.1 x64.2) fun x65 hx65=>?_;conv=>arg 3;whnf
           exact Zd (ih _)
          ·refine Zc (Zb s0.1 x64.1 s0.2.2.1 x64.2) (hrc s0.1 x64.1 s0.2.2.1 x64.2) fun x66 hx66=>?_;conv=>arg 3;whnf
           exact Zd (ih _)
         ·refine Zg rfl ?_ ?_<;>conv=>arg 3;whnf
          ·refine Zc (Zb (w64 (x64.1+1)) s0.2.1 s0.2.2.1 x64.2) (hrc (w64 (x64.1+1)) s0.2.1 s0.2.2.1 x64.2) fun x67 hx67=>?_;conv=>arg 3;whnf
           exact Zd (ih _)
          ·refine Zc (Zb (w64 (x64.1+1)) s0.2.1 s0.2.2.1 x64.2) (hrc (w64 (x64.1+1)) s0.2.1 s0.2.2.1 x64.2) fun x68 hx68=>?_;conv=>arg 3;whnf
           exact Zd (ih _)
        ·conv=>arg 3;whnf
         refine ZR rfl ?_;conv=>arg 3;whnf
         refine ZR rfl ?_;conv=>arg 3;whnf
         refine Zg rfl ?_ ?_<;>conv=>arg 3;whnf
         ·refine Zg rfl ?_ ?_<;>conv=>arg 3;whnf
          ·refine Zc (Zb s0.1 x64.1 s0.2.2.1 x64.2) (hrc s0.1 x64.1 s0.2.2.1 x64.2) fun x69 hx69=>?_;conv=>arg 3;whnf
           exact Zd (ih _)
          ·refine Zc (Zb s0.1 x64.1 s0.2.2.1 x64.2) (hrc s0.1 x64.1 s0.2.2.1 x64.2) fun x70 hx70=>?_;conv=>arg 3;whnf
           exact Zd (ih _)
         ·refine Zg rfl ?_ ?_<;>conv=>arg 3;whnf
          ·refine Zc (Zb (w64 (x64.1+1)) s0.2.1 s0.2.2.1 x64.2) (hrc (w64 (x64.1+1)) s0.2.1 s0.2.2.1 x64.2) fun x71 hx71=>?_;conv=>arg 3;whnf
           exact Zd (ih _)
          ·refine Zc (Zb (w64 (x64.1+1)) s0.2.1 s0.2.2.1 x64.2) (hrc (w64 (x64.1+1)) s0.2.1 s0.2.2.1 x64.2) fun x72 hx72=>?_;conv=>arg 3;whnf
           exact Zd (ih _)
theorem Zia (rc:Int→Int→Int→(List Int)→Option (List Int)) (hrc:∀(b:Int) (c:Int) (d:Int) (m0_0:(List Int)) (r:(List Int)),rc b c d m0_0=some r→evW ctx 119 [(.sl 0 1),(.d (Ze b)),(.d (Ze c)),(.d (Ze d))] [(.arr 1 (List.map Ze m0_0))]=some ((Zb b c d m0_0) r)) (b:Int) (c:Int) (d:Int) (m0_0:(List Int)):∀r,(Zcd rc b c d m0_0)=some r→evW ctx 119 [(.sl 0 1),(.d (Ze b)),(.d (Ze c)),(.d (Ze d))] [(.arr 1 (List.map Ze m0_0))]=some ((Zb b c d m0_0) r):=by
 show ZS _ (fun r rhs=>rhs=some ((Zb b c d m0_0) r)) _
 unfold Zcd
 rw[Zd4 ctx 119 ZyP _ _ rfl rfl]
 conv=>arg 3;whnf
 refine Zc _ (Zh0 hrc _) fun r219 hr219=>?_;conv=>arg 3;whnf
 exact Zh rfl
theorem ZfC:∀(n:Nat) (b:Int) (c:Int) (d:Int) (m0_0:(List Int)) (r:(List Int)),Zbh n b c d m0_0=some r→evW ctx 119 [(.sl 0 1),(.d (Ze b)),(.d (Ze c)),(.d (Ze d))] [(.arr 1 (List.map Ze m0_0))]=some ((Zb b c d m0_0) r)
  | 0,b,c,d,m0_0,r,h=>by cases h
  | n+1,b,c,d,m0_0,r,h=>Zia (Zbh n) (ZfC n) b c d m0_0 r h
theorem ZiD {b:Int}{c:Int}{d:Int}{m0_0:(List Int)}:∀r,ZeO b c d m0_0=some r→evW ctx 119 [(.sl 0 1),(.d (Ze b)),(.d (Ze c)),(.d (Ze d))] [(.arr 1 (List.map Ze m0_0))]=some ((Zb b c d m0_0) r):=fun r h=>by
  obtain⟨n,hn⟩:=Zwk h
  exact ZfC n b c d m0_0 r hn
def Zhn (m0_0:(List Int)):(List Int)→V×Zq
  | r=>((.d (D.tup [])),[(.arr 1 (List.map Ze r))])
theorem ZjC {m0_0:(List Int)}:∀r,(ZcC m0_0)=some r→evW ctx 107 [(.sl 0 1)] [(.arr 1 (List.map Ze m0_0))]=some ((Zhn m0_0) r):=by
 show ZS _ (fun r rhs=>rhs=some ((Zhn m0_0) r)) _
 unfold ZcC
 rw[Zd4 ctx 107 Zyj _ _ rfl rfl]
 conv=>arg 3;whnf
 refine Zn (Z3 _ _) ?_;conv=>arg 3;whnf
 refine Zp _ ZhS rfl fun x0 hx0=>?_;conv=>arg 3;whnf
 refine Zc _ ZiD fun x1 hx1=>?_;conv=>arg 3;whnf
 exact Zh rfl
def ZhF (r:(List Int)):D:=(D.list true (List.map Ze r))
def ZgM (t1:Bool) (a:Zb5) (b0:Int):(List Int)→Ex×List V×Zq
  | r=>(.exit 0,[(.sl 0 1)],[(.arr 1 (List.map Ze r))])
theorem Zi3 {t1:Bool}{a:Zb5}{b0:Int}:∀(s0:Int×(List Int)) (r:(List Int)),lp (Zhi a (fun z0=>ZfM z0 b0)) s0=some r→lpW ctx 0 [1,5,11,12,13] [5] Zz1 [(.d (D.fn 82 [(D.rptr [(Ze b0)])])),(.sl 0 1),(.d (D.list t1 (List.map ZI a.edges))),(.d (Ze (a.edges.length:Int))),(.d (Ze s0.1))] [(.arr 1 (List.map Ze s0.2))]=some ((ZgM t1 a b0) r):=by
 refine ZaX (ZgM t1 a b0) ?_
 intro s0 rcl ih
 show ZS _ _ (lpW _ _ _ _ _ _ _)
 unfold Zhi
 rw[ZaY]
 conv=>arg 3;whnf
 refine Zg rfl ?_ ?_<;>conv=>arg 3;whnf
 ·refine Zi rfl rfl fun x1 hx1=>?_;conv=>arg 3;whnf
  refine Zp _ ZoI rfl fun x2 hx2=>?_;conv=>arg 3;whnf
  refine Zg rfl ?_ ?_<;>conv=>arg 3;whnf
  ·refine Zbr rfl ?_;conv=>arg 3;whnf
   refine Zg (Zic Ze s0.2 1) ?_ ?_
   ·conv=>arg 3;whnf
    refine Zn (Zh8 Ze s0.2 [x2.1]) ?_;conv=>arg 3;whnf
    exact Zd (ih _)
   ·exact ZaN
  ·exact Zd (ih _)
 ·exact Zh rfl
theorem ZjW {t0:Bool}{t1:Bool}{a:Zb5}{b0:Int}:∀r,(Zmq a (fun z0=>ZfM z0 b0))=some r→evD ctx 81 [(.d (D.agg [(D.list t0 (List.map Ze a.work)),(D.list t1 (List.map ZI a.edges))])),(.d (D.fn 82 [(D.rptr [(Ze b0)])]))]=some (ZhF r):=by
 show ZS _ (fun r rhs=>rhs=some (ZhF r)) _
 unfold Zmq
 rw[ZbV ctx 81 ZBS _ rfl rfl]
 conv=>arg 3;whnf
 refine Zn (Z3 _ _) ?_;conv=>arg 3;whnf
 refine Zc _ (Zi3 _) fun r3 hr3=>?_;conv=>arg 3;whnf
 refine Zc _ ZjC fun x4 hx4=>?_;conv=>arg 3;whnf
 exact Zh rfl
def ZmT (r:(List Int)):D:=(D.list true (List.map Ze r))
theorem ZpX {t0:Bool}{t1:Bool}{a:Zb5}{b:Int}:∀r,(ZiR a b)=some r→evD ctx 46 [(.d (D.agg [(D.list t0 (List.map Ze a.work)),(D.list t1 (List.map ZI a.edges))])),(.d (Ze b))]=some (ZmT r):=by
 show ZS _ (fun r rhs=>rhs=some (ZmT r)) _
 unfold ZiR
 rw[ZbV ctx 46 ZCi _ rfl rfl]
 conv=>arg 3;whnf
 refine Zp _ ZjW rfl fun x0 hx0=>?_;conv=>arg 3;whnf
 exact Zh rfl
def Zme (r:Bool):D:=(D.bool r)
def Zj4 (t0:Bool) (t1:Bool) (a:Zb5) (c:Int) (x0:(List Int)) (s1:Int×(List Int)) (x2:Int) (x3:(List Int)):(Unit⊕(List Int))→Ex×List V×Zq
  | (.inl r)=>(.ret,[(.d (Ze c)),(.ptr 0 0),(.d (D.bool true)),(.sl 1 1),(.d (D.list true (List.map Ze x0))),(.d (Ze (x0.length:Int))),(.d (Ze s1.1))],[(.cells [(.d (D.list t0 (List.map Ze a.work))),(.d (D.list t1 (List.map ZI a.edges)))]),(.arr 1 (List.map Ze s1.2))])
  | (.inr r)=>(.exit 2,[(.d (Ze c)),(.ptr 0 0),.bad,(.sl 1 1),(.d (D.list true (List.map Ze x0))),(.d (Ze (x0.length:Int))),(.d (Ze s1.1))],[(.cells [(.d (D.list t0 (List.map Ze a.work))),(.d (D.list t1 (List.map ZI a.edges)))]),(.arr 1 (List.map Ze r))])
theorem Znh {t0:Bool}{t1:Bool}{a:Zb5}{c:Int}{x0:(List Int)}{s1:Int×(List Int)}{x2:Int}{x3:(List Int)}:∀(s4:Int) (r:(Unit⊕(List Int))),lp (Zfz c s1 x2 x3) s4=some r→lpW ctx 0 [2,3,7,9,15,16,17,23,24,25] [2,3,6,7,15,16,17] Zyc [(.d (Ze c)),(.ptr 0 0),(.sl 1 1),(.d (Ze x2)),(.d (D.list true (List.map Ze x0))),(.d (Ze (x0.length:Int))),(.d (Ze s1.1)),(.d (D.list true (List.map Ze x3))),(.d (Ze (x3.length:Int))),(.d (Ze s4))] [(.cells [(.d (D.list t0 (List.map Ze a.work))),(.d (D.list t1 (List.map ZI a.edges)))]),(.arr 1 (List.map Ze s1.2))]=some ((Zj4 t0 t1 a c x0 s1 x2 x3) r):=by
 refine ZaX (Zj4 t0 t1 a c x0 s1 x2 x3) ?_
 intro s4 rcl ih
 show ZS _ _ (lpW _ _ _ _ _ _ _)
 unfold Zfz
 rw[ZaY]
 conv=>arg 3;whnf
 refine Zg rfl ?_ ?_<;>conv=>arg 3;whnf
 ·refine Zi rfl rfl fun x5 hx5=>?_;conv=>arg 3;whnf
  refine Zp _ Zf9 rfl fun x6 hx6=>?_;conv=>arg 3;whnf
  refine Zg rfl ?_ ?_<;>conv=>arg 3;whnf
  ·refine Zg rfl ?_ ?_<;>conv=>arg 3;whnf
   ·exact Zh rfl
   ·refine Zbr rfl ?_;conv=>arg 3;whnf
    refine Zg (Zic Ze s1.2 1) ?_ ?_
    ·conv=>arg 3;whnf
     refine Zn (Zh8 Ze s1.2 [x2]) ?_;conv=>arg 3;whnf
     exact Zh rfl
    ·exact ZaN
  ·exact Zd (ih _)
 ·exact Zh rfl
def Zka (t0:Bool) (t1:Bool) (a:Zb5) (c:Int) (x0:(List Int)):(Unit⊕Unit)→Ex×List V×Zq
  | (.inl r)=>(.ret,[(.d (D.bool true))],[])
  | (.inr r)=>(.exit 0,[.bad],[])
theorem Znd {t0:Bool}{t1:Bool}{a:Zb5}{c:Int}{x0:(List Int)}:∀(s1:Int×(List Int)) (r:(Unit⊕Unit)),lp (ZeC a c x0) s1=some r→lpW ctx 0 [2,3,7,15,16,17] [6] ZxN [(.d (Ze c)),(.ptr 0 0),(.sl 1 1),(.d (D.list true (List.map Ze x0))),(.d (Ze (x0.length:Int))),(.d (Ze s1.1))] [(.cells [(.d (D.list t0 (List.map Ze a.work))),(.d (D.list t1 (List.map ZI a.edges)))]),(.arr 1 (List.map Ze s1.2))]=some ((Zka t0 t1 a c x0) r):=by
 refine ZaX (Zka t0 t1 a c x0) ?_
 intro s1 rcl ih
 show ZS _ _ (lpW _ _ _ _ _ _ _)
 unfold ZeC
 rw[ZaY]
 conv=>arg 3;whnf
 refine Zg rfl ?_ ?_<;>conv=>arg 3;whnf
 ·refine Zi rfl rfl fun x2 hx2=>?_;conv=>arg 3;whnf
  refine Zp _ ZpX rfl fun x3 hx3=>?_;conv=>arg 3;whnf
  refine Zn (Z3 _ _) ?_;conv=>arg 3;whnf
  refine Zc _ (Znh _) fun r7 hr7=>?_
  clear hr7
  rcases r7 with r7 | r7
  ·conv=>arg 3;whnf
   exact Zh rfl
  ·conv=>arg 3;whnf
   exact Zd (ih _)
 ·exact Zh rfl
theorem Zpz {t0:Bool}{t1:Bool}{a:Zb5}{b:Int}{c:Int}:∀r,(Zh6 a b c)=some r→evD ctx 24 [(.d (D.agg [(D.list t0 (List.map Ze a.work)),(D.list t1 (List.map ZI a.edges))])),(.d (Ze b)),(.d (Ze c))]=some (Zme r):=by
 show ZS _ (fun r rhs=>rhs=some (Zme r)) _
 unfold Zh6
 rw[ZbV ctx 24 ZBN _ rfl rfl]
 conv=>arg 3;whnf
 refine Zp _ ZlN rfl fun x0 hx0=>?_;conv=>arg 3;whnf
 refine Zn (Z3 _ _) ?_;conv=>arg 3;whnf
 refine Zc _ (Znd _) fun r8 hr8=>?_
 clear hr8
 rcases r8 with r8 | r8
 ·conv=>arg 3;whnf
  exact Zh rfl
 ·conv=>arg 3;whnf
  exact Zh rfl
def Zja (r:Bool):D:=(D.bool r)
def Zig (c:Int) (d:Int) (x7:((List Int)×Int)) (x12:((List Int)×Int)) (x13:(ZlR×Int)):(Unit⊕Unit)→Ex×List V×Zq
  | (.inl r)=>(.ret,[(.d (Ze c)),(.d (Ze d)),(.d (D.bool false)),(.d (D.list true (List.map Ze x7.1))),(.d (D.list true (List.map Ze x12.1))),(.d (Ze x12.2)),(.d (Ze x13.2))],[])
  | (.inr r)=>(.exit 0,[(.d (Ze c)),(.d (Ze d)),.bad,(.d (D.list true (List.map Ze x7.1))),(.d (D.list true (List.map Ze x12.1))),(.d (Ze x12.2)),(.d (Ze x13.2))],[])
theorem ZkX {c:Int}{d:Int}{x7:((List Int)×Int)}{x12:((List Int)×Int)}{x13:(ZlR×Int)}:∀(s14:Int) (r:(Unit⊕Unit)),lp (Zdu c x7 x12 x13) s14=some r→lpW ctx 0 [2,3,9,12,13,14,15,16] [2,3,8,9,12,13,15] ZBb [(.d (Ze c)),(.d (Ze d)),(.d (D.list true (List.map Ze x7.1))),(.d (D.list true (List.map Ze x12.1))),(.d (Ze x12.2)),(.ptr 0 0),(.d (Ze x13.2)),(.d (Ze s14))] [(.cells [(.d (D.list true (List.map Ze x13.1.dag.work))),(.d (D.list true (List.map ZI x13.1.dag.edges))),(.d (D.list true (List.map Zcb x13.1.pieces)))])]=some ((Zig c d x7 x12 x13) r):=by
 refine ZaX (Zig c d x7 x12 x13) ?_
 intro s14 rcl ih
 show ZS _ _ (lpW _ _ _ _ _ _ _)
 unfold Zdu
 rw[ZaY]
 conv=>arg 3;whnf
 refine Zn (Z3 _ _) ?_;conv=>arg 3;whnf
 refine Zg rfl ?_ ?_<;>conv=>arg 3;whnf
 ·refine Zn (Z3 _ _) ?_;conv=>arg 3;whnf
  refine Zg rfl ?_ ?_<;>conv=>arg 3;whnf
  ·refine Zg rfl ?_ ?_<;>conv=>arg 3;whnf
   ·refine Zp _ Zi1 rfl fun x15 hx15=>?_;conv=>arg 3;whnf
    refine Zp _ Zi1 rfl fun x16 hx16=>?_;conv=>arg 3;whnf
    refine Zp _ Zpz rfl fun x17 hx17=>?_;conv=>arg 3;whnf
    refine Zg rfl ?_ ?_<;>conv=>arg 3;whnf
    ·exact Zd (ih _)
    ·refine Zi rfl rfl fun x18 hx18=>?_;conv=>arg 3;whnf
     refine Zi rfl rfl fun x19 hx19=>?_;conv=>arg 3;whnf
     refine Zg rfl ?_ ?_<;>conv=>arg 3;whnf
     ·exact Zh rfl
     ·exact Zd (ih _)
   ·exact Zd (ih _)
  ·exact Zh rfl
 ·exact Zh rfl
theorem ZlQ {t0:Bool}{t1:Bool}{t2:Bool}{t3:Bool}{t4:Bool}{a:Zm}{b:(List Int)}{c:Int}{d:Int}:∀r,(ZgQ a b c d)=some r→evD ctx 5 [(.d (D.agg (dA t0 t1 t2 t3 a))),(.d (D.list t4 (List.map Ze b))),(.d (Ze c)),(.d (Ze d))]=some (Zja r):=by
 show ZS _ (fun r rhs=>rhs=some (Zja r)) _
 unfold ZgQ
 rw[ZbV ctx 5 fn5 _ rfl rfl]
 conv=>arg 3;whnf
 refine Zp _ ZdY rfl fun x0 hx0=>?_;conv=>arg 3;whnf
 refine Zg rfl ?_ ?_<;>conv=>arg 3;whnf
 ·refine Zp _ ZqT rfl fun x1 hx1=>?_;conv=>arg 3;whnf
  refine Zg rfl ?_ ?_<;>conv=>arg 3;whnf
  ·refine Zg rfl ?_ ?_<;>conv=>arg 3;whnf
   ·refine Zp _ ZdY rfl fun x2 hx2=>?_;conv=>arg 3;whnf
    refine Zg rfl ?_ ?_<;>conv=>arg 3;whnf
    ·exact Zh rfl
    ·exact Zh rfl
   ·refine Zn (Z3 _ _) ?_;conv=>arg 3;whnf
    refine Zg rfl ?_ ?_<;>conv=>arg 3;whnf
    ·refine Zp _ ZdY rfl fun x3 hx3=>?_;conv=>arg 3;whnf
     refine Zg rfl ?_ ?_<;>conv=>arg 3;whnf
     ·exact Zh rfl
     ·exact Zh rfl
    ·refine Zg rfl ?_ ?_<;>conv=>arg 3;whnf
     ·refine Zp _ ZdY rfl fun x4 hx4=>?_;conv=>arg 3;whnf
      refine Zg rfl ?_ ?_<;>conv=>arg 3;whnf
      ·exact Zh rfl
      ·exact Zh rfl
     ·refine Zg rfl ?_ ?_<;>conv=>arg 3;whnf
      ·refine Zp _ ZdY rfl fun x5 hx5=>?_;conv=>arg 3;whnf
       refine Zg rfl ?_ ?_<;>conv=>arg 3;whnf
       ·exact Zh rfl
       ·exact Zh rfl
      ·refine Zc _ ZjH fun x6 hx6=>?_;conv=>arg 3;whnf
       refine Zbr (Zih (f:=Ze) (fun _=>⟨rfl,rfl⟩) b 0) ?_;conv=>arg 3;whnf
       refine Zg (Zie Ze b) ?_ ?_
       ·conv=>arg 3;whnf
        refine Zn (rfl:_=List.map Ze b) ?_;conv=>arg 3;whnf
        refine Zp _ ZmU rfl fun x7 hx7=>?_;conv=>arg 3;whnf
        refine Zc _ ZjH fun x8 hx8=>?_;conv=>arg 3;whnf
        refine Zi rfl rfl fun x9 hx9=>?_;conv=>arg 3;whnf
        refine Zf (ZaG rfl hx9) ?_;conv=>arg 3;whnf
        refine ZAU rfl rfl fun x10 hx10=>?_;conv=>arg 3;whnf
        refine Zn (Z1 Zau a.parts c.toNat (Zaa.mk 1 d x9.work)) ?_;conv=>arg 3;whnf
        refine Zc _ ZjH fun x11 hx11=>?_;conv=>arg 3;whnf
        refine Zbr (Zih (f:=Ze) (fun _=>⟨rfl,rfl⟩) b 0) ?_;conv=>arg 3;whnf
        refine Zg (Zie Ze b) ?_ ?_
        ·conv=>arg 3;whnf
         refine Zn (rfl:_=List.map Ze b) ?_;conv=>arg 3;whnf
         refine Zp _ ZmU rfl fun x12 hx12=>?_;conv=>arg 3;whnf
         refine Zg rfl ?_ ?_<;>conv=>arg 3;whnf
         ·refine Zn (Z3 _ _) ?_;conv=>arg 3;whnf
          refine Zg rfl ?_ ?_<;>conv=>arg 3;whnf
          ·exact Zh rfl
          ·exact Zh rfl
         ·refine Zp _ Zix rfl fun x13 hx13=>?_;conv=>arg 3;whnf
          refine Zc _ (ZkX _) fun r20 hr20=>?_
          clear hr20
          rcases r20 with r20 | r20
          ·conv=>arg 3;whnf
           exact Zh rfl
          ·conv=>arg 3;whnf
           refine Zg rfl ?_ ?_<;>conv=>arg 3;whnf
           ·refine Zg rfl ?_ ?_<;>conv=>arg 3;whnf
            ·refine Zn (Z3 _ _) ?_;conv=>arg 3;whnf
             refine Zn (Z3 _ _) ?_;conv=>arg 3;whnf
             refine Zg rfl ?_ ?_<;>conv=>arg 3;whnf
             ·refine Zi rfl rfl fun x21 hx21=>?_;conv=>arg 3;whnf
              refine Zg rfl ?_ ?_<;>conv=>arg 3;whnf
              ·exact Zh rfl
              ·exact Zh rfl
             ·exact Zh rfl
            ·exact Zh rfl
           ·exact Zh rfl
        ·exact ZaN
       ·exact ZaN
  ·refine Zp _ ZdY rfl fun x22 hx22=>?_;conv=>arg 3;whnf
   refine Zg rfl ?_ ?_<;>conv=>arg 3;whnf
   ·exact Zh rfl
   ·exact Zh rfl
 ·refine Zp _ ZdY rfl fun x23 hx23=>?_;conv=>arg 3;whnf
  refine Zg rfl ?_ ?_<;>conv=>arg 3;whnf
  ·exact Zh rfl
  ·exact Zh rfl
end Go.Proofs.YtnmbdjkbaihicaaGreatDoor
namespace Go.Proofs.YtnmbdjkbaihicaaGreatDoor
open Go Go.Proofs.YtnmbdjkbaihicaaGreatDoorE
abbrev Zro:List Lf×Bool:=([.int .i64],false)
abbrev ZtM:List Lf×Bool:=([.int .i64,.int .i64,.sl true [.int .i64,.int .i64,.int .i64],.sl true [.int .i64,.int .i64],.sl true [.int .i64,.int .i64,.int .i64],.sl true [.sl false [.int .i64],.sl false [.int .i64]]],true)
abbrev Ztu:List Lf×Bool:=([.sl false [.int .i64]],false)
end Go.Proofs.YtnmbdjkbaihicaaGreatDoor
namespace Go.Proofs.YtnmbdjkbaihicaaGreatDoor
open Go Go.Proofs.YtnmbdjkbaihicaaGreatDoorE
set_option linter.unusedVariables false
set_option linter.unusedSimpArgs false
def Zn6 (d:Zm) (k:Nat) (p:Zaa):Zm:=Zm.mk d.period d.deadline (d.parts.set k p) d.edges d.futures d.barriers
theorem ZwV {d:Zm}{k:Nat}{p q:Zaa} (hk:d.parts[k]? = some q) (hw:p.work=q.work):ZqS d (Zn6 d k p):=by
 refine⟨rfl,rfl,rfl,rfl,rfl,by simp[Zn6],fun z=>?_⟩
 unfold ZgK Zn6
 simp only
 rw[List.getElem?_set]
 by_cases h:k=z.toNat
 ·have hl:=(List.getElem?_eq_some_iff.1 hk).1
  rw[if_pos h,if_pos hl,← h,hk]
  exact hw
 ·rw[if_neg h]
theorem Zrn (d:Zm) (input:List Int) (c a:Int):ZgQ d input c a=some true:=by
 have aw:Zd8=some true:=rfl
 have hfew:ZiT d input (ZbB.mk [] [])=some (few d&&decide ((input.length:Int)≤60)):=by
  unfold ZiT
  rw[ZC3,Option.bind_some]
  cases few d<;>cases decide ((input.length:Int)≤60)<;>rfl
 unfold ZgQ
 simp only[aw,cond_true,hfew,Option.bind_some]
 cases hf:few d with
 | false=>rfl
 | true=>
  by_cases hb:(input.length:Int)≤60
  case neg=>rw[decide_eq_false hb];rfl
  rw[decide_eq_true hb]
  simp only[Bool.and_self,cond_true]
  by_cases c0:c<0
  ·rw[decide_eq_true c0];rfl
  by_cases c1:(d.parts.length:Int)≤c
  ·rw[decide_eq_false c0,decide_eq_true c1];rfl
  by_cases a0:a<0
  ·rw[decide_eq_false c0,decide_eq_false c1,decide_eq_true a0];rfl
  by_cases a1:2147483647<a
  ·rw[decide_eq_false c0,decide_eq_false c1,decide_eq_false a0,decide_eq_true a1];rfl
  have hz:=ZwG hf
  have hck:c.toNat<d.parts.length:=by omega
  have ec:((c.toNat:Nat):Int)=c:=Int.toNat_of_nonneg (by omega)
  have hq:=List.getElem?_eq_getElem hck
  generalize hqq:d.parts[c.toNat]=q at hq
  have gq:Zy d.parts c=some q:=ZnE (by omega) hq
  have al:ZqS d (Zn6 d c.toNat ⟨1,a,q.work⟩):=ZwV hq rfl
  have hzx:ZkA (Zn6 d c.toNat ⟨1,a,q.work⟩):=by
   refine⟨?_,hz.e,hz.f,hz.b,hz.i⟩
   have:=hz.p
   show(d.parts.set c.toNat _).length≤_
   rw[List.length_set]
   exact this
  rw[decide_eq_false c0,decide_eq_false c1,decide_eq_false a0,decide_eq_false a1]
  have ex:Zm.mk d.period d.deadline (d.parts.set c.toNat ⟨1,a,q.work⟩) d.edges d.futures d.barriers=Zn6 d c.toNat ⟨1,a,q.work⟩:=rfl
  simp only[cond_false,cond_true,ZBy d hz,Option.bind_some,ZiN (show input.length≤1073741824 by omega),show Zm.mk d.period d.deadline d.parts d.edges d.futures d.barriers=d from rfl,gq,hq,ex,ZBy _ hzx]
  have ex2:Zm.mk (Zn6 d c.toNat ⟨1,a,q.work⟩).period (Zn6 d c.toNat ⟨1,a,q.work⟩).deadline (Zn6 d c.toNat ⟨1,a,q.work⟩).parts (Zn6 d c.toNat ⟨1,a,q.work⟩).edges (Zn6 d c.toNat ⟨1,a,q.work⟩).futures (Zn6 d c.toNat ⟨1,a,q.work⟩).barriers=Zn6 d c.toNat ⟨1,a,q.work⟩:=rfl
  generalize hx:Zn6 d c.toNat ⟨1,a,q.work⟩=x at al hzx
  have ex3:Zm.mk d.period d.deadline (d.parts.set c.toNat ⟨1,a,q.work⟩) d.edges d.futures x.barriers=x:=by rw[← hx];rfl
  try simp only[ex3]
  by_cases hl:Zkx d
  ·have g:=ZiM hl.1
   have hpl:=g.pl
   have px:x.parts=d.parts.set c.toNat ⟨1,a,q.work⟩:=by rw[← hx];rfl
   have okp:∀p∈d.parts,Zea p=false:=fun p hp=>by
    cases hbp:Zea p with
    | false=>rfl
    | true=>
     exfalso
     have hc:=hl.1
     unfold Zge at hc
     have:d.parts.any Zea=true:=List.any_eq_true.2 ⟨p,hp,hbp⟩
     rw[this] at hc
     revert hc
     cases Zlf d<;>cases ZnA d<;>simp
   have bad:x.parts.any Zea=d.parts.any Zea:=by
    have e1:d.parts.any Zea=false:=List.any_eq_false.2 fun p hp=>by rw[okp p hp];simp
    rw[e1]
    refine List.any_eq_false.2 fun p hp=>?_
    rw[px] at hp
    rcases List.mem_or_eq_of_mem_set hp with hp | rfl
    ·rw[okp p hp];simp
    ·have:=okp q (by rw[← hqq];exact List.getElem_mem hck)
     unfold Zea at this ⊢
     simp only[Bool.not_eq_false',Bool.and_eq_true] at this
     have w1:ZdL 1 0 5=true:=rfl
     have w2:ZdL a 0 2147483647=true:=by unfold ZdL;simp;omega
     simp only[w1,w2,this.2.2,Bool.and_self,Bool.not_true]
     simp
   have hlx:Zkx x:=⟨by rw[ZBK al bad];exact hl.1,by rw[ZuS al];exact hl.2⟩
   obtain⟨l,T,hrun⟩:=(Zoq hz input (by omega)).2 hl
   obtain⟨v1,d1⟩:=ZvO hz.short hl input T
   obtain⟨l2,T2,hrun2⟩:=(Zoq hzx input (by omega)).2 hlx
   obtain⟨v2,d2⟩:=ZvO hzx.short hlx input T2
   generalize hm1:Zsr d input (Znn d) l=m1 at hrun v1 d1
   generalize hm2:Zsr x input (Znn x) l2=m2 at hrun2 v2 d2
   have n1:=v1.o.v
   have n2:m2.vals.length=d.parts.length:=by rw[v2.o.v,al.n]
   have apart:=ZuK hz.short hl al (k:=c.toNat) hck (fun p hp hpk=>by
    unfold Zks
    rw[px,List.getElem?_set,if_neg (by rw[Int.toNat_natCast];omega)]) v1 v2 d1 d2
   have getv:∀{m:ZbB},m.vals.length=d.parts.length→∀{i:Nat},i<d.parts.length→Zy m.vals (i:Int)=some (va m.vals (i:Int)):=fun hm i hi=>ZuV hm (Zol hi)
   have hlx2:=ZsK hlx
   rw[ZuS al] at hlx2
   have loop:=Zh2 m1.vals (Zdu c (m1.vals,0) (m2.vals,0) (ZbM d,0)) (fun _ _=>false) (fun _ _=>.inl ()) (.inr ()) (fun i y hi hy=>by
    have hip:i<d.parts.length:=by rw[← n1];exact hi
    have cr:inR d c:=⟨by omega,hck⟩
    have ir:=Zol hip
    simp only[Zdu,Zf2 hi,cond_true,decide_eq_true (show(i:Int)<(m2.vals.length:Int) by omega),Zqm g cr,Zqm g ir,Option.bind_some,Zx8 hl.2,Zan hi (show m1.vals.length<9223372036854775808 by omega),getv n1 hip,getv n2 hip]
    by_cases hic:(i:Int)=c
    ·rw[bne,show((i:Int)==c)=true by simpa using hic];rfl
    ·rw[bne,beq_false_of_ne hic]
     simp only[Bool.not_false,cond_true]
     by_cases hw:Way (ZbM d).dag (ZcX d c) (ZcX d (i:Int))
     ·rw[Zys hw];rfl
     ·have:=apart i hip (by omega) (by rw[ec];exact hw)
      rw[ZxT hw,this,bne_self_eq_false]
      rfl) (by simp only[Zdu,ZgU];rfl)
   have nf:∀(l:List Int),Zil (fun _ (_:Int)=>false) 0 l=false:=fun l=>by rw[ZkB (fun _=>false)];simp
   rw[ZfN,nf] at loop
   have valc:va m2.vals c=a:=by
    have hcx:c.toNat<x.parts.length:=by rw[al.n];exact hck
    obtain⟨i,hi,hie⟩:=Zog (ZiM hlx.1) hcx
    have:=v2.val c.toNat hcx (by rw[hie];exact d2 i hi)
    rw[ec] at this
    rw[this]
    have hpa:Zks x c=⟨1,a,q.work⟩:=by
     unfold Zks
     rw[px,List.getElem?_set_self hck]
    rw[hpa]
    unfold opV u32
    simp
    omega
   have gc:Zy m2.vals c=some a:=by
    have:=getv n2 hck
    rw[ec,valc] at this
    exact this
   rw[hrun,hrun2]
   simp only[Option.bind_some,bne_self_eq_false,cond_false,Zs2 hzx,hlx2,loop,beq_self_eq_true,cond_true,n1,n2,gc]
  ·have hne:=(Zth hl).2
   have hx2:∃y,Zgr x input=some y:=by
    by_cases hlx:Zkx x
    ·obtain⟨l2,_,h2⟩:=(Zoq hzx input (by omega)).2 hlx
     exact⟨_,h2⟩
    ·exact⟨_,(Zoq hzx input (by omega)).1 hlx⟩
   obtain⟨y,hy⟩:=hx2
   rw[(Zoq hz input (by omega)).1 hl,hy]
   simp only[Option.bind_some]
   rw[show((ZoC d).2 != 0)=true by simpa using hne]
   rfl
theorem ZsO (xs:List D) (h:ZhU ZtM.1 xs) (ys:List D) (k:ZhU Ztu.1 ys) (zs:List D) (m:ZhU Zro.1 zs) (vs:List D) (n:ZhU Zro.1 vs) :
  ∃H',evW ctx 5 (ZdU [Znj ZtM.2 xs,Znj Ztu.2 ys,Znj Zro.2 zs,Znj Zro.2 vs]) []=some (.d (.bool true),H'):=by
 obtain⟨d,hd,_⟩:=Zz3 h
 obtain⟨a,ha,_⟩:=ZAu k
 obtain⟨p,hp,_⟩:=Zy1 m
 obtain⟨q,hq,_⟩:=Zy1 n
 show ∃H',evW ctx 5 [.d (D.agg xs),.d (Znj false ys),.d (Znj false zs),.d (Znj false vs)] []=_
 rw[hd,ha,hp,hq]
 exact ZzS (ZlQ true (Zrn d a p q))
end Go.Proofs.YtnmbdjkbaihicaaGreatDoor
namespace Go.Proofs.YtnmbdjkbaihicaaGreatDoor.LawEvalReach
open Go.ChangeShapes Go.WideShapes Go.ChangeAt Go.RowKit Go.Proofs.YtnmbdjkbaihicaaGreatDoorE
set_option linter.unusedVariables false
theorem own:ownKnob Tryz.prog.godebug=none:=by kernel_rfl
theorem ZpN:laidOutB Tryz.prog=true:=by kernel_rfl
def Zrh : List (String × DataW Unit) := [("math/bits.deBruijn32tab", Rows.laid_math_bits_deBruijn32tab), ("math/bits.deBruijn64tab", Rows.laid_math_bits_deBruijn64tab)]
theorem Zzr (os:Os) (args:Array Value):laidMetH Tryz.prog Zrh ((World.doorLaid Tryz.prog 19 os).forCall (fun _ _=>0) ⟨#[],args,[]⟩).memory:=
 laidMetH_of_parts3 (fuel:=8) (laidMet_of_run' 8 (by kernel_rfl) (by kernel_rfl)) (by kernel_rfl) (by kernel_rfl)
theorem Zx2 {W:World} (h:laidMetH Tryz.prog Zrh W):GOK Zu R0 W:=by
 intro g l hg
 unfold Zu at hg
 split at hg
 ·cases hg
  exact ZqR (t := 145) (N := 32) (e := 5) (k := .u8) h (by kernel_rfl) (n := "math/bits.deBruijn32tab") (by rw [show DataW.agg (Znp ZBp) = Rows.laid_math_bits_deBruijn32tab by kernel_rfl]; simp [Zrh]) (by kernel_rfl) (by kernel_rfl) (by kernel_rfl) (by kernel_rfl) (by kernel_rfl) (by kernel_rfl) (by decide)
 ·cases hg
  exact ZqR (t := 146) (N := 64) (e := 5) (k := .u8) h (by kernel_rfl) (n := "math/bits.deBruijn64tab") (by rw [show DataW.agg (Znp ZBf) = Rows.laid_math_bits_deBruijn64tab by kernel_rfl]; simp [Zrh]) (by kernel_rfl) (by kernel_rfl) (by kernel_rfl) (by kernel_rfl) (by kernel_rfl) (by kernel_rfl) (by decide)
 ·cases hg
theorem ZCp (os:Os) (started:os.Started) (H:Type) (enc:TypeId×Value→H) :
  ReturnsInHanded {} Tryz.checked os 5 .any (fun w args=>(Rows.evalReachSpec.pre enc Tryz.prog Tryz.f5 [] false w args∧laidMetH Tryz.prog Zrh w)∧sizedMet enc Tryz.prog Tryz.f5 (OpenSpec.ofChange Rows.evalReachSpec) false w args) (Rows.evalReachSpec.post enc Tryz.prog Tryz.f5 false true false false):=by
 refine returnsInHanded_of_change_and (C:=Tryz.checked) (X:=fun w _=>laidMetH Tryz.prog Zrh w) (fun _ _ _ hh h=>h.of_heap hh) own started (by kernel_rfl) Tryz.func5
  (ChangeSpec.witness_shaped (enc:=enc) (C:=Tryz.checked) (os:=os) (X:=fun w _=>laidMetH Tryz.prog Zrh w) false (World.doorLaid Tryz.prog 19 os) #[.agg #[.int .i64 0,.int .i64 0,.slice none 0 0,.slice none 0 0,.slice none 0 0,.slice none 0 0],.slice none 0 0,.int .i64 0,.int .i64 0] 8 rfl (World.shaped_of_RefB (by kernel_rfl) (by kernel_rfl)) (by kernel_rfl) (by kernel_rfl) (by kernel_rfl) (Zzr os _)) ?_
 intro W base args ds gs before hval0 hW _ _ hL _
 have hval:∀(j:Nat) t v,Tryz.f5.params[j]? = some t→args[j]? = some v→Value.okWide Tryz.prog W .any base t v:=hval0
 have hW':=hW
 obtain⟨p,q,hA0,hV,rfl,hfz,hnd⟩:=hW
 have hA:DataW.TrodAll enc Tryz.prog W 0 (fun _=>true) true Tryz.f5.params.toList args.toList ds p:=hA0
 rw[Tryz.params5] at hA hval
 obtain⟨v0,vs0,d0,ds0,p0,q0,hargs,rfl,rfl,h0,r0⟩:=trodAll_cons hA
 obtain⟨v1,vs1,d1,ds1,p1,q1,rfl,rfl,rfl,h1,r1⟩:=trodAll_cons r0
 obtain⟨v2,vs2,d2,ds2,p2,q2,rfl,rfl,rfl,h2,r2⟩:=trodAll_cons r1
 obtain⟨v3,vs3,d3,ds3,p3,q3,rfl,rfl,rfl,h3,r3⟩:=trodAll_cons r2
 obtain⟨rfl,rfl,rfl⟩:=trodAll_nil r3
 obtain rfl:args = #[v0,v1,v2,v3]:=by cases args;simp_all
 obtain⟨rfl,rfl⟩:=trodVars_none hV
 have lt0:∀x∈p0,x.block<W.heap.size:=by obtain⟨m,hm⟩:=h0;exact DataW.trod_lt m _ _ _ hm
 obtain⟨x0,ok0,den0⟩:=ZsH (P:=Tryz.prog) (n:=8) (t:=27) (l:=ZtM.1) (ag:=ZtM.2) (by kernel_rfl) (hval 0 27 v0 rfl rfl) h0
 have lt1:∀x∈p1,x.block<W.heap.size:=by obtain⟨m,hm⟩:=h1;exact DataW.trod_lt m _ _ _ hm
 obtain⟨x1,ok1,den1⟩:=ZsH (P:=Tryz.prog) (n:=8) (t:=28) (l:=Ztu.1) (ag:=Ztu.2) (by kernel_rfl) (hval 1 28 v1 rfl rfl) h1
 have lt2:∀x∈p2,x.block<W.heap.size:=by obtain⟨m,hm⟩:=h2;exact DataW.trod_lt m _ _ _ hm
 obtain⟨x2,ok2,den2⟩:=ZsH (P:=Tryz.prog) (n:=8) (t:=3) (l:=Zro.1) (ag:=Zro.2) (by kernel_rfl) (hval 2 3 v2 rfl rfl) h2
 have lt3:∀x∈p3,x.block<W.heap.size:=by obtain⟨m,hm⟩:=h3;exact DataW.trod_lt m _ _ _ hm
 obtain⟨x3,ok3,den3⟩:=ZsH (P:=Tryz.prog) (n:=8) (t:=3) (l:=Zro.1) (ag:=Zro.2) (by kernel_rfl) (hval 3 3 v3 rfl rfl) h3
 obtain⟨H1,ev⟩:=ZsO x0 ok0 x1 ok1 x2 ok2 x3 ok3
 have den:ZbK All All All W [Znj ZtM.2 x0,Znj Ztu.2 x1,Znj Zro.2 x2,Znj Zro.2 x3] [v0,v1,v2,v3]:=⟨_,_,rfl,den0,⟨_,_,rfl,den1,⟨_,_,rfl,den2,⟨_,_,rfl,den3,rfl⟩⟩⟩⟩
 refine(Zxd ZD1 (Zx2 hL) den ev).mono fun e W' ⟨he,bel⟩=>?_
 subst he
 exact⟨_,rfl,_,_,_,[],_,[],hW',trodAll_mk1 (shut_bool Tryz.underlying4 _),(trodAll_cons_mk (Below.trod ZpN (by kernel_rfl) (of_decide_eq_true (by kernel_rfl)) h0 bel lt0) (trodAll_cons_mk (Below.trod ZpN (by kernel_rfl) (of_decide_eq_true (by kernel_rfl)) h1 bel lt1) (trodAll_cons_mk (Below.trod ZpN (by kernel_rfl) (of_decide_eq_true (by kernel_rfl)) h2 bel lt2) (trodAll_cons_mk (Below.trod ZpN (by kernel_rfl) (of_decide_eq_true (by kernel_rfl)) h3 bel lt3) trodAll_mk0)))),rfl,bel.frame _,fun h=>by cases h⟩
theorem over:Rows.evalReachRow.holds Tryz.pinned (OpenSpec.ofChange Rows.evalReachSpec):=
 OpenClaim.holds_of_wide 5 Tryz.f5 rfl rfl rfl rfl rfl rfl rfl ⟨rfl,rfl,rfl,rfl,rfl⟩ rfl rfl rfl rfl rfl (by kernel_rfl) Tryz.func5 (by kernel_rfl)
  (of_decide_eq_true (by kernel_rfl)) (by unfold Func.isWrapper;first | (rw[if_pos (by decide +kernel)];kernel_rfl) | (rw[if_neg (by decide +kernel)];exact⟨rfl,rfl⟩))
  (fun os started H enc _=>ZCp os started H enc)
theorem proved:Rows.EvalReachSaid:=over
theorem carded:Rows.EvalReachCardSaid:=
 Claim7.holds_tied_plain_at .later [] [.data, .data] true (true, "9d4c3a98efcc6f35452df6eff8f6fff9e7c70124e2ba0835c5e94d365ee12256") false
  proved (fun _ h=>by cases h) (by kernel_rfl) (fun _ h=>by cases h) evalReach_row_tie rfl ⟨rfl,rfl⟩ (by kernel_rfl) rfl
  (fun f fn hf hfn=>by
   obtain rfl : f = 5 := Option.some.inj ((show Tryz.prog.funcNamed "trefoil/trefoillaw08.EvalReach" = some 5 by kernel_rfl).symm.trans hf) |>.symm
   obtain rfl:fn=Tryz.f5:=(Option.some.inj (Tryz.func5.symm.trans hfn)).symm
   exact⟨by kernel_rfl,fun j t ht=>by
    rw[Tryz.params5] at ht
    have hm:t∈[27,28,3,3]:=by simpa using Array.mem_of_getElem? ht
    have hall:([27,28,3,3].all fun u=>!Tryz.prog.wantsStandIn u)=true:=by kernel_rfl
    exact(show Tryz.prog.wantsStandIn t=false by simpa using List.all_eq_true.1 hall t hm)⟩)
  (by kernel_rfl)
end Go.Proofs.YtnmbdjkbaihicaaGreatDoor.LawEvalReach
namespace Go.Proofs.YtnmbdjkbaihicaaGreatDoor
theorem evalReach_holds:Rows.EvalReachCardSaid:=LawEvalReach.carded
#print axioms evalReach_holds
end Go.Proofs.YtnmbdjkbaihicaaGreatDoor
