/- EvalOrder: part 6 of 6 of the proof: the row and the card of the law, out of what the evaluator says of it; without conditions. -/
import Derived.Test.YtnmbdjkbaihicaaDoorZEvalOrdere
import Derived.KernelRfl
import Derived.Test.YtnmbdjkbaihicaaDoorRows
import Derived.Test.YtnmbdjkbaihicaaDoorCards
import Derived.Test.YtnmbdjkbaihicaaDoorTie
import Derived.WalkKit
import Derived.ProofKit
import Derived.OpenShut
import Derived.ShutString
import Derived.ChangeOld
import Derived.Below
import Derived.SizedLaws
import Derived.Handed
import Derived.LaidMore
import Derived.Stop.Joined
import Derived.ChangeShapes
import Derived.Carry
import Derived.SevenTiedAt
set_option maxRecDepth 100000
set_option maxHeartbeats 40000000
namespace Go.Proofs.YtnmbdjkbaihicaaDoor
open Go Go.Proofs.YtnmbdjkbaihicaaDoorE
set_option linter.unusedVariables false
set_option linter.unusedSimpArgs false
def Zgq (b:Int) (c:Int) (m1_0:(List Int)) (m2_0:(List Zm)) (m3_0:(List Zh)) (m4_0:(List (Int×Int))) (m5_0:(List (Int×Int))) (m6_0:(List (Zi×Int))):Unit→V×Zp
  | r=>((.d (D.tup [])),[(.cells [(.sl 1 1),(.sl 7 2),(.sl 3 2),(.mp 4),(.mp 5),(.mp 6)]),(.arr 1 (List.map Zb m1_0)),.dead,(.arr 2 (List.map Zbg m3_0)),(.mp (mpD Zb Zb m4_0)),(.mp (mpD Zb Zb m5_0)),(.mp (mpD Zq Zb m6_0)),(.arr 2 (List.map ZC (m2_0++[(Zm.mk b c)])))])
theorem Zat {b:Int}{c:Int}{m1_0:(List Int)}{m2_0:(List Zm)}{m3_0:(List Zh)}{m4_0:(List (Int×Int))}{m5_0:(List (Int×Int))}{m6_0:(List (Zi×Int))}:∀r,(ZI b c m2_0)=some r→evW ctx 67 [(.ptr 0 0),(.d (Zb b)),(.d (Zb c))] [(.cells [(.sl 1 1),(.sl 2 2),(.sl 3 2),(.mp 4),(.mp 5),(.mp 6)]),(.arr 1 (List.map Zb m1_0)),(.arr 2 (List.map ZC m2_0)),(.arr 2 (List.map Zbg m3_0)),(.mp (mpD Zb Zb m4_0)),(.mp (mpD Zb Zb m5_0)),(.mp (mpD Zq Zb m6_0))]=some ((Zgq b c m1_0 m2_0 m3_0 m4_0 m5_0 m6_0) r):=by
 show ZN _ (fun r rhs=>rhs=some ((Zgq b c m1_0 m2_0 m3_0 m4_0 m5_0 m6_0) r)) _
 unfold ZI
 rw[Zfd ctx 67 Zzy _ _ rfl rfl]
 conv=>arg 3;whnf
 refine Zbe rfl ?_;conv=>arg 3;whnf
 refine Ze (ZgK ZC m2_0 1) ?_ ?_
 ·conv=>arg 3;whnf
  refine Zn (ZgJ ZC m2_0 [(Zm.mk b c)]) ?_;conv=>arg 3;whnf
  exact Zd rfl
 ·exact Z1
def Zgp (t0:Bool) (t1:Bool) (t2:Bool) (t3:Bool) (b:Zj) (c:Int) (m1_0:(List Int)) (m2_0:(List Zm)) (m3_0:(List Zh)) (m4_0:(List (Int×Int))) (m5_0:(List (Int×Int))) (m6_0:(List (Zi×Int))):(((List (Int×Int))×(List (Zi×Int))×(List Int)×(List Zm)×(List Zh))⊕((List Int)⊕Unit))→V×Zp
  | (.inl r)=>((.d (D.tup [])),[(.cells [(.sl 7 1),(.sl 8 2),(.sl 9 2),(.mp 4),(.mp 5),(.mp 6)]),.dead,.dead,.dead,(.mp (mpD Zb Zb (Zu (fun ka kb:Int=>(ka==kb)) m4_0 c (m3_0.length:Int)))),(.mp (mpD Zb Zb r.1)),(.mp (mpD Zq Zb r.2.1)),(.arr 1 (List.map Zb r.2.2.1)),(.arr 2 (List.map ZC r.2.2.2.1)),(.arr 2 (List.map Zbg r.2.2.2.2))])
  | (.inr (.inl r))=>((.d (D.tup [])),[(.cells [(.sl 7 1),(.sl 2 2),(.sl 8 2),(.mp 4),(.mp 5),(.mp 6)]),.dead,(.arr 2 (List.map ZC m2_0)),.dead,(.mp (mpD Zb Zb (Zu (fun ka kb:Int=>(ka==kb)) m4_0 c (m3_0.length:Int)))),(.mp (mpD Zb Zb (Zu (fun ka kb:Int=>(ka==kb)) m5_0 c (w64 ((List.length (m3_0++[(Zh.mk c 0)]):Int)-1))))),(.mp (mpD Zq Zb m6_0)),(.arr 1 (List.map Zb r)),(.arr 2 (List.map Zbg (m3_0++[(Zh.mk c 0)])))])
  | (.inr (.inr r))=>((.d (D.tup [])),[(.cells [(.sl 1 1),(.sl 2 2),(.sl 3 2),(.mp 4),(.mp 5),(.mp 6)]),(.arr 1 (List.map Zb m1_0)),(.arr 2 (List.map ZC m2_0)),(.arr 2 (List.map Zbg m3_0)),(.mp (mpD Zb Zb (Zu (fun ka kb:Int=>(ka==kb)) m4_0 c (m3_0.length:Int)))),(.mp (mpD Zb Zb m5_0)),(.mp (mpD Zq Zb m6_0))])
def ZfH (t0:Bool) (t1:Bool) (t2:Bool) (t3:Bool) (b:Zj) (c:Int) (m3_0:(List Zh)) (m4_0:(List (Int×Int))) (x0:(List Int)):((List (Int×Int))×(List (Zi×Int))×(List Int)×(List Zm)×(List Zh))→Ex×List V×Zp
  | r=>(.exit 0,[],[(.cells [(.sl 7 1),(.sl 8 2),(.sl 9 2),(.mp 4),(.mp 5),(.mp 6)]),.dead,.dead,.dead,(.mp (mpD Zb Zb (Zu (fun ka kb:Int=>(ka==kb)) m4_0 c (m3_0.length:Int)))),(.mp (mpD Zb Zb r.1)),(.mp (mpD Zq Zb r.2.1)),(.arr 1 (List.map Zb r.2.2.1)),(.arr 2 (List.map ZC r.2.2.2.1)),(.arr 2 (List.map Zbg r.2.2.2.2))])
theorem ZcF {t0:Bool}{t1:Bool}{t2:Bool}{t3:Bool}{b:Zj}{c:Int}{m3_0:(List Zh)}{m4_0:(List (Int×Int))}{x0:(List Int)}:∀(s14:Int×Int×(List (Int×Int))×(List (Zi×Int))×(List Int)×(List Zm)×(List Zh)) (r:((List (Int×Int))×(List (Zi×Int))×(List Int)×(List Zm)×(List Zh))),lp (ZB b c x0) s14=some r→lpW ctx 7 [0,2,4,6,7,26,27] [] ZoN [(.ptr 0 0),(.d (Zb c)),(.ptr 7 0),(.d (Zb s14.1)),(.d (D.list true (List.map Zb x0))),(.d (Zb (w64 ((x0.length:Int)+1)))),(.d (Zb s14.2.1))] [(.cells [(.sl 8 1),(.sl 9 2),(.sl 10 2),(.mp 4),(.mp 5),(.mp 6)]),.dead,.dead,.dead,(.mp (mpD Zb Zb (Zu (fun ka kb:Int=>(ka==kb)) m4_0 c (m3_0.length:Int)))),(.mp (mpD Zb Zb s14.2.2.1)),(.mp (mpD Zq Zb s14.2.2.2.1)),(.cells (dV t0 t1 t2 t3 b)),(.arr 1 (List.map Zb s14.2.2.2.2.1)),(.arr 2 (List.map ZC s14.2.2.2.2.2.1)),(.arr 2 (List.map Zbg s14.2.2.2.2.2.2))]=some ((ZfH t0 t1 t2 t3 b c m3_0 m4_0 x0) r):=by
 refine ZaT (ZfH t0 t1 t2 t3 b c m3_0 m4_0 x0) ?_
 intro s14 rcl ih
 show ZN _ _ (lpW _ _ _ _ _ _ _)
 unfold ZB
 rw[ZaV]
 conv=>arg 3;whnf
 refine Ze rfl ?_ ?_<;>conv=>arg 3;whnf
 ·refine Zl rfl rfl fun x15 hx15=>?_;conv=>arg 3;whnf
  refine Zn (ZH _ _) ?_;conv=>arg 3;whnf
  refine Ze rfl ?_ ?_<;>conv=>arg 3;whnf
  ·refine Zl rfl rfl fun x16 hx16=>?_;conv=>arg 3;whnf
   refine Zl rfl rfl fun x17 hx17=>?_;conv=>arg 3;whnf
   refine Zc _ ZaM fun x18 hx18=>?_;conv=>arg 3;whnf
   refine Zg (Zdj (f:=Zb) (g:=Zb) (fun ka kb:Int=>(ka==kb)) (fun _ _=>rfl) s14.2.2.1 c (w64 ((List.length (s14.2.2.2.2.2.2++[(Zh.mk c s14.2.1)]):Int)-1))) ?_;conv=>arg 3;whnf
   refine Ze rfl ?_ ?_<;>conv=>arg 3;whnf
   ·refine Zg (Zbq (f:=Zb) (g:=Zb) (fun ka kb:Int=>(ka==kb)) (fun _ _=>rfl) (Zu (fun ka kb:Int=>(ka==kb)) s14.2.2.1 c (w64 ((List.length (s14.2.2.2.2.2.2++[(Zh.mk c s14.2.1)]):Int)-1))) c 0) ?_;conv=>arg 3;whnf
    refine Zg (Zbq (f:=Zb) (g:=Zb) (fun ka kb:Int=>(ka==kb)) (fun _ _=>rfl) (Zu (fun ka kb:Int=>(ka==kb)) s14.2.2.1 c (w64 ((List.length (s14.2.2.2.2.2.2++[(Zh.mk c s14.2.1)]):Int)-1))) c 0) ?_;conv=>arg 3;whnf
    refine Zc _ Zat fun x19 hx19=>?_;conv=>arg 3;whnf
    refine Zl rfl rfl fun x20 hx20=>?_;conv=>arg 3;whnf
    refine Zl rfl rfl fun x21 hx21=>?_;conv=>arg 3;whnf
    refine Zg (Zbq (f:=Zb) (g:=Zb) (fun ka kb:Int=>(ka==kb)) (fun _ _=>rfl) (Zu (fun ka kb:Int=>(ka==kb)) s14.2.2.1 c (w64 ((List.length (s14.2.2.2.2.2.2++[(Zh.mk c s14.2.1)]):Int)-1))) c 0) ?_;conv=>arg 3;whnf
    refine Zg (Zdj (f:=Zq) (g:=Zb) (fun ka kb:Zi=>((ka.maker==kb.maker)&&((ka.user==kb.user)&&((ka.pos==kb.pos)&&true)))) (fun _ _=>rfl) s14.2.2.2.1 x21 (Z4 (fun ka kb:Int=>(ka==kb)) (Zu (fun ka kb:Int=>(ka==kb)) s14.2.2.1 c (w64 ((List.length (s14.2.2.2.2.2.2++[(Zh.mk c s14.2.1)]):Int)-1))) c 0)) ?_;conv=>arg 3;whnf
    exact Zf (ih _)
   ·exact Zf (ih _)
  ·refine Zc _ ZaM fun x22 hx22=>?_;conv=>arg 3;whnf
   refine Zg (Zdj (f:=Zb) (g:=Zb) (fun ka kb:Int=>(ka==kb)) (fun _ _=>rfl) s14.2.2.1 c (w64 ((List.length (s14.2.2.2.2.2.2++[(Zh.mk c s14.2.1)]):Int)-1))) ?_;conv=>arg 3;whnf
   refine Ze rfl ?_ ?_<;>conv=>arg 3;whnf
   ·refine Zg (Zbq (f:=Zb) (g:=Zb) (fun ka kb:Int=>(ka==kb)) (fun _ _=>rfl) (Zu (fun ka kb:Int=>(ka==kb)) s14.2.2.1 c (w64 ((List.length (s14.2.2.2.2.2.2++[(Zh.mk c s14.2.1)]):Int)-1))) c 0) ?_;conv=>arg 3;whnf
    refine Zg (Zbq (f:=Zb) (g:=Zb) (fun ka kb:Int=>(ka==kb)) (fun _ _=>rfl) (Zu (fun ka kb:Int=>(ka==kb)) s14.2.2.1 c (w64 ((List.length (s14.2.2.2.2.2.2++[(Zh.mk c s14.2.1)]):Int)-1))) c 0) ?_;conv=>arg 3;whnf
    refine Zc _ Zat fun x23 hx23=>?_;conv=>arg 3;whnf
    refine Zl rfl rfl fun x24 hx24=>?_;conv=>arg 3;whnf
    refine Zl rfl rfl fun x25 hx25=>?_;conv=>arg 3;whnf
    refine Zg (Zbq (f:=Zb) (g:=Zb) (fun ka kb:Int=>(ka==kb)) (fun _ _=>rfl) (Zu (fun ka kb:Int=>(ka==kb)) s14.2.2.1 c (w64 ((List.length (s14.2.2.2.2.2.2++[(Zh.mk c s14.2.1)]):Int)-1))) c 0) ?_;conv=>arg 3;whnf
    refine Zg (Zdj (f:=Zq) (g:=Zb) (fun ka kb:Zi=>((ka.maker==kb.maker)&&((ka.user==kb.user)&&((ka.pos==kb.pos)&&true)))) (fun _ _=>rfl) s14.2.2.2.1 x25 (Z4 (fun ka kb:Int=>(ka==kb)) (Zu (fun ka kb:Int=>(ka==kb)) s14.2.2.1 c (w64 ((List.length (s14.2.2.2.2.2.2++[(Zh.mk c s14.2.1)]):Int)-1))) c 0)) ?_;conv=>arg 3;whnf
    exact Zf (ih _)
   ·exact Zf (ih _)
 ·exact Zd rfl
def Zff (t0:Bool) (t1:Bool) (t2:Bool) (t3:Bool) (b:Zj) (c:Int) (m1_0:(List Int)) (m2_0:(List Zm)) (m3_0:(List Zh)) (m4_0:(List (Int×Int))) (m5_0:(List (Int×Int))) (m6_0:(List (Zi×Int))) (x0:(List Int)) (x4:Zi):(((List (Int×Int))×(List (Zi×Int))×(List Int)×(List Zm)×(List Zh))⊕Unit)→Ex×List V×Zp
  | (.inl r)=>(.exit 0,[],[(.cells [(.sl 7 1),(.sl 8 2),(.sl 9 2),(.mp 4),(.mp 5),(.mp 6)]),.dead,.dead,.dead,(.mp (mpD Zb Zb (Zu (fun ka kb:Int=>(ka==kb)) m4_0 c (m3_0.length:Int)))),(.mp (mpD Zb Zb r.1)),(.mp (mpD Zq Zb r.2.1)),(.arr 1 (List.map Zb r.2.2.1)),(.arr 2 (List.map ZC r.2.2.2.1)),(.arr 2 (List.map Zbg r.2.2.2.2))])
  | (.inr r)=>(.exit 0,[],[(.cells [(.sl 7 1),(.sl 2 2),(.sl 8 2),(.mp 4),(.mp 5),(.mp 6)]),.dead,(.arr 2 (List.map ZC m2_0)),.dead,(.mp (mpD Zb Zb (Zu (fun ka kb:Int=>(ka==kb)) m4_0 c (m3_0.length:Int)))),(.mp (mpD Zb Zb (Zu (fun ka kb:Int=>(ka==kb)) m5_0 c (w64 ((List.length (m3_0++[(Zh.mk c 0)]):Int)-1))))),(.mp (mpD Zq Zb m6_0)),(.arr 1 (List.map Zb (m1_0++[(w64 (x4.pos-0))]))),(.arr 2 (List.map Zbg (m3_0++[(Zh.mk c 0)])))])
theorem Zhj {t0:Bool}{t1:Bool}{t2:Bool}{t3:Bool}{b:Zj}{c:Int}{m1_0:(List Int)}{m2_0:(List Zm)}{m3_0:(List Zh)}{m4_0:(List (Int×Int))}{m5_0:(List (Int×Int))}{m6_0:(List (Zi×Int))}{x0:(List Int)}{x4:Zi}:∀(s6:Unit) (r:(((List (Int×Int))×(List (Zi×Int))×(List Int)×(List Zm)×(List Zh))⊕Unit)),lp (Zbs b c m1_0 m2_0 m3_0 m5_0 m6_0 x0 x4) s6=some r→lpW ctx 7 [0,2,4,6,7,26,27] [] ZoN [(.ptr 0 0),(.d (Zb c)),(.ptr 7 0),(.d (Zb x4.pos)),(.d (D.list true (List.map Zb x0))),(.d (Zb (w64 ((x0.length:Int)+1)))),(.d (Zb 1))] [(.cells [(.sl 8 1),(.sl 2 2),(.sl 9 2),(.mp 4),(.mp 5),(.mp 6)]),.dead,(.arr 2 (List.map ZC m2_0)),.dead,(.mp (mpD Zb Zb (Zu (fun ka kb:Int=>(ka==kb)) m4_0 c (m3_0.length:Int)))),(.mp (mpD Zb Zb (Zu (fun ka kb:Int=>(ka==kb)) m5_0 c (w64 ((List.length (m3_0++[(Zh.mk c 0)]):Int)-1))))),(.mp (mpD Zq Zb m6_0)),(.cells (dV t0 t1 t2 t3 b)),(.arr 1 (List.map Zb (m1_0++[(w64 (x4.pos-0))]))),(.arr 2 (List.map Zbg (m3_0++[(Zh.mk c 0)])))]=some ((Zff t0 t1 t2 t3 b c m1_0 m2_0 m3_0 m4_0 m5_0 m6_0 x0 x4) r):=by
 refine ZaT (Zff t0 t1 t2 t3 b c m1_0 m2_0 m3_0 m4_0 m5_0 m6_0 x0 x4) ?_
 intro s6 rcl ih
 show ZN _ _ (lpW _ _ _ _ _ _ _)
 unfold Zbs
 rw[ZaV]
 conv=>arg 3;whnf
 refine Ze rfl ?_ ?_<;>conv=>arg 3;whnf
 ·refine Zl rfl rfl fun x7 hx7=>?_;conv=>arg 3;whnf
  refine Zn (ZH _ _) ?_;conv=>arg 3;whnf
  refine Ze rfl ?_ ?_<;>conv=>arg 3;whnf
  ·refine Zl rfl rfl fun x8 hx8=>?_;conv=>arg 3;whnf
   refine Zl rfl rfl fun x9 hx9=>?_;conv=>arg 3;whnf
   refine Zc _ ZaM fun x10 hx10=>?_;conv=>arg 3;whnf
   refine Zg (Zdj (f:=Zb) (g:=Zb) (fun ka kb:Int=>(ka==kb)) (fun _ _=>rfl) (Zu (fun ka kb:Int=>(ka==kb)) m5_0 c (w64 ((List.length (m3_0++[(Zh.mk c 0)]):Int)-1))) c (w64 ((List.length ((m3_0++[(Zh.mk c 0)])++[(Zh.mk c 1)]):Int)-1))) ?_;conv=>arg 3;whnf
   refine Zbe rfl ?_;conv=>arg 3;whnf
   refine Zg (Zbq (f:=Zb) (g:=Zb) (fun ka kb:Int=>(ka==kb)) (fun _ _=>rfl) (Zu (fun ka kb:Int=>(ka==kb)) (Zu (fun ka kb:Int=>(ka==kb)) m5_0 c (w64 ((List.length (m3_0++[(Zh.mk c 0)]):Int)-1))) c (w64 ((List.length ((m3_0++[(Zh.mk c 0)])++[(Zh.mk c 1)]):Int)-1))) c 0) ?_;conv=>arg 3;whnf
   refine Zg (Zbq (f:=Zb) (g:=Zb) (fun ka kb:Int=>(ka==kb)) (fun _ _=>rfl) (Zu (fun ka kb:Int=>(ka==kb)) (Zu (fun ka kb:Int=>(ka==kb)) m5_0 c (w64 ((List.length (m3_0++[(Zh.mk c 0)]):Int)-1))) c (w64 ((List.length ((m3_0++[(Zh.mk c 0)])++[(Zh.mk c 1)]):Int)-1))) c 0) ?_;conv=>arg 3;whnf
   refine Zc _ Zat fun x11 hx11=>?_;conv=>arg 3;whnf
   refine Zl rfl rfl fun x12 hx12=>?_;conv=>arg 3;whnf
   refine Zl rfl rfl fun x13 hx13=>?_;conv=>arg 3;whnf
   refine Zg (Zbq (f:=Zb) (g:=Zb) (fun ka kb:Int=>(ka==kb)) (fun _ _=>rfl) (Zu (fun ka kb:Int=>(ka==kb)) (Zu (fun ka kb:Int=>(ka==kb)) m5_0 c (w64 ((List.length (m3_0++[(Zh.mk c 0)]):Int)-1))) c (w64 ((List.length ((m3_0++[(Zh.mk c 0)])++[(Zh.mk c 1)]):Int)-1))) c 0) ?_;conv=>arg 3;whnf
   refine Zg (Zdj (f:=Zq) (g:=Zb) (fun ka kb:Zi=>((ka.maker==kb.maker)&&((ka.user==kb.user)&&((ka.pos==kb.pos)&&true)))) (fun _ _=>rfl) m6_0 x13 (Z4 (fun ka kb:Int=>(ka==kb)) (Zu (fun ka kb:Int=>(ka==kb)) (Zu (fun ka kb:Int=>(ka==kb)) m5_0 c (w64 ((List.length (m3_0++[(Zh.mk c 0)]):Int)-1))) c (w64 ((List.length ((m3_0++[(Zh.mk c 0)])++[(Zh.mk c 1)]):Int)-1))) c 0)) ?_;conv=>arg 3;whnf
   refine Zc _ (ZcF _) fun r26 hr26=>?_;conv=>arg 3;whnf
   exact Zd rfl
  ·refine Zc _ ZaM fun x27 hx27=>?_;conv=>arg 3;whnf
   refine Zg (Zdj (f:=Zb) (g:=Zb) (fun ka kb:Int=>(ka==kb)) (fun _ _=>rfl) (Zu (fun ka kb:Int=>(ka==kb)) m5_0 c (w64 ((List.length (m3_0++[(Zh.mk c 0)]):Int)-1))) c (w64 ((List.length ((m3_0++[(Zh.mk c 0)])++[(Zh.mk c 1)]):Int)-1))) ?_;conv=>arg 3;whnf
   refine Zbe rfl ?_;conv=>arg 3;whnf
   refine Zg (Zbq (f:=Zb) (g:=Zb) (fun ka kb:Int=>(ka==kb)) (fun _ _=>rfl) (Zu (fun ka kb:Int=>(ka==kb)) (Zu (fun ka kb:Int=>(ka==kb)) m5_0 c (w64 ((List.length (m3_0++[(Zh.mk c 0)]):Int)-1))) c (w64 ((List.length ((m3_0++[(Zh.mk c 0)])++[(Zh.mk c 1)]):Int)-1))) c 0) ?_;conv=>arg 3;whnf
   refine Zg (Zbq (f:=Zb) (g:=Zb) (fun ka kb:Int=>(ka==kb)) (fun _ _=>rfl) (Zu (fun ka kb:Int=>(ka==kb)) (Zu (fun ka kb:Int=>(ka==kb)) m5_0 c (w64 ((List.length (m3_0++[(Zh.mk c 0)]):Int)-1))) c (w64 ((List.length ((m3_0++[(Zh.mk c 0)])++[(Zh.mk c 1)]):Int)-1))) c 0) ?_;conv=>arg 3;whnf
   refine Zc _ Zat fun x28 hx28=>?_;conv=>arg 3;whnf
   refine Zl rfl rfl fun x29 hx29=>?_;conv=>arg 3;whnf
   refine Zl rfl rfl fun x30 hx30=>?_;conv=>arg 3;whnf
   refine Zg (Zbq (f:=Zb) (g:=Zb) (fun ka kb:Int=>(ka==kb)) (fun _ _=>rfl) (Zu (fun ka kb:Int=>(ka==kb)) (Zu (fun ka kb:Int=>(ka==kb)) m5_0 c (w64 ((List.length (m3_0++[(Zh.mk c 0)]):Int)-1))) c (w64 ((List.length ((m3_0++[(Zh.mk c 0)])++[(Zh.mk c 1)]):Int)-1))) c 0) ?_;conv=>arg 3;whnf
   refine Zg (Zdj (f:=Zq) (g:=Zb) (fun ka kb:Zi=>((ka.maker==kb.maker)&&((ka.user==kb.user)&&((ka.pos==kb.pos)&&true)))) (fun _ _=>rfl) m6_0 x30 (Z4 (fun ka kb:Int=>(ka==kb)) (Zu (fun ka kb:Int=>(ka==kb)) (Zu (fun ka kb:Int=>(ka==kb)) m5_0 c (w64 ((List.length (m3_0++[(Zh.mk c 0)]):Int)-1))) c (w64 ((List.length ((m3_0++[(Zh.mk c 0)])++[(Zh.mk c 1)]):Int)-1))) c 0)) ?_;conv=>arg 3;whnf
   refine Zc _ (ZcF _) fun r43 hr43=>?_;conv=>arg 3;whnf
   exact Zd rfl
 ·exact Zd rfl
def Zfj (t0:Bool) (t1:Bool) (t2:Bool) (t3:Bool) (b:Zj) (c:Int) (m1_0:(List Int)) (m2_0:(List Zm)) (m3_0:(List Zh)) (m4_0:(List (Int×Int))) (m5_0:(List (Int×Int))) (m6_0:(List (Zi×Int))) (x0:(List Int)) (x2:ZV):(((List (Int×Int))×(List (Zi×Int))×(List Int)×(List Zm)×(List Zh))⊕Unit)→Ex×List V×Zp
  | (.inl r)=>(.exit 0,[],[(.cells [(.sl 7 1),(.sl 8 2),(.sl 9 2),(.mp 4),(.mp 5),(.mp 6)]),.dead,.dead,.dead,(.mp (mpD Zb Zb (Zu (fun ka kb:Int=>(ka==kb)) m4_0 c (m3_0.length:Int)))),(.mp (mpD Zb Zb r.1)),(.mp (mpD Zq Zb r.2.1)),(.arr 1 (List.map Zb r.2.2.1)),(.arr 2 (List.map ZC r.2.2.2.1)),(.arr 2 (List.map Zbg r.2.2.2.2))])
  | (.inr r)=>(.exit 0,[],[(.cells [(.sl 7 1),(.sl 2 2),(.sl 8 2),(.mp 4),(.mp 5),(.mp 6)]),.dead,(.arr 2 (List.map ZC m2_0)),.dead,(.mp (mpD Zb Zb (Zu (fun ka kb:Int=>(ka==kb)) m4_0 c (m3_0.length:Int)))),(.mp (mpD Zb Zb (Zu (fun ka kb:Int=>(ka==kb)) m5_0 c (w64 ((List.length (m3_0++[(Zh.mk c 0)]):Int)-1))))),(.mp (mpD Zq Zb m6_0)),(.arr 1 (List.map Zb (m1_0++[(w64 (x2.work-0))]))),(.arr 2 (List.map Zbg (m3_0++[(Zh.mk c 0)])))])
theorem Zhr {t0:Bool}{t1:Bool}{t2:Bool}{t3:Bool}{b:Zj}{c:Int}{m1_0:(List Int)}{m2_0:(List Zm)}{m3_0:(List Zh)}{m4_0:(List (Int×Int))}{m5_0:(List (Int×Int))}{m6_0:(List (Zi×Int))}{x0:(List Int)}{x2:ZV}:∀(s46:Unit) (r:(((List (Int×Int))×(List (Zi×Int))×(List Int)×(List Zm)×(List Zh))⊕Unit)),lp (Zcg b c m1_0 m2_0 m3_0 m5_0 m6_0 x0 x2) s46=some r→lpW ctx 7 [0,2,4,6,7,26,27] [] ZoN [(.ptr 0 0),(.d (Zb c)),(.ptr 7 0),(.d (Zb x2.work)),(.d (D.list true (List.map Zb x0))),(.d (Zb (w64 ((x0.length:Int)+1)))),(.d (Zb 1))] [(.cells [(.sl 8 1),(.sl 2 2),(.sl 9 2),(.mp 4),(.mp 5),(.mp 6)]),.dead,(.arr 2 (List.map ZC m2_0)),.dead,(.mp (mpD Zb Zb (Zu (fun ka kb:Int=>(ka==kb)) m4_0 c (m3_0.length:Int)))),(.mp (mpD Zb Zb (Zu (fun ka kb:Int=>(ka==kb)) m5_0 c (w64 ((List.length (m3_0++[(Zh.mk c 0)]):Int)-1))))),(.mp (mpD Zq Zb m6_0)),(.cells (dV t0 t1 t2 t3 b)),(.arr 1 (List.map Zb (m1_0++[(w64 (x2.work-0))]))),(.arr 2 (List.map Zbg (m3_0++[(Zh.mk c 0)])))]=some ((Zfj t0 t1 t2 t3 b c m1_0 m2_0 m3_0 m4_0 m5_0 m6_0 x0 x2) r):=by
 refine ZaT (Zfj t0 t1 t2 t3 b c m1_0 m2_0 m3_0 m4_0 m5_0 m6_0 x0 x2) ?_
 intro s46 rcl ih
 show ZN _ _ (lpW _ _ _ _ _ _ _)
 unfold Zcg
 rw[ZaV]
 conv=>arg 3;whnf
 refine Ze rfl ?_ ?_<;>conv=>arg 3;whnf
 ·refine Zl rfl rfl fun x47 hx47=>?_;conv=>arg 3;whnf
  refine Zn (ZH _ _) ?_;conv=>arg 3;whnf
  refine Ze rfl ?_ ?_<;>conv=>arg 3;whnf
  ·refine Zl rfl rfl fun x48 hx48=>?_;conv=>arg 3;whnf
   refine Zl rfl rfl fun x49 hx49=>?_;conv=>arg 3;whnf
   refine Zc _ ZaM fun x50 hx50=>?_;conv=>arg 3;whnf
   refine Zg (Zdj (f:=Zb) (g:=Zb) (fun ka kb:Int=>(ka==kb)) (fun _ _=>rfl) (Zu (fun ka kb:Int=>(ka==kb)) m5_0 c (w64 ((List.length (m3_0++[(Zh.mk c 0)]):Int)-1))) c (w64 ((List.length ((m3_0++[(Zh.mk c 0)])++[(Zh.mk c 1)]):Int)-1))) ?_;conv=>arg 3;whnf
   refine Zbe rfl ?_;conv=>arg 3;whnf
   refine Zg (Zbq (f:=Zb) (g:=Zb) (fun ka kb:Int=>(ka==kb)) (fun _ _=>rfl) (Zu (fun ka kb:Int=>(ka==kb)) (Zu (fun ka kb:Int=>(ka==kb)) m5_0 c (w64 ((List.length (m3_0++[(Zh.mk c 0)]):Int)-1))) c (w64 ((List.length ((m3_0++[(Zh.mk c 0)])++[(Zh.mk c 1)]):Int)-1))) c 0) ?_;conv=>arg 3;whnf
   refine Zg (Zbq (f:=Zb) (g:=Zb) (fun ka kb:Int=>(ka==kb)) (fun _ _=>rfl) (Zu (fun ka kb:Int=>(ka==kb)) (Zu (fun ka kb:Int=>(ka==kb)) m5_0 c (w64 ((List.length (m3_0++[(Zh.mk c 0)]):Int)-1))) c (w64 ((List.length ((m3_0++[(Zh.mk c 0)])++[(Zh.mk c 1)]):Int)-1))) c 0) ?_;conv=>arg 3;whnf
   refine Zc _ Zat fun x51 hx51=>?_;conv=>arg 3;whnf
   refine Zl rfl rfl fun x52 hx52=>?_;conv=>arg 3;whnf
   refine Zl rfl rfl fun x53 hx53=>?_;conv=>arg 3;whnf
   refine Zg (Zbq (f:=Zb) (g:=Zb) (fun ka kb:Int=>(ka==kb)) (fun _ _=>rfl) (Zu (fun ka kb:Int=>(ka==kb)) (Zu (fun ka kb:Int=>(ka==kb)) m5_0 c (w64 ((List.length (m3_0++[(Zh.mk c 0)]):Int)-1))) c (w64 ((List.length ((m3_0++[(Zh.mk c 0)])++[(Zh.mk c 1)]):Int)-1))) c 0) ?_;conv=>arg 3;whnf
   refine Zg (Zdj (f:=Zq) (g:=Zb) (fun ka kb:Zi=>((ka.maker==kb.maker)&&((ka.user==kb.user)&&((ka.pos==kb.pos)&&true)))) (fun _ _=>rfl) m6_0 x53 (Z4 (fun ka kb:Int=>(ka==kb)) (Zu (fun ka kb:Int=>(ka==kb)) (Zu (fun ka kb:Int=>(ka==kb)) m5_0 c (w64 ((List.length (m3_0++[(Zh.mk c 0)]):Int)-1))) c (w64 ((List.length ((m3_0++[(Zh.mk c 0)])++[(Zh.mk c 1)]):Int)-1))) c 0)) ?_;conv=>arg 3;whnf
   refine Zc _ (ZcF _) fun r66 hr66=>?_;conv=>arg 3;whnf
   exact Zd rfl
  ·refine Zc _ ZaM fun x67 hx67=>?_;conv=>arg 3;whnf
   refine Zg (Zdj (f:=Zb) (g:=Zb) (fun ka kb:Int=>(ka==kb)) (fun _ _=>rfl) (Zu (fun ka kb:Int=>(ka==kb)) m5_0 c (w64 ((List.length (m3_0++[(Zh.mk c 0)]):Int)-1))) c (w64 ((List.length ((m3_0++[(Zh.mk c 0)])++[(Zh.mk c 1)]):Int)-1))) ?_;conv=>arg 3;whnf
   refine Zbe rfl ?_;conv=>arg 3;whnf
   refine Zg (Zbq (f:=Zb) (g:=Zb) (fun ka kb:Int=>(ka==kb)) (fun _ _=>rfl) (Zu (fun ka kb:Int=>(ka==kb)) (Zu (fun ka kb:Int=>(ka==kb)) m5_0 c (w64 ((List.length (m3_0++[(Zh.mk c 0)]):Int)-1))) c (w64 ((List.length ((m3_0++[(Zh.mk c 0)])++[(Zh.mk c 1)]):Int)-1))) c 0) ?_;conv=>arg 3;whnf
   refine Zg (Zbq (f:=Zb) (g:=Zb) (fun ka kb:Int=>(ka==kb)) (fun _ _=>rfl) (Zu (fun ka kb:Int=>(ka==kb)) (Zu (fun ka kb:Int=>(ka==kb)) m5_0 c (w64 ((List.length (m3_0++[(Zh.mk c 0)]):Int)-1))) c (w64 ((List.length ((m3_0++[(Zh.mk c 0)])++[(Zh.mk c 1)]):Int)-1))) c 0) ?_;conv=>arg 3;whnf
   refine Zc _ Zat fun x68 hx68=>?_;conv=>arg 3;whnf
   refine Zl rfl rfl fun x69 hx69=>?_;conv=>arg 3;whnf
   refine Zl rfl rfl fun x70 hx70=>?_;conv=>arg 3;whnf
   refine Zg (Zbq (f:=Zb) (g:=Zb) (fun ka kb:Int=>(ka==kb)) (fun _ _=>rfl) (Zu (fun ka kb:Int=>(ka==kb)) (Zu (fun ka kb:Int=>(ka==kb)) m5_0 c (w64 ((List.length (m3_0++[(Zh.mk c 0)]):Int)-1))) c (w64 ((List.length ((m3_0++[(Zh.mk c 0)])++[(Zh.mk c 1)]):Int)-1))) c 0) ?_;conv=>arg 3;whnf
   refine Zg (Zdj (f:=Zq) (g:=Zb) (fun ka kb:Zi=>((ka.maker==kb.maker)&&((ka.user==kb.user)&&((ka.pos==kb.pos)&&true)))) (fun _ _=>rfl) m6_0 x70 (Z4 (fun ka kb:Int=>(ka==kb)) (Zu (fun ka kb:Int=>(ka==kb)) (Zu (fun ka kb:Int=>(ka==kb)) m5_0 c (w64 ((List.length (m3_0++[(Zh.mk c 0)]):Int)-1))) c (w64 ((List.length ((m3_0++[(Zh.mk c 0)])++[(Zh.mk c 1)]):Int)-1))) c 0)) ?_;conv=>arg 3;whnf
   refine Zc _ (ZcF _) fun r83 hr83=>?_;conv=>arg 3;whnf
   exact Zd rfl
 ·exact Zd rfl
def Ze9 (t0:Bool) (t1:Bool) (t2:Bool) (t3:Bool) (b:Zj) (c:Int) (m1_0:(List Int)) (m2_0:(List Zm)) (m3_0:(List Zh)) (m4_0:(List (Int×Int))) (m5_0:(List (Int×Int))) (m6_0:(List (Zi×Int))) (x0:(List Int)):(((List (Int×Int))×(List (Zi×Int))×(List Int)×(List Zm)×(List Zh))⊕((List Int)⊕Unit))→Ex×List V×Zp
  | (.inl r)=>(.exit 0,[],[(.cells [(.sl 7 1),(.sl 8 2),(.sl 9 2),(.mp 4),(.mp 5),(.mp 6)]),.dead,.dead,.dead,(.mp (mpD Zb Zb (Zu (fun ka kb:Int=>(ka==kb)) m4_0 c (m3_0.length:Int)))),(.mp (mpD Zb Zb r.1)),(.mp (mpD Zq Zb r.2.1)),(.arr 1 (List.map Zb r.2.2.1)),(.arr 2 (List.map ZC r.2.2.2.1)),(.arr 2 (List.map Zbg r.2.2.2.2))])
  | (.inr (.inl r))=>(.exit 0,[],[(.cells [(.sl 7 1),(.sl 2 2),(.sl 8 2),(.mp 4),(.mp 5),(.mp 6)]),.dead,(.arr 2 (List.map ZC m2_0)),.dead,(.mp (mpD Zb Zb (Zu (fun ka kb:Int=>(ka==kb)) m4_0 c (m3_0.length:Int)))),(.mp (mpD Zb Zb (Zu (fun ka kb:Int=>(ka==kb)) m5_0 c (w64 ((List.length (m3_0++[(Zh.mk c 0)]):Int)-1))))),(.mp (mpD Zq Zb m6_0)),(.arr 1 (List.map Zb r)),(.arr 2 (List.map Zbg (m3_0++[(Zh.mk c 0)])))])
  | (.inr (.inr r))=>(.exit 0,[],[(.cells [(.sl 1 1),(.sl 2 2),(.sl 3 2),(.mp 4),(.mp 5),(.mp 6)]),(.arr 1 (List.map Zb m1_0)),(.arr 2 (List.map ZC m2_0)),(.arr 2 (List.map Zbg m3_0)),(.mp (mpD Zb Zb (Zu (fun ka kb:Int=>(ka==kb)) m4_0 c (m3_0.length:Int)))),(.mp (mpD Zb Zb m5_0)),(.mp (mpD Zq Zb m6_0))])
theorem Zhs {t0:Bool}{t1:Bool}{t2:Bool}{t3:Bool}{b:Zj}{c:Int}{m1_0:(List Int)}{m2_0:(List Zm)}{m3_0:(List Zh)}{m4_0:(List (Int×Int))}{m5_0:(List (Int×Int))}{m6_0:(List (Zi×Int))}{x0:(List Int)}:∀(s1:Unit) (r:(((List (Int×Int))×(List (Zi×Int))×(List Int)×(List Zm)×(List Zh))⊕((List Int)⊕Unit))),lp (Zbt b c m1_0 m2_0 m3_0 m5_0 m6_0 x0) s1=some r→lpW ctx 7 [0,2,4,6,7,26,27] [] ZoN [(.ptr 0 0),(.d (Zb c)),(.ptr 7 0),(.d (Zb 0)),(.d (D.list true (List.map Zb x0))),(.d (Zb (w64 ((x0.length:Int)+1)))),(.d (Zb 0))] [(.cells [(.sl 1 1),(.sl 2 2),(.sl 3 2),(.mp 4),(.mp 5),(.mp 6)]),(.arr 1 (List.map Zb m1_0)),(.arr 2 (List.map ZC m2_0)),(.arr 2 (List.map Zbg m3_0)),(.mp (mpD Zb Zb (Zu (fun ka kb:Int=>(ka==kb)) m4_0 c (m3_0.length:Int)))),(.mp (mpD Zb Zb m5_0)),(.mp (mpD Zq Zb m6_0)),(.cells (dV t0 t1 t2 t3 b))]=some ((Ze9 t0 t1 t2 t3 b c m1_0 m2_0 m3_0 m4_0 m5_0 m6_0 x0) r):=by
 refine ZaT (Ze9 t0 t1 t2 t3 b c m1_0 m2_0 m3_0 m4_0 m5_0 m6_0 x0) ?_
 intro s1 rcl ih
 show ZN _ _ (lpW _ _ _ _ _ _ _)
 unfold Zbt
 rw[ZaV]
 conv=>arg 3;whnf
 refine Ze rfl ?_ ?_<;>conv=>arg 3;whnf
 ·refine Zl rfl rfl fun x2 hx2=>?_;conv=>arg 3;whnf
  refine Zn (ZH _ _) ?_;conv=>arg 3;whnf
  refine Ze rfl ?_ ?_<;>conv=>arg 3;whnf
  ·refine Zl rfl rfl fun x3 hx3=>?_;conv=>arg 3;whnf
   refine Zl rfl rfl fun x4 hx4=>?_;conv=>arg 3;whnf
   refine Zc _ ZaM fun x5 hx5=>?_;conv=>arg 3;whnf
   refine Zg (Zdj (f:=Zb) (g:=Zb) (fun ka kb:Int=>(ka==kb)) (fun _ _=>rfl) m5_0 c (w64 ((List.length (m3_0++[(Zh.mk c 0)]):Int)-1))) ?_;conv=>arg 3;whnf
   refine Zan rfl ?_;conv=>arg 3;whnf
   refine Zc _ (Zhj _) fun r44 hr44=>?_
   clear hr44
   rcases r44 with r44 | r44
   ·conv=>arg 3;whnf
    exact Zd rfl
   ·conv=>arg 3;whnf
    exact Zd rfl
  ·refine Zc _ ZaM fun x45 hx45=>?_;conv=>arg 3;whnf
   refine Zg (Zdj (f:=Zb) (g:=Zb) (fun ka kb:Int=>(ka==kb)) (fun _ _=>rfl) m5_0 c (w64 ((List.length (m3_0++[(Zh.mk c 0)]):Int)-1))) ?_;conv=>arg 3;whnf
   refine Zan rfl ?_;conv=>arg 3;whnf
   refine Zc _ (Zhr _) fun r84 hr84=>?_
   clear hr84
   rcases r84 with r84 | r84
   ·conv=>arg 3;whnf
    exact Zd rfl
   ·conv=>arg 3;whnf
    exact Zd rfl
 ·exact Zd rfl
theorem Zjx {t0:Bool}{t1:Bool}{t2:Bool}{t3:Bool}{b:Zj}{c:Int}{m1_0:(List Int)}{m2_0:(List Zm)}{m3_0:(List Zh)}{m4_0:(List (Int×Int))}{m5_0:(List (Int×Int))}{m6_0:(List (Zi×Int))}:∀r,(Zdk b c m1_0 m2_0 m3_0 m5_0 m6_0)=some r→evW ctx 66 [(.ptr 0 0),(.d (D.agg (dA t0 t1 t2 t3 b))),(.d (Zb c))] [(.cells [(.sl 1 1),(.sl 2 2),(.sl 3 2),(.mp 4),(.mp 5),(.mp 6)]),(.arr 1 (List.map Zb m1_0)),(.arr 2 (List.map ZC m2_0)),(.arr 2 (List.map Zbg m3_0)),(.mp (mpD Zb Zb m4_0)),(.mp (mpD Zb Zb m5_0)),(.mp (mpD Zq Zb m6_0))]=some ((Zgp t0 t1 t2 t3 b c m1_0 m2_0 m3_0 m4_0 m5_0 m6_0) r):=by
 show ZN _ (fun r rhs=>rhs=some ((Zgp t0 t1 t2 t3 b c m1_0 m2_0 m3_0 m4_0 m5_0 m6_0) r)) _
 unfold Zdk
 rw[Zfd ctx 66 ZzH _ _ rfl rfl]
 conv=>arg 3;whnf
 refine Zn (ZH _ _) ?_;conv=>arg 3;whnf
 refine Zg (Zdj (f:=Zb) (g:=Zb) (fun ka kb:Int=>(ka==kb)) (fun _ _=>rfl) m4_0 c (m3_0.length:Int)) ?_;conv=>arg 3;whnf
 refine Zo _ Zib rfl fun x0 hx0=>?_;conv=>arg 3;whnf
 refine Zn (ZH _ _) ?_;conv=>arg 3;whnf
 refine Zc _ (Zhs _) fun r85 hr85=>?_
 clear hr85
 rcases r85 with r85 | (r85 | r85)
 ·conv=>arg 3;whnf
  exact Zd rfl
 ·conv=>arg 3;whnf
  exact Zd rfl
 ·conv=>arg 3;whnf
  exact Zd rfl
def ZjL (r:Bool):D:=(D.bool r)
theorem ZmN {a:Int}:∀r,(ZcU a)=some r→evD ctx 102 [(.d (Zb a))]=some (ZjL r):=by
 show ZN _ (fun r rhs=>rhs=some (ZjL r)) _
 unfold ZcU
 rw[ZaU ctx 102 Zv6 _ rfl rfl]
 conv=>arg 3;whnf
 refine Ze rfl ?_ ?_<;>conv=>arg 3;whnf
 ·exact Zd rfl
 ·refine Ze rfl ?_ ?_<;>conv=>arg 3;whnf
  ·exact Zd rfl
  ·exact Zd rfl
def Zcv (r:Int):D:=(Zb r)
def Zce (t0:Bool) (a:(List Int)):(Int⊕Unit)→Ex×List V×Zp
  | (.inl r)=>(.ret,[(.d (Zb r))],[])
  | (.inr r)=>(.exit 0,[.bad],[])
theorem Zeb {t0:Bool}{a:(List Int)}:∀(s0:Int) (r:(Int⊕Unit)),lp (Zap a (fun z0=>ZcU z0)) s0=some r→lpW ctx 0 [0,1,7,8] [4] ZqE [(.d (D.list t0 (List.map Zb a))),(.d (D.fn 102 [])),(.d (Zb (a.length:Int))),(.d (Zb s0))] []=some ((Zce t0 a) r):=by
 refine ZaT (Zce t0 a) ?_
 intro s0 rcl ih
 show ZN _ _ (lpW _ _ _ _ _ _ _)
 unfold Zap
 rw[ZaV]
 conv=>arg 3;whnf
 refine Ze rfl ?_ ?_<;>conv=>arg 3;whnf
 ·refine Zl rfl rfl fun x1 hx1=>?_;conv=>arg 3;whnf
  refine Zo _ ZmN rfl fun x2 hx2=>?_;conv=>arg 3;whnf
  refine Ze rfl ?_ ?_<;>conv=>arg 3;whnf
  ·exact Zd rfl
  ·exact Zf (ih _)
 ·exact Zd rfl
theorem ZeD {t0:Bool}{a:(List Int)}:∀r,(ZaZ a (fun z0=>ZcU z0))=some r→evD ctx 116 [(.d (D.list t0 (List.map Zb a))),(.d (D.fn 102 []))]=some (Zcv r):=by
 show ZN _ (fun r rhs=>rhs=some (Zcv r)) _
 unfold ZaZ
 rw[ZaU ctx 116 Zut _ rfl rfl]
 conv=>arg 3;whnf
 refine Zn (ZH _ _) ?_;conv=>arg 3;whnf
 refine Zc _ (Zeb _) fun r3 hr3=>?_
 clear hr3
 rcases r3 with r3 | r3
 ·conv=>arg 3;whnf
  exact Zd rfl
 ·conv=>arg 3;whnf
  exact Zd rfl
def Zch (r:Bool):D:=(D.bool r)
theorem Zed {t0:Bool}{a:(List Int)}:∀r,(Z7 a (fun z0=>ZcU z0))=some r→evD ctx 93 [(.d (D.list t0 (List.map Zb a))),(.d (D.fn 102 []))]=some (Zch r):=by
 show ZN _ (fun r rhs=>rhs=some (Zch r)) _
 unfold Z7
 rw[ZaU ctx 93 Zx9 _ rfl rfl]
 conv=>arg 3;whnf
 refine Zo _ ZeD rfl fun x0 hx0=>?_;conv=>arg 3;whnf
 refine Ze rfl ?_ ?_<;>conv=>arg 3;whnf
 ·exact Zd rfl
 ·exact Zd rfl
def ZjN (r:Bool):D:=(D.bool r)
theorem ZiJ {t0:Bool}{t1:Bool}{a:Int}{b0:(List Int)}{b1:(List Zm)}:∀r,(ZeY a b0)=some r→evD ctx 103 [(.d (Zb a)),(.d (D.rptr [(D.list t0 (List.map Zb b0)),(D.list t1 (List.map ZC b1))]))]=some (ZjN r):=by
 show ZN _ (fun r rhs=>rhs=some (ZjN r)) _
 unfold ZeY
 rw[ZaU ctx 103 Zwh _ rfl rfl]
 conv=>arg 3;whnf
 refine Ze rfl ?_ ?_<;>conv=>arg 3;whnf
 ·refine Zn (ZH _ _) ?_;conv=>arg 3;whnf
  refine Ze rfl ?_ ?_<;>conv=>arg 3;whnf
  ·exact Zd rfl
  ·exact Zd rfl
 ·exact Zd rfl
def ZkZ (r:((List Int)×Bool)):D:=(D.tup [(D.list true (List.map Zb r.1)),(D.bool r.2)])
def Zi5 (t0:Bool) (t1:Bool) (a:Zb1) (s0:(List Int)×(List Bool)) (s1:Int):(Unit⊕Unit)→Ex×List V×Zp
  | (.inl r)=>(.exit 3,[(.ptr 0 0),(.sl 1 1),(.sl 2 1),(.d (Zb s1)),(.d (Zb (a.work.length:Int))),(.d (Zb s1))],[(.cells [(.d (D.list t0 (List.map Zb a.work))),(.d (D.list t1 (List.map ZC a.edges)))]),(.arr 1 (List.map Zb s0.1)),(.arr 1 (List.map D.bool s0.2))])
  | (.inr r)=>(.exit 4,[(.ptr 0 0),(.sl 1 1),(.sl 2 1),(.d (Zb s1)),(.d (Zb (a.work.length:Int))),(.d (Zb s1))],[(.cells [(.d (D.list t0 (List.map Zb a.work))),(.d (D.list t1 (List.map ZC a.edges)))]),(.arr 1 (List.map Zb s0.1)),(.arr 1 (List.map D.bool s0.2))])
theorem Zl7 {t0:Bool}{t1:Bool}{a:Zb1}{s0:(List Int)×(List Bool)}{s1:Int}:∀(s3:Int) (r:(Unit⊕Unit)),lp (ZeB a s0 s1) s3=some r→lpW ctx 0 [1,4,5,6,21,22,30,31,32] [1,4,5,6,21,22] ZwU [(.ptr 0 0),(.sl 1 1),(.sl 2 1),(.d (Zb s1)),(.d (Zb (a.work.length:Int))),(.d (Zb s1)),(.d (D.list t1 (List.map ZC a.edges))),(.d (Zb (a.edges.length:Int))),(.d (Zb s3))] [(.cells [(.d (D.list t0 (List.map Zb a.work))),(.d (D.list t1 (List.map ZC a.edges)))]),(.arr 1 (List.map Zb s0.1)),(.arr 1 (List.map D.bool s0.2))]=some ((Zi5 t0 t1 a s0 s1) r):=by
 refine ZaT (Zi5 t0 t1 a s0 s1) ?_
 intro s3 rcl ih
 show ZN _ _ (lpW _ _ _ _ _ _ _)
 unfold ZeB
 rw[ZaV]
 conv=>arg 3;whnf
 refine Ze rfl ?_ ?_<;>conv=>arg 3;whnf
 ·refine Zl rfl rfl fun x4 hx4=>?_;conv=>arg 3;whnf
  refine Ze rfl ?_ ?_<;>conv=>arg 3;whnf
  ·refine Zl rfl rfl fun x5 hx5=>?_;conv=>arg 3;whnf
   refine Zg (ZA rfl hx5) ?_;conv=>arg 3;whnf
   refine Ze rfl ?_ ?_<;>conv=>arg 3;whnf
   ·exact Zf (ih _)
   ·exact Zd rfl
  ·exact Zf (ih _)
 ·exact Zd rfl
def ZiY (t0:Bool) (t1:Bool) (a:Zb1) (s0:(List Int)×(List Bool)):(((List Int)×(List Bool))⊕Unit)→Ex×List V×Zp
  | (.inl r)=>(.exit 1,[(.ptr 0 0),(.sl 1 1),(.sl 2 1)],[(.cells [(.d (D.list t0 (List.map Zb a.work))),(.d (D.list t1 (List.map ZC a.edges)))]),(.arr 1 (List.map Zb r.1)),(.arr 1 (List.map D.bool r.2))])
  | (.inr r)=>(.exit 2,[(.ptr 0 0),(.sl 1 1),(.sl 2 1)],[(.cells [(.d (D.list t0 (List.map Zb a.work))),(.d (D.list t1 (List.map ZC a.edges)))]),(.arr 1 (List.map Zb s0.1)),(.arr 1 (List.map D.bool s0.2))])
theorem Zme {t0:Bool}{t1:Bool}{a:Zb1}{s0:(List Int)×(List Bool)}:∀(s1:Int) (r:(((List Int)×(List Bool))⊕Unit)),lp (ZdG a s0) s1=some r→lpW ctx 0 [1,4,5,21,22] [1,4,5] ZwB [(.ptr 0 0),(.sl 1 1),(.sl 2 1),(.d (Zb (a.work.length:Int))),(.d (Zb s1))] [(.cells [(.d (D.list t0 (List.map Zb a.work))),(.d (D.list t1 (List.map ZC a.edges)))]),(.arr 1 (List.map Zb s0.1)),(.arr 1 (List.map D.bool s0.2))]=some ((ZiY t0 t1 a s0) r):=by
 refine ZaT (ZiY t0 t1 a s0) ?_
 intro s1 rcl ih
 show ZN _ _ (lpW _ _ _ _ _ _ _)
 unfold ZdG
 rw[ZaV]
 conv=>arg 3;whnf
 refine Ze rfl ?_ ?_<;>conv=>arg 3;whnf
 ·refine Zl rfl rfl fun x2 hx2=>?_;conv=>arg 3;whnf
  refine Zg (ZA rfl hx2) ?_;conv=>arg 3;whnf
  refine Ze rfl ?_ ?_<;>conv=>arg 3;whnf
  ·exact Zf (ih _)
  ·refine Zn (ZH _ _) ?_;conv=>arg 3;whnf
   refine Zc _ (Zl7 _) fun r6 hr6=>?_
   clear hr6
   rcases r6 with r6 | r6
   ·conv=>arg 3;whnf
    exact Zf (ih _)
   ·conv=>arg 3;whnf
    refine Zg (ZbO rfl hx2) ?_;conv=>arg 3;whnf
    refine Zg (ZA rfl hx2) ?_;conv=>arg 3;whnf
    refine Zn (ZaL D.bool s0.2 s1.toNat true) ?_;conv=>arg 3;whnf
    refine Zbe rfl ?_;conv=>arg 3;whnf
    refine Ze (ZgK Zb s0.1 1) ?_ ?_
    ·conv=>arg 3;whnf
     refine Zn (ZgJ Zb s0.1 [s1]) ?_;conv=>arg 3;whnf
     exact Zd rfl
    ·exact Z1
 ·exact Zd rfl
def ZiE (t0:Bool) (t1:Bool) (a:Zb1):((List Int)⊕(List Int))→Ex×List V×Zp
  | (.inl r)=>(.ret,[(.nilsl 1),(.d (D.bool false)),(.sl 0 1)],[(.arr 1 (List.map Zb r))])
  | (.inr r)=>(.exit 0,[.bad,.bad,(.sl 0 1)],[(.arr 1 (List.map Zb r))])
theorem Zmq {t0:Bool}{t1:Bool}{a:Zb1}:∀(s0:(List Int)×(List Bool)) (r:((List Int)⊕(List Int))),lp (ZeF a) s0=some r→lpW ctx 0 [1,4,5] [2,3,4] Zvm [(.ptr 0 0),(.sl 1 1),(.sl 2 1)] [(.cells [(.d (D.list t0 (List.map Zb a.work))),(.d (D.list t1 (List.map ZC a.edges)))]),(.arr 1 (List.map Zb s0.1)),(.arr 1 (List.map D.bool s0.2))]=some ((ZiE t0 t1 a) r):=by
 refine ZaT (ZiE t0 t1 a) ?_
 intro s0 rcl ih
 show ZN _ _ (lpW _ _ _ _ _ _ _)
 unfold ZeF
 rw[ZaV]
 conv=>arg 3;whnf
 refine Zn (ZH _ _) ?_;conv=>arg 3;whnf
 refine Zn (ZH _ _) ?_;conv=>arg 3;whnf
 refine Ze rfl ?_ ?_<;>conv=>arg 3;whnf
 ·refine Zn (ZH _ _) ?_;conv=>arg 3;whnf
  refine Zc _ (Zme _) fun r7 hr7=>?_
  clear hr7
  rcases r7 with r7 | r7
  ·conv=>arg 3;whnf
   exact Zf (ih _)
  ·conv=>arg 3;whnf
   exact Zd rfl
 ·exact Zd rfl
theorem Zj8 {t0:Bool}{t1:Bool}{a:Zb1}:∀r,(ZeG a)=some r→evD ctx 77 [(.d (D.agg [(D.list t0 (List.map Zb a.work)),(D.list t1 (List.map ZC a.edges))]))]=some (ZkZ r):=by
 show ZN _ (fun r rhs=>rhs=some (ZkZ r)) _
 unfold ZeG
 rw[ZaU ctx 77 Zzf _ rfl rfl]
 conv=>arg 3;whnf
 refine Zn (ZH _ _) ?_;conv=>arg 3;whnf
 refine Ze rfl ?_ ?_
 ·conv=>arg 3;whnf
  refine Zn (Zq1 D.bool (false:Bool) (a.work.length:Int)) ?_;conv=>arg 3;whnf
  refine Zc _ (Zmq _) fun r8 hr8=>?_
  clear hr8
  rcases r8 with r8 | r8
  ·conv=>arg 3;whnf
   exact Zd rfl
  ·conv=>arg 3;whnf
   exact Zd rfl
 ·exact Z1
def Zk6 (r:Int):D:=(Zb r)
def ZiL (t0:Bool) (t1:Bool) (a:Zb1):(Unit⊕Unit)→Ex×List V×Zp
  | (.inl r)=>(.ret,[(.ptr 0 0),(.d (Zb 42))],[(.cells [(.d (D.list t0 (List.map Zb a.work))),(.d (D.list t1 (List.map ZC a.edges)))])])
  | (.inr r)=>(.exit 0,[(.ptr 0 0),.bad],[(.cells [(.d (D.list t0 (List.map Zb a.work))),(.d (D.list t1 (List.map ZC a.edges)))])])
theorem Zms {t0:Bool}{t1:Bool}{a:Zb1}:∀(s1:Int) (r:(Unit⊕Unit)),lp (ZdU a) s1=some r→lpW ctx 0 [1,3,23,24,25] [1,2] ZvP [(.ptr 0 0),(.fn 103 [(.ptr 0 0)]),(.d (D.list t1 (List.map ZC a.edges))),(.d (Zb (a.edges.length:Int))),(.d (Zb s1))] [(.cells [(.d (D.list t0 (List.map Zb a.work))),(.d (D.list t1 (List.map ZC a.edges)))])]=some ((ZiL t0 t1 a) r):=by
 refine ZaT (ZiL t0 t1 a) ?_
 intro s1 rcl ih
 show ZN _ _ (lpW _ _ _ _ _ _ _)
 unfold ZdU
 rw[ZaV]
 conv=>arg 3;whnf
 refine Ze rfl ?_ ?_<;>conv=>arg 3;whnf
 ·refine Zl rfl rfl fun x2 hx2=>?_;conv=>arg 3;whnf
  refine Zo _ ZiJ rfl fun x3 hx3=>?_;conv=>arg 3;whnf
  refine Ze rfl ?_ ?_<;>conv=>arg 3;whnf
  ·refine Zo _ ZiJ rfl fun x4 hx4=>?_;conv=>arg 3;whnf
   refine Ze rfl ?_ ?_<;>conv=>arg 3;whnf
   ·refine Ze rfl ?_ ?_<;>conv=>arg 3;whnf
    ·exact Zd rfl
    ·refine Ze rfl ?_ ?_
     ·conv=>arg 3;whnf
      refine Ze (Zwe ZC a.edges s1.toNat) ?_ ?_
      ·conv=>arg 3;whnf
       refine Zbe rfl ?_;conv=>arg 3;whnf
       refine Zn (Zre ZC a.edges s1.toNat) ?_;conv=>arg 3;whnf
       refine Zo _ Zee rfl fun x5 hx5=>?_;conv=>arg 3;whnf
       refine Ze rfl ?_ ?_<;>conv=>arg 3;whnf
       ·exact Zd rfl
       ·exact Zf (ih _)
      ·exact Z1
     ·exact Z1
   ·exact Zd rfl
  ·exact Zd rfl
 ·exact Zd rfl
theorem Zkl {t0:Bool}{t1:Bool}{a:Zb1}:∀r,(ZfX a)=some r→evD ctx 69 [(.d (D.agg [(D.list t0 (List.map Zb a.work)),(D.list t1 (List.map ZC a.edges))]))]=some (Zk6 r):=by
 show ZN _ (fun r rhs=>rhs=some (Zk6 r)) _
 unfold ZfX
 rw[ZaU ctx 69 Zz7 _ rfl rfl]
 conv=>arg 3;whnf
 refine Zn (ZH _ _) ?_;conv=>arg 3;whnf
 refine Ze rfl ?_ ?_<;>conv=>arg 3;whnf
 ·exact Zd rfl
 ·refine Zn (ZH _ _) ?_;conv=>arg 3;whnf
  refine Ze rfl ?_ ?_<;>conv=>arg 3;whnf
  ·exact Zd rfl
  ·refine Zo _ Zed rfl fun x0 hx0=>?_;conv=>arg 3;whnf
   refine Ze rfl ?_ ?_<;>conv=>arg 3;whnf
   ·exact Zd rfl
   ·refine Zn (ZH _ _) ?_;conv=>arg 3;whnf
    refine Zc _ (Zms _) fun r6 hr6=>?_
    clear hr6
    rcases r6 with r6 | r6
    ·conv=>arg 3;whnf
     exact Zd rfl
    ·conv=>arg 3;whnf
     refine Zo _ Zj8 rfl fun x7 hx7=>?_;conv=>arg 3;whnf
     refine Ze rfl ?_ ?_<;>conv=>arg 3;whnf
     ·exact Zd rfl
     ·exact Zd rfl
def ZjD (r:(ZjX×Int)):D:=(D.tup [(D.agg [(D.list true (List.map Zb r.1.dag.work)),(D.list true (List.map ZC r.1.dag.edges)),(D.list true (List.map Zbg r.1.pieces))]),(Zb r.2)])
def ZhJ (t0:Bool) (t1:Bool) (t2:Bool) (t3:Bool) (a:Zj):((List Int)×(List Zm)×(List Zh)×(List (Int×Int))×(List (Int×Int))×(List (Zi×Int)))→Ex×List V×Zp
  | r=>(.exit 0,[(.ptr 0 0),(.ptr 1 0),(.ptr 2 0)],[(.cells (dV t0 t1 t2 t3 a)),(.cells [(.sl 3 1),(.sl 4 2),(.sl 5 2)]),(.cells [(.sl 6 1),(.sl 7 2),(.sl 8 2),(.mp 9),(.mp 10),(.mp 11)]),(.arr 1 []),(.arr 2 []),(.arr 2 []),(.arr 1 (List.map Zb r.1)),(.arr 2 (List.map ZC r.2.1)),(.arr 2 (List.map Zbg r.2.2.1)),(.mp (mpD Zb Zb r.2.2.2.1)),(.mp (mpD Zb Zb r.2.2.2.2.1)),(.mp (mpD Zq Zb r.2.2.2.2.2))])
theorem ZkR {t0:Bool}{t1:Bool}{t2:Bool}{t3:Bool}{a:Zj}:∀(s1:Int×(List Int)×(List Zm)×(List Zh)×(List (Int×Int))×(List (Int×Int))×(List (Zi×Int))) (r:((List Int)×(List Zm)×(List Zh)×(List (Int×Int))×(List (Int×Int))×(List (Zi×Int)))),lp (Zcr a) s1=some r→lpW ctx 0 [1,2,5,31,32] [1,2,5] Zwk [(.ptr 0 0),(.ptr 1 0),(.ptr 2 0),(.d (Zb (a.parts.length:Int))),(.d (Zb s1.1))] [(.cells (dV t0 t1 t2 t3 a)),(.cells [(.sl 3 1),(.sl 4 2),(.sl 5 2)]),(.cells [(.sl 6 1),(.sl 7 2),(.sl 8 2),(.mp 9),(.mp 10),(.mp 11)]),(.arr 1 []),(.arr 2 []),(.arr 2 []),(.arr 1 (List.map Zb s1.2.1)),(.arr 2 (List.map ZC s1.2.2.1)),(.arr 2 (List.map Zbg s1.2.2.2.1)),(.mp (mpD Zb Zb s1.2.2.2.2.1)),(.mp (mpD Zb Zb s1.2.2.2.2.2.1)),(.mp (mpD Zq Zb s1.2.2.2.2.2.2))]=some ((ZhJ t0 t1 t2 t3 a) r):=by
 refine ZaT (ZhJ t0 t1 t2 t3 a) ?_
 intro s1 rcl ih
 show ZN _ _ (lpW _ _ _ _ _ _ _)
 unfold Zcr
 rw[ZaV]
 conv=>arg 3;whnf
 refine Ze rfl ?_ ?_<;>conv=>arg 3;whnf
 ·refine Zc _ Zjx fun x2 hx2=>?_
  clear hx2
  rcases x2 with x2 | (x2 | x2)
  ·conv=>arg 3;whnf
   exact Zf (ih _)
  ·conv=>arg 3;whnf
   exact Zf (ih _)
  ·conv=>arg 3;whnf
   exact Zf (ih _)
 ·exact Zd rfl
def ZhI (t0:Bool) (t1:Bool) (t2:Bool) (t3:Bool) (a:Zj) (r3:((List Int)×(List Zm)×(List Zh)×(List (Int×Int))×(List (Int×Int))×(List (Zi×Int)))):(List Zm)→Ex×List V×Zp
  | r=>(.exit 2,[(.ptr 0 0),(.ptr 1 0),(.ptr 2 0)],[(.cells (dV t0 t1 t2 t3 a)),(.cells [(.sl 3 1),(.sl 4 2),(.sl 5 2)]),(.cells [(.sl 6 1),(.sl 7 2),(.sl 8 2),(.mp 9),(.mp 10),(.mp 11)]),(.arr 1 []),(.arr 2 []),(.arr 2 []),(.arr 1 (List.map Zb r3.1)),(.arr 2 (List.map ZC r)),(.arr 2 (List.map Zbg r3.2.2.1)),(.mp (mpD Zb Zb r3.2.2.2.1)),(.mp (mpD Zb Zb r3.2.2.2.2.1)),(.mp (mpD Zq Zb r3.2.2.2.2.2))])
theorem ZkQ {t0:Bool}{t1:Bool}{t2:Bool}{t3:Bool}{a:Zj}{r3:((List Int)×(List Zm)×(List Zh)×(List (Int×Int))×(List (Int×Int))×(List (Zi×Int)))}:∀(s4:Int×(List Zm)) (r:(List Zm)),lp (ZcM a r3) s4=some r→lpW ctx 0 [1,2,5,41,42,43] [1,2,5] Zvv [(.ptr 0 0),(.ptr 1 0),(.ptr 2 0),(.d (D.list t1 (List.map ZC a.edges))),(.d (Zb (a.edges.length:Int))),(.d (Zb s4.1))] [(.cells (dV t0 t1 t2 t3 a)),(.cells [(.sl 3 1),(.sl 4 2),(.sl 5 2)]),(.cells [(.sl 6 1),(.sl 7 2),(.sl 8 2),(.mp 9),(.mp 10),(.mp 11)]),(.arr 1 []),(.arr 2 []),(.arr 2 []),(.arr 1 (List.map Zb r3.1)),(.arr 2 (List.map ZC s4.2)),(.arr 2 (List.map Zbg r3.2.2.1)),(.mp (mpD Zb Zb r3.2.2.2.1)),(.mp (mpD Zb Zb r3.2.2.2.2.1)),(.mp (mpD Zq Zb r3.2.2.2.2.2))]=some ((ZhI t0 t1 t2 t3 a r3) r):=by
 refine ZaT (ZhI t0 t1 t2 t3 a r3) ?_
 intro s4 rcl ih
 show ZN _ _ (lpW _ _ _ _ _ _ _)
 unfold ZcM
 rw[ZaV]
 conv=>arg 3;whnf
 refine Ze rfl ?_ ?_<;>conv=>arg 3;whnf
 ·refine Zl rfl rfl fun x5 hx5=>?_;conv=>arg 3;whnf
  refine Zg (Zbq (f:=Zb) (g:=Zb) (fun ka kb:Int=>(ka==kb)) (fun _ _=>rfl) r3.2.2.2.2.1 x5.src 0) ?_;conv=>arg 3;whnf
  refine Zg (Zbq (f:=Zb) (g:=Zb) (fun ka kb:Int=>(ka==kb)) (fun _ _=>rfl) r3.2.2.2.1 x5.dst 0) ?_;conv=>arg 3;whnf
  refine Zc _ Zat fun x6 hx6=>?_;conv=>arg 3;whnf
  exact Zf (ih _)
 ·exact Zd rfl
def ZhT (t0:Bool) (t1:Bool) (t2:Bool) (t3:Bool) (a:Zj) (r3:((List Int)×(List Zm)×(List Zh)×(List (Int×Int))×(List (Int×Int))×(List (Zi×Int)))):(List Zm)→Ex×List V×Zp
  | r=>(.exit 4,[(.ptr 0 0),(.ptr 1 0),(.ptr 2 0)],[(.cells (dV t0 t1 t2 t3 a)),(.cells [(.sl 3 1),(.sl 4 2),(.sl 5 2)]),(.cells [(.sl 6 1),(.sl 7 2),(.sl 8 2),(.mp 9),(.mp 10),(.mp 11)]),(.arr 1 []),(.arr 2 []),(.arr 2 []),(.arr 1 (List.map Zb r3.1)),(.arr 2 (List.map ZC r)),(.arr 2 (List.map Zbg r3.2.2.1)),(.mp (mpD Zb Zb r3.2.2.2.1)),(.mp (mpD Zb Zb r3.2.2.2.2.1)),(.mp (mpD Zq Zb r3.2.2.2.2.2))])
theorem ZkN {t0:Bool}{t1:Bool}{t2:Bool}{t3:Bool}{a:Zj}{r3:((List Int)×(List Zm)×(List Zh)×(List (Int×Int))×(List (Int×Int))×(List (Zi×Int)))}:∀(s8:Int×(List Zm)) (r:(List Zm)),lp (ZcP a r3) s8=some r→lpW ctx 0 [1,2,5,65,66,67] [1,2,5] ZwW [(.ptr 0 0),(.ptr 1 0),(.ptr 2 0),(.d (D.list t2 (List.map Zq a.futures))),(.d (Zb (a.futures.length:Int))),(.d (Zb s8.1))] [(.cells (dV t0 t1 t2 t3 a)),(.cells [(.sl 3 1),(.sl 4 2),(.sl 5 2)]),(.cells [(.sl 6 1),(.sl 7 2),(.sl 8 2),(.mp 9),(.mp 10),(.mp 11)]),(.arr 1 []),(.arr 2 []),(.arr 2 []),(.arr 1 (List.map Zb r3.1)),(.arr 2 (List.map ZC s8.2)),(.arr 2 (List.map Zbg r3.2.2.1)),(.mp (mpD Zb Zb r3.2.2.2.1)),(.mp (mpD Zb Zb r3.2.2.2.2.1)),(.mp (mpD Zq Zb r3.2.2.2.2.2))]=some ((ZhT t0 t1 t2 t3 a r3) r):=by
 refine ZaT (ZhT t0 t1 t2 t3 a r3) ?_
 intro s8 rcl ih
 show ZN _ _ (lpW _ _ _ _ _ _ _)
 unfold ZcP
 rw[ZaV]
 conv=>arg 3;whnf
 refine Ze rfl ?_ ?_<;>conv=>arg 3;whnf
 ·refine Zl rfl rfl fun x9 hx9=>?_;conv=>arg 3;whnf
  refine Zg (Zbq (f:=Zb) (g:=Zb) (fun ka kb:Int=>(ka==kb)) (fun _ _=>rfl) r3.2.2.2.2.1 x9.maker 0) ?_;conv=>arg 3;whnf
  refine Zg (Zbq (f:=Zq) (g:=Zb) (fun ka kb:Zi=>((ka.maker==kb.maker)&&((ka.user==kb.user)&&((ka.pos==kb.pos)&&true)))) (fun _ _=>rfl) r3.2.2.2.2.2 x9 0) ?_;conv=>arg 3;whnf
  refine Zc _ Zat fun x10 hx10=>?_;conv=>arg 3;whnf
  exact Zf (ih _)
 ·exact Zd rfl
def ZhU (t3:Bool) (a:Zj) (r3:((List Int)×(List Zm)×(List Zh)×(List (Int×Int))×(List (Int×Int))×(List (Zi×Int)))) (s12:Int×(List Int)×(List Zm)×(List Zh)) (x13:Zs):(List Zm)→Ex×List V×Zp
  | r=>(.exit 8,[(.ptr 0 0),(.ptr 1 0),(.ptr 2 0),(.d (Zb (w64 ((List.length (s12.2.2.2++[(Zh.mk (-1) s12.1)]):Int)-1)))),(.d (D.list t3 (List.map Zv a.barriers))),(.d (Zb (a.barriers.length:Int))),(.d (Zb s12.1))],[(.cells [(.sl 3 1),(.sl 4 2),(.sl 5 2)]),(.cells [(.sl 6 1),(.sl 7 2),(.sl 8 2),(.mp 9),(.mp 10),(.mp 11)]),(.cells [(.d (D.list true (List.map Zb x13.ins))),(.d (D.list true (List.map Zb x13.outs)))]),(.arr 1 []),(.arr 2 []),(.arr 2 []),(.arr 1 (List.map Zb (s12.2.1++[1]))),(.arr 2 (List.map ZC r)),(.arr 2 (List.map Zbg (s12.2.2.2++[(Zh.mk (-1) s12.1)]))),(.mp (mpD Zb Zb r3.2.2.2.1)),(.mp (mpD Zb Zb r3.2.2.2.2.1)),(.mp (mpD Zq Zb r3.2.2.2.2.2))])
theorem ZkO {t3:Bool}{a:Zj}{r3:((List Int)×(List Zm)×(List Zh)×(List (Int×Int))×(List (Int×Int))×(List (Zi×Int)))}{s12:Int×(List Int)×(List Zm)×(List Zh)}{x13:Zs}:∀(s15:Int×(List Zm)) (r:(List Zm)),lp (Zdz r3 s12 x13) s15=some r→lpW ctx 0 [2,5,12,13,88,89,90,100,101,102] [2,5,12,13,88,89,90] ZwV [(.ptr 0 0),(.ptr 1 0),(.ptr 2 0),(.d (Zb (w64 ((List.length (s12.2.2.2++[(Zh.mk (-1) s12.1)]):Int)-1)))),(.d (D.list t3 (List.map Zv a.barriers))),(.d (Zb (a.barriers.length:Int))),(.d (Zb s12.1)),(.d (D.list true (List.map Zb x13.ins))),(.d (Zb (x13.ins.length:Int))),(.d (Zb s15.1))] [(.cells [(.sl 3 1),(.sl 4 2),(.sl 5 2)]),(.cells [(.sl 6 1),(.sl 7 2),(.sl 8 2),(.mp 9),(.mp 10),(.mp 11)]),(.cells [(.d (D.list true (List.map Zb x13.ins))),(.d (D.list true (List.map Zb x13.outs)))]),(.arr 1 []),(.arr 2 []),(.arr 2 []),(.arr 1 (List.map Zb (s12.2.1++[1]))),(.arr 2 (List.map ZC s15.2)),(.arr 2 (List.map Zbg (s12.2.2.2++[(Zh.mk (-1) s12.1)]))),(.mp (mpD Zb Zb r3.2.2.2.1)),(.mp (mpD Zb Zb r3.2.2.2.2.1)),(.mp (mpD Zq Zb r3.2.2.2.2.2))]=some ((ZhU t3 a r3 s12 x13) r):=by
 refine ZaT (ZhU t3 a r3 s12 x13) ?_
 intro s15 rcl ih
 show ZN _ _ (lpW _ _ _ _ _ _ _)
 unfold Zdz
 rw[ZaV]
 conv=>arg 3;whnf
 refine Ze rfl ?_ ?_<;>conv=>arg 3;whnf
 ·refine Zl rfl rfl fun x16 hx16=>?_;conv=>arg 3;whnf
  refine Zg (Zbq (f:=Zb) (g:=Zb) (fun ka kb:Int=>(ka==kb)) (fun _ _=>rfl) r3.2.2.2.2.1 x16 0) ?_;conv=>arg 3;whnf
  refine Zc _ Zat fun x17 hx17=>?_;conv=>arg 3;whnf
  exact Zf (ih _)
 ·exact Zd rfl
def ZhQ (t3:Bool) (a:Zj) (r3:((List Int)×(List Zm)×(List Zh)×(List (Int×Int))×(List (Int×Int))×(List (Zi×Int)))) (s12:Int×(List Int)×(List Zm)×(List Zh)) (x13:Zs):(List Zm)→Ex×List V×Zp
  | r=>(.exit 10,[(.ptr 0 0),(.ptr 1 0),(.d (D.list t3 (List.map Zv a.barriers))),(.d (Zb (a.barriers.length:Int))),(.d (Zb s12.1))],[(.cells [(.sl 2 1),(.sl 3 2),(.sl 4 2)]),(.cells [(.sl 5 1),(.sl 6 2),(.sl 7 2),(.mp 8),(.mp 9),(.mp 10)]),(.arr 1 []),(.arr 2 []),(.arr 2 []),(.arr 1 (List.map Zb (s12.2.1++[1]))),(.arr 2 (List.map ZC r)),(.arr 2 (List.map Zbg (s12.2.2.2++[(Zh.mk (-1) s12.1)]))),(.mp (mpD Zb Zb r3.2.2.2.1)),(.mp (mpD Zb Zb r3.2.2.2.2.1)),(.mp (mpD Zq Zb r3.2.2.2.2.2))])
theorem ZkS {t3:Bool}{a:Zj}{r3:((List Int)×(List Zm)×(List Zh)×(List (Int×Int))×(List (Int×Int))×(List (Zi×Int)))}{s12:Int×(List Int)×(List Zm)×(List Zh)}{x13:Zs}:∀(s19:Int×(List Zm)) (r:(List Zm)),lp (ZdA r3 s12 x13) s19=some r→lpW ctx 0 [2,5,13,88,89,90,117,118,119] [2,5,88,89,90] ZvX [(.ptr 0 0),(.ptr 1 0),(.d (Zb (w64 ((List.length (s12.2.2.2++[(Zh.mk (-1) s12.1)]):Int)-1)))),(.d (D.list t3 (List.map Zv a.barriers))),(.d (Zb (a.barriers.length:Int))),(.d (Zb s12.1)),(.d (D.list true (List.map Zb x13.outs))),(.d (Zb (x13.outs.length:Int))),(.d (Zb s19.1))] [(.cells [(.sl 2 1),(.sl 3 2),(.sl 4 2)]),(.cells [(.sl 5 1),(.sl 6 2),(.sl 7 2),(.mp 8),(.mp 9),(.mp 10)]),(.arr 1 []),(.arr 2 []),(.arr 2 []),(.arr 1 (List.map Zb (s12.2.1++[1]))),(.arr 2 (List.map ZC s19.2)),(.arr 2 (List.map Zbg (s12.2.2.2++[(Zh.mk (-1) s12.1)]))),(.mp (mpD Zb Zb r3.2.2.2.1)),(.mp (mpD Zb Zb r3.2.2.2.2.1)),(.mp (mpD Zq Zb r3.2.2.2.2.2))]=some ((ZhQ t3 a r3 s12 x13) r):=by
 refine ZaT (ZhQ t3 a r3 s12 x13) ?_
 intro s19 rcl ih
 show ZN _ _ (lpW _ _ _ _ _ _ _)
 unfold ZdA
 rw[ZaV]
 conv=>arg 3;whnf
 refine Ze rfl ?_ ?_<;>conv=>arg 3;whnf
 ·refine Zl rfl rfl fun x20 hx20=>?_;conv=>arg 3;whnf
  refine Zg (Zbq (f:=Zb) (g:=Zb) (fun ka kb:Int=>(ka==kb)) (fun _ _=>rfl) r3.2.2.2.1 x20 0) ?_;conv=>arg 3;whnf
  refine Zc _ Zat fun x21 hx21=>?_;conv=>arg 3;whnf
  exact Zf (ih _)
 ·exact Zd rfl
def ZhN (t3:Bool) (a:Zj) (r3:((List Int)×(List Zm)×(List Zh)×(List (Int×Int))×(List (Int×Int))×(List (Zi×Int)))):((List Int)×(List Zm)×(List Zh))→Ex×List V×Zp
  | r=>(.exit 6,[(.ptr 0 0),(.ptr 1 0)],[(.cells [(.sl 2 1),(.sl 3 2),(.sl 4 2)]),(.cells [(.sl 5 1),(.sl 6 2),(.sl 7 2),(.mp 8),(.mp 9),(.mp 10)]),(.arr 1 []),(.arr 2 []),(.arr 2 []),(.arr 1 (List.map Zb r.1)),(.arr 2 (List.map ZC r.2.1)),(.arr 2 (List.map Zbg r.2.2)),(.mp (mpD Zb Zb r3.2.2.2.1)),(.mp (mpD Zb Zb r3.2.2.2.2.1)),(.mp (mpD Zq Zb r3.2.2.2.2.2))])
theorem ZkT {t3:Bool}{a:Zj}{r3:((List Int)×(List Zm)×(List Zh)×(List (Int×Int))×(List (Int×Int))×(List (Zi×Int)))}:∀(s12:Int×(List Int)×(List Zm)×(List Zh)) (r:((List Int)×(List Zm)×(List Zh))),lp (ZcO a r3) s12=some r→lpW ctx 0 [2,5,88,89,90] [2,5] Zww [(.ptr 0 0),(.ptr 1 0),(.d (D.list t3 (List.map Zv a.barriers))),(.d (Zb (a.barriers.length:Int))),(.d (Zb s12.1))] [(.cells [(.sl 2 1),(.sl 3 2),(.sl 4 2)]),(.cells [(.sl 5 1),(.sl 6 2),(.sl 7 2),(.mp 8),(.mp 9),(.mp 10)]),(.arr 1 []),(.arr 2 []),(.arr 2 []),(.arr 1 (List.map Zb s12.2.1)),(.arr 2 (List.map ZC s12.2.2.1)),(.arr 2 (List.map Zbg s12.2.2.2)),(.mp (mpD Zb Zb r3.2.2.2.1)),(.mp (mpD Zb Zb r3.2.2.2.2.1)),(.mp (mpD Zq Zb r3.2.2.2.2.2))]=some ((ZhN t3 a r3) r):=by
 refine ZaT (ZhN t3 a r3) ?_
 intro s12 rcl ih
 show ZN _ _ (lpW _ _ _ _ _ _ _)
 unfold ZcO
 rw[ZaV]
 conv=>arg 3;whnf
 refine Ze rfl ?_ ?_<;>conv=>arg 3;whnf
 ·refine Zl rfl rfl fun x13 hx13=>?_;conv=>arg 3;whnf
  refine Zc _ ZaM fun x14 hx14=>?_;conv=>arg 3;whnf
  refine Zn (ZH _ _) ?_;conv=>arg 3;whnf
  refine Zc _ (ZkO _) fun r18 hr18=>?_;conv=>arg 3;whnf
  refine Zn (ZH _ _) ?_;conv=>arg 3;whnf
  refine Zc _ (ZkS _) fun r22 hr22=>?_;conv=>arg 3;whnf
  exact Zf (ih _)
 ·exact Zd rfl
theorem Zft {t0:Bool}{t1:Bool}{t2:Bool}{t3:Bool}{a:Zj}:∀r,(Zdw a)=some r→evD ctx 41 [(.d (D.agg (dA t0 t1 t2 t3 a)))]=some (ZjD r):=by
 show ZN _ (fun r rhs=>rhs=some (ZjD r)) _
 unfold Zdw
 rw[ZaU ctx 41 ZzK _ rfl rfl]
 conv=>arg 3;whnf
 refine Zo _ Zg5 rfl fun x0 hx0=>?_;conv=>arg 3;whnf
 refine Ze rfl ?_ ?_<;>conv=>arg 3;whnf
 ·exact Zd rfl
 ·refine Zn (ZH _ _) ?_;conv=>arg 3;whnf
  refine Zc _ (ZkR _) fun r3 hr3=>?_;conv=>arg 3;whnf
  refine Zn (ZH _ _) ?_;conv=>arg 3;whnf
  refine Zc _ (ZkQ _) fun r7 hr7=>?_;conv=>arg 3;whnf
  refine Zn (ZH _ _) ?_;conv=>arg 3;whnf
  refine Zc _ (ZkN _) fun r11 hr11=>?_;conv=>arg 3;whnf
  refine Zn (ZH _ _) ?_;conv=>arg 3;whnf
  refine Zc _ (ZkT _) fun r23 hr23=>?_;conv=>arg 3;whnf
  refine Zo _ Zkl rfl fun x24 hx24=>?_;conv=>arg 3;whnf
  refine Ze rfl ?_ ?_<;>conv=>arg 3;whnf
  ·exact Zd rfl
  ·exact Zd rfl
def ZlX (r:(Zy×Int)):D:=(D.tup [(D.agg [(D.list true (List.map D.bool r.1.done)),(D.list true (List.map Zb r.1.vals))]),(Zb r.2)])
theorem Zk2 {t0:Bool}{t1:Bool}{t2:Bool}{t3:Bool}{a:Zj}:∀r,(ZgF a)=some r→evD ctx 14 [(.d (D.agg (dA t0 t1 t2 t3 a)))]=some (ZlX r):=by
 show ZN _ (fun r rhs=>rhs=some (ZlX r)) _
 unfold ZgF
 rw[ZaU ctx 14 ZAh _ rfl rfl]
 conv=>arg 3;whnf
 refine Zo _ Zft rfl fun x0 hx0=>?_;conv=>arg 3;whnf
 refine Ze rfl ?_ ?_<;>conv=>arg 3;whnf
 ·exact Zd rfl
 ·refine Zn (ZH _ _) ?_;conv=>arg 3;whnf
  refine Ze rfl ?_ ?_
  ·conv=>arg 3;whnf
   refine Zn (Zq1 D.bool (false:Bool) (x0.1.pieces.length:Int)) ?_;conv=>arg 3;whnf
   refine Zn (ZH _ _) ?_;conv=>arg 3;whnf
   refine Ze rfl ?_ ?_
   ·conv=>arg 3;whnf
    refine Zn (Zq1 Zb (0:Int) (a.parts.length:Int)) ?_;conv=>arg 3;whnf
    exact Zd rfl
   ·exact Z1
  ·exact Z1
def Zk3 (t0:Bool) (t1:Bool) (a:Zy):Unit→V×Zp
  | r=>((.agg [(.sl 0 1),(.sl 1 1)]),[(.arr 1 (List.map D.bool a.done)),(.arr 1 (List.map Zb a.vals))])
theorem Zf8 {t0:Bool}{t1:Bool}{a:Zy}:∀r,(Zea a)=some r→evW ctx 17 [(.d (D.agg [(D.list t0 (List.map D.bool a.done)),(D.list t1 (List.map Zb a.vals))]))] []=some ((Zk3 t0 t1 a) r):=by
 show ZN _ (fun r rhs=>rhs=some ((Zk3 t0 t1 a) r)) _
 unfold Zea
 rw[Zfd ctx 17 ZAi _ _ rfl rfl]
 conv=>arg 3;whnf
 refine Zbe (ZeE (f:=D.bool) (fun _=>⟨rfl,rfl⟩) a.done 0) ?_;conv=>arg 3;whnf
 refine Ze (ZeC D.bool a.done) ?_ ?_
 ·conv=>arg 3;whnf
  refine Zn (rfl:_=List.map D.bool a.done) ?_;conv=>arg 3;whnf
  refine Zbe (ZeE (f:=Zb) (fun _=>⟨rfl,rfl⟩) a.vals 0) ?_;conv=>arg 3;whnf
  refine Ze (ZeC Zb a.vals) ?_ ?_
  ·conv=>arg 3;whnf
   refine Zn (rfl:_=List.map Zb a.vals) ?_;conv=>arg 3;whnf
   exact Zd rfl
  ·exact Z1
 ·exact Z1
def ZiF (r:Bool):D:=(D.bool r)
theorem Zmr {t0:Bool}{t1:Bool}{a:Zm}{b0:(List Bool)}{b1:(List Int)}:∀r,(ZcZ a b0)=some r→evD ctx 71 [(.d (D.agg [(Zb a.src),(Zb a.dst)])),(.d (D.rptr [(D.list t0 (List.map D.bool b0)),(D.list t1 (List.map Zb b1))]))]=some (ZiF r):=by
 show ZN _ (fun r rhs=>rhs=some (ZiF r)) _
 unfold ZcZ
 rw[ZaU ctx 71 ZzM _ rfl rfl]
 conv=>arg 3;whnf
 refine Zl rfl rfl fun x0 hx0=>?_;conv=>arg 3;whnf
 refine Ze rfl ?_ ?_<;>conv=>arg 3;whnf
 ·refine Zl rfl rfl fun x1 hx1=>?_;conv=>arg 3;whnf
  refine Ze rfl ?_ ?_<;>conv=>arg 3;whnf
  ·exact Zd rfl
  ·exact Zd rfl
 ·exact Zd rfl
def Zcd (r:Int):D:=(Zb r)
def ZbT (t0:Bool) (t1:Bool) (t2:Bool) (a:(List Zm)) (b0:(List Bool)) (b1:(List Int)):(Int⊕Unit)→Ex×List V×Zp
  | (.inl r)=>(.ret,[(.d (Zb r))],[])
  | (.inr r)=>(.exit 0,[.bad],[])
theorem ZdO {t0:Bool}{t1:Bool}{t2:Bool}{a:(List Zm)}{b0:(List Bool)}{b1:(List Int)}:∀(s0:Int) (r:(Int⊕Unit)),lp (Zac a (fun z0=>ZcZ z0 b0)) s0=some r→lpW ctx 0 [0,1,7,8] [4] Zri [(.d (D.list t0 (List.map ZC a))),(.d (D.fn 71 [(D.rptr [(D.list t1 (List.map D.bool b0)),(D.list t2 (List.map Zb b1))])])),(.d (Zb (a.length:Int))),(.d (Zb s0))] []=some ((ZbT t0 t1 t2 a b0 b1) r):=by
 refine ZaT (ZbT t0 t1 t2 a b0 b1) ?_
 intro s0 rcl ih
 show ZN _ _ (lpW _ _ _ _ _ _ _)
 unfold Zac
 rw[ZaV]
 conv=>arg 3;whnf
 refine Ze rfl ?_ ?_<;>conv=>arg 3;whnf
 ·refine Zl rfl rfl fun x1 hx1=>?_;conv=>arg 3;whnf
  refine Zo _ Zmr rfl fun x2 hx2=>?_;conv=>arg 3;whnf
  refine Ze rfl ?_ ?_<;>conv=>arg 3;whnf
  ·exact Zd rfl
  ·exact Zf (ih _)
 ·exact Zd rfl
theorem Zd8 {t0:Bool}{t1:Bool}{t2:Bool}{a:(List Zm)}{b0:(List Bool)}{b1:(List Int)}:∀r,(ZaO a (fun z0=>ZcZ z0 b0))=some r→evD ctx 104 [(.d (D.list t0 (List.map ZC a))),(.d (D.fn 71 [(D.rptr [(D.list t1 (List.map D.bool b0)),(D.list t2 (List.map Zb b1))])]))]=some (Zcd r):=by
 show ZN _ (fun r rhs=>rhs=some (Zcd r)) _
 unfold ZaO
 rw[ZaU ctx 104 ZtV _ rfl rfl]
 conv=>arg 3;whnf
 refine Zn (ZH _ _) ?_;conv=>arg 3;whnf
 refine Zc _ (ZdO _) fun r3 hr3=>?_
 clear hr3
 rcases r3 with r3 | r3
 ·conv=>arg 3;whnf
  exact Zd rfl
 ·conv=>arg 3;whnf
  exact Zd rfl
def ZbQ (r:Bool):D:=(D.bool r)
theorem ZdN {t0:Bool}{t1:Bool}{t2:Bool}{a:(List Zm)}{b0:(List Bool)}{b1:(List Int)}:∀r,(Z2 a (fun z0=>ZcZ z0 b0))=some r→evD ctx 70 [(.d (D.list t0 (List.map ZC a))),(.d (D.fn 71 [(D.rptr [(D.list t1 (List.map D.bool b0)),(D.list t2 (List.map Zb b1))])]))]=some (ZbQ r):=by
 show ZN _ (fun r rhs=>rhs=some (ZbQ r)) _
 unfold Z2
 rw[ZaU ctx 70 Zyi _ rfl rfl]
 conv=>arg 3;whnf
 refine Zo _ Zd8 rfl fun x0 hx0=>?_;conv=>arg 3;whnf
 refine Ze rfl ?_ ?_<;>conv=>arg 3;whnf
 ·exact Zd rfl
 ·exact Zd rfl
def Zku (r:Bool):D:=(D.bool r)
theorem ZjP {t0:Bool}{t1:Bool}{t2:Bool}{t3:Bool}{t4:Bool}{t5:Bool}{t6:Bool}{t7:Bool}{a:Zj}{b:Zb1}{c:Zy}:∀r,(Zfn a b c)=some r→evD ctx 42 [(.d (D.agg (dA t0 t1 t2 t3 a))),(.d (D.agg [(D.list t4 (List.map Zb b.work)),(D.list t5 (List.map ZC b.edges))])),(.d (D.agg [(D.list t6 (List.map D.bool c.done)),(D.list t7 (List.map Zb c.vals))]))]=some (Zku r):=by
 show ZN _ (fun r rhs=>rhs=some (Zku r)) _
 unfold Zfn
 rw[ZaU ctx 42 ZAj _ rfl rfl]
 conv=>arg 3;whnf
 refine Zn (ZH _ _) ?_;conv=>arg 3;whnf
 refine Zn (ZH _ _) ?_;conv=>arg 3;whnf
 refine Ze rfl ?_ ?_<;>conv=>arg 3;whnf
 ·exact Zd rfl
 ·refine Zn (ZH _ _) ?_;conv=>arg 3;whnf
  refine Zn (ZH _ _) ?_;conv=>arg 3;whnf
  refine Ze rfl ?_ ?_<;>conv=>arg 3;whnf
  ·exact Zd rfl
  ·refine Zo _ ZdN rfl fun x0 hx0=>?_;conv=>arg 3;whnf
   refine Ze rfl ?_ ?_<;>conv=>arg 3;whnf
   ·exact Zd rfl
   ·exact Zd rfl
def ZiQ (r:Bool):D:=(D.bool r)
theorem Zmx {t0:Bool}{t1:Bool}{a:Zm}{b0:Int}{c0:(List Bool)}{c1:(List Int)}:∀r,(ZcW a b0 c0)=some r→evD ctx 72 [(.d (D.agg [(Zb a.src),(Zb a.dst)])),(.d (D.rptr [(Zb b0)])),(.d (D.rptr [(D.list t0 (List.map D.bool c0)),(D.list t1 (List.map Zb c1))]))]=some (ZiQ r):=by
 show ZN _ (fun r rhs=>rhs=some (ZiQ r)) _
 unfold ZcW
 rw[ZaU ctx 72 Zza _ rfl rfl]
 conv=>arg 3;whnf
 refine Ze rfl ?_ ?_<;>conv=>arg 3;whnf
 ·refine Zl rfl rfl fun x0 hx0=>?_;conv=>arg 3;whnf
  refine Ze rfl ?_ ?_<;>conv=>arg 3;whnf
  ·exact Zd rfl
  ·exact Zd rfl
 ·exact Zd rfl
def Zb9 (r:Int):D:=(Zb r)
def ZbP (t0:Bool) (t1:Bool) (t2:Bool) (a:(List Zm)) (b0:Int) (b1:(List Bool)) (b2:(List Int)):(Int⊕Unit)→Ex×List V×Zp
  | (.inl r)=>(.ret,[(.d (Zb r))],[])
  | (.inr r)=>(.exit 0,[.bad],[])
theorem ZdI {t0:Bool}{t1:Bool}{t2:Bool}{a:(List Zm)}{b0:Int}{b1:(List Bool)}{b2:(List Int)}:∀(s0:Int) (r:(Int⊕Unit)),lp (Zac a (fun z0=>ZcW z0 b0 b1)) s0=some r→lpW ctx 0 [0,1,7,8] [4] Zri [(.d (D.list t0 (List.map ZC a))),(.d (D.fn 72 [(D.rptr [(Zb b0)]),(D.rptr [(D.list t1 (List.map D.bool b1)),(D.list t2 (List.map Zb b2))])])),(.d (Zb (a.length:Int))),(.d (Zb s0))] []=some ((ZbP t0 t1 t2 a b0 b1 b2) r):=by
 refine ZaT (ZbP t0 t1 t2 a b0 b1 b2) ?_
 intro s0 rcl ih
 show ZN _ _ (lpW _ _ _ _ _ _ _)
 unfold Zac
 rw[ZaV]
 conv=>arg 3;whnf
 refine Ze rfl ?_ ?_<;>conv=>arg 3;whnf
 ·refine Zl rfl rfl fun x1 hx1=>?_;conv=>arg 3;whnf
  refine Zo _ Zmx rfl fun x2 hx2=>?_;conv=>arg 3;whnf
  refine Ze rfl ?_ ?_<;>conv=>arg 3;whnf
  ·exact Zd rfl
  ·exact Zf (ih _)
 ·exact Zd rfl
theorem Zeg {t0:Bool}{t1:Bool}{t2:Bool}{a:(List Zm)}{b0:Int}{b1:(List Bool)}{b2:(List Int)}:∀r,(ZaO a (fun z0=>ZcW z0 b0 b1))=some r→evD ctx 104 [(.d (D.list t0 (List.map ZC a))),(.d (D.fn 72 [(D.rptr [(Zb b0)]),(D.rptr [(D.list t1 (List.map D.bool b1)),(D.list t2 (List.map Zb b2))])]))]=some (Zb9 r):=by
 show ZN _ (fun r rhs=>rhs=some (Zb9 r)) _
 unfold ZaO
 rw[ZaU ctx 104 ZtV _ rfl rfl]
 conv=>arg 3;whnf
 refine Zn (ZH _ _) ?_;conv=>arg 3;whnf
 refine Zc _ (ZdI _) fun r3 hr3=>?_
 clear hr3
 rcases r3 with r3 | r3
 ·conv=>arg 3;whnf
  exact Zd rfl
 ·conv=>arg 3;whnf
  exact Zd rfl
def ZbU (r:Bool):D:=(D.bool r)
theorem ZdL {t0:Bool}{t1:Bool}{t2:Bool}{a:(List Zm)}{b0:Int}{b1:(List Bool)}{b2:(List Int)}:∀r,(Z2 a (fun z0=>ZcW z0 b0 b1))=some r→evD ctx 70 [(.d (D.list t0 (List.map ZC a))),(.d (D.fn 72 [(D.rptr [(Zb b0)]),(D.rptr [(D.list t1 (List.map D.bool b1)),(D.list t2 (List.map Zb b2))])]))]=some (ZbU r):=by
 show ZN _ (fun r rhs=>rhs=some (ZbU r)) _
 unfold Z2
 rw[ZaU ctx 70 Zyi _ rfl rfl]
 conv=>arg 3;whnf
 refine Zo _ Zeg rfl fun x0 hx0=>?_;conv=>arg 3;whnf
 refine Ze rfl ?_ ?_<;>conv=>arg 3;whnf
 ·exact Zd rfl
 ·exact Zd rfl
def Zj6 (r:Bool):D:=(D.bool r)
theorem ZjJ {t0:Bool}{t1:Bool}{t2:Bool}{t3:Bool}{a:Zb1}{b:Zy}{c:Int}:∀r,(Zfo a b c)=some r→evD ctx 43 [(.d (D.agg [(D.list t0 (List.map Zb a.work)),(D.list t1 (List.map ZC a.edges))])),(.d (D.agg [(D.list t2 (List.map D.bool b.done)),(D.list t3 (List.map Zb b.vals))])),(.d (Zb c))]=some (Zj6 r):=by
 show ZN _ (fun r rhs=>rhs=some (Zj6 r)) _
 unfold Zfo
 rw[ZaU ctx 43 ZzN _ rfl rfl]
 conv=>arg 3;whnf
 refine Zo _ ZdL rfl fun x0 hx0=>?_;conv=>arg 3;whnf
 refine Ze rfl ?_ ?_<;>conv=>arg 3;whnf
 ·exact Zd rfl
 ·exact Zd rfl
def Zkh (r:(List Int)):D:=(D.list true (List.map Zb r))
def Zie (t4:Bool) (t5:Bool) (b:Zy) (x0:(ZjX×Int)):(List Int)→Ex×List V×Zp
  | r=>(.exit 0,[(.sl 0 1)],[(.arr 1 (List.map Zb r))])
theorem Zll {t4:Bool}{t5:Bool}{b:Zy}{x0:(ZjX×Int)}:∀(s2:Int×(List Int)) (r:(List Int)),lp (Zd6 b x0) s2=some r→lpW ctx 0 [3,5,7,26,27,28] [7] Zvs [(.ptr 0 0),(.ptr 1 0),(.sl 2 1),(.d (D.list t4 (List.map D.bool b.done))),(.d (Zb (b.done.length:Int))),(.d (Zb s2.1))] [(.cells [(.d (D.list t4 (List.map D.bool b.done))),(.d (D.list t5 (List.map Zb b.vals)))]),(.cells [(.d (D.list true (List.map Zb x0.1.dag.work))),(.d (D.list true (List.map ZC x0.1.dag.edges))),(.d (D.list true (List.map Zbg x0.1.pieces)))]),(.arr 1 (List.map Zb s2.2))]=some ((Zie t4 t5 b x0) r):=by
 refine ZaT (Zie t4 t5 b x0) ?_
 intro s2 rcl ih
 show ZN _ _ (lpW _ _ _ _ _ _ _)
 unfold Zd6
 rw[ZaV]
 conv=>arg 3;whnf
 refine Ze rfl ?_ ?_<;>conv=>arg 3;whnf
 ·refine Zl rfl rfl fun x3 hx3=>?_;conv=>arg 3;whnf
  refine Ze rfl ?_ ?_<;>conv=>arg 3;whnf
  ·exact Zf (ih _)
  ·refine Zo _ ZjJ rfl fun x4 hx4=>?_;conv=>arg 3;whnf
   refine Ze rfl ?_ ?_<;>conv=>arg 3;whnf
   ·exact Zf (ih _)
   ·refine Zbe rfl ?_;conv=>arg 3;whnf
    refine Ze (ZgK Zb s2.2 1) ?_ ?_
    ·conv=>arg 3;whnf
     refine Zn (ZgJ Zb s2.2 [s2.1]) ?_;conv=>arg 3;whnf
     exact Zf (ih _)
    ·exact Z1
 ·exact Zd rfl
theorem ZnB {t0:Bool}{t1:Bool}{t2:Bool}{t3:Bool}{t4:Bool}{t5:Bool}{a:Zj}{b:Zy}:∀r,(Zfr a b)=some r→evD ctx 16 [(.d (D.agg (dA t0 t1 t2 t3 a))),(.d (D.agg [(D.list t4 (List.map D.bool b.done)),(D.list t5 (List.map Zb b.vals))]))]=some (Zkh r):=by
 show ZN _ (fun r rhs=>rhs=some (Zkh r)) _
 unfold Zfr
 rw[ZaU ctx 16 ZAd _ rfl rfl]
 conv=>arg 3;whnf
 refine Zo _ Zft rfl fun x0 hx0=>?_;conv=>arg 3;whnf
 refine Ze rfl ?_ ?_<;>conv=>arg 3;whnf
 ·exact Zd rfl
 ·refine Zo _ ZjP rfl fun x1 hx1=>?_;conv=>arg 3;whnf
  refine Ze rfl ?_ ?_<;>conv=>arg 3;whnf
  ·refine Zn (ZH _ _) ?_;conv=>arg 3;whnf
   refine Zc _ (Zll _) fun r5 hr5=>?_;conv=>arg 3;whnf
   exact Zd rfl
  ·exact Zd rfl
def ZeU (t0:Bool) (a:(List Bool)):Unit→V×Zp
  | r=>((.sl 0 1),[(.arr 1 (List.map D.bool a))])
theorem ZgT {t0:Bool}{a:(List Bool)}:∀r,(ZbN a)=some r→evW ctx 73 [(.d (D.list t0 (List.map D.bool a)))] []=some ((ZeU t0 a) r):=by
 show ZN _ (fun r rhs=>rhs=some ((ZeU t0 a) r)) _
 unfold ZbN
 rw[Zfd ctx 73 Zzn _ _ rfl rfl]
 conv=>arg 3;whnf
 refine Ze (ZtG D.bool a) ?_ ?_
 ·conv=>arg 3;whnf
  refine Zbe (ZeE (f:=D.bool) (fun _=>⟨rfl,rfl⟩) a 0) ?_;conv=>arg 3;whnf
  refine Ze (ZeC D.bool a) ?_ ?_
  ·conv=>arg 3;whnf
   refine Zn (rfl:_=List.map D.bool a) ?_;conv=>arg 3;whnf
   exact Zd rfl
  ·exact Z1
 ·exact Z1
def Zfb (t0:Bool) (a:(List Int)):Unit→V×Zp
  | r=>((.sl 0 1),[(.arr 1 (List.map Zb a))])
theorem Zhn {t0:Bool}{a:(List Int)}:∀r,(Zcc a)=some r→evW ctx 74 [(.d (D.list t0 (List.map Zb a)))] []=some ((Zfb t0 a) r):=by
 show ZN _ (fun r rhs=>rhs=some ((Zfb t0 a) r)) _
 unfold Zcc
 rw[Zfd ctx 74 ZzP _ _ rfl rfl]
 conv=>arg 3;whnf
 refine Ze (ZtG Zb a) ?_ ?_
 ·conv=>arg 3;whnf
  refine Zbe (ZeE (f:=Zb) (fun _=>⟨rfl,rfl⟩) a 0) ?_;conv=>arg 3;whnf
  refine Ze (ZeC Zb a) ?_ ?_
  ·conv=>arg 3;whnf
   refine Zn (rfl:_=List.map Zb a) ?_;conv=>arg 3;whnf
   exact Zd rfl
  ·exact Z1
 ·exact Z1
def Zks (r:Int):D:=(Zb r)
theorem Znu {t0:Bool}{t1:Bool}{t2:Bool}{a:ZjX}{b:Int}:∀r,(Zgf a b)=some r→evD ctx 75 [(.d (D.agg [(D.list t0 (List.map Zb a.dag.work)),(D.list t1 (List.map ZC a.dag.edges)),(D.list t2 (List.map Zbg a.pieces))])),(.d (Zb b))]=some (Zks r):=by
 show ZN _ (fun r rhs=>rhs=some (Zks r)) _
 unfold Zgf
 rw[ZaU ctx 75 ZA1 _ rfl rfl]
 conv=>arg 3;whnf
 refine Zw4 (f:=Zbg) (g:=(fun x:Zh=>(x.part,x.step))) (l:=a.pieces) (fun _=>rfl) fun x0 hx0=>?_;conv=>arg 3;whnf
 exact Zd rfl
def Zkv (r:(List Int)):D:=(D.list true (List.map Zb r))
def Zh5 (t0:Bool) (t1:Bool) (t2:Bool) (t3:Bool) (a:Zj) (b:Int):(List Int)→Ex×List V×Zp
  | r=>(.exit 0,[(.d (Zb b)),(.ptr 0 0),(.sl 1 1)],[(.cells (dV t0 t1 t2 t3 a)),(.arr 1 (List.map Zb r))])
theorem Zlo {t0:Bool}{t1:Bool}{t2:Bool}{t3:Bool}{a:Zj}{b:Int}:∀(s1:Int×(List Int)) (r:(List Int)),lp (ZfK a b) s1=some r→lpW ctx 0 [1,2,5,14,15,16] [1,2,5] Zwv [(.d (Zb b)),(.ptr 0 0),(.sl 1 1),(.d (D.list t1 (List.map ZC a.edges))),(.d (Zb (a.edges.length:Int))),(.d (Zb s1.1))] [(.cells (dV t0 t1 t2 t3 a)),(.arr 1 (List.map Zb s1.2))]=some ((Zh5 t0 t1 t2 t3 a b) r):=by
 refine ZaT (Zh5 t0 t1 t2 t3 a b) ?_
 intro s1 rcl ih
 show ZN _ _ (lpW _ _ _ _ _ _ _)
 unfold ZfK
 rw[ZaV]
 conv=>arg 3;whnf
 refine Ze rfl ?_ ?_<;>conv=>arg 3;whnf
 ·refine Zl rfl rfl fun x2 hx2=>?_;conv=>arg 3;whnf
  refine Ze rfl ?_ ?_<;>conv=>arg 3;whnf
  ·refine Zbe rfl ?_;conv=>arg 3;whnf
   refine Ze (ZgK Zb s1.2 1) ?_ ?_
   ·conv=>arg 3;whnf
    refine Zn (ZgJ Zb s1.2 [x2.src]) ?_;conv=>arg 3;whnf
    exact Zf (ih _)
   ·exact Z1
  ·exact Zf (ih _)
 ·exact Zd rfl
def Zih (t0:Bool) (t1:Bool) (t2:Bool) (t3:Bool) (a:Zj) (x4:(List Int)):(List Int)→Ex×List V×Zp
  | r=>(.exit 2,[(.sl 0 1)],[(.arr 1 (List.map Zb r))])
theorem Zlj {t0:Bool}{t1:Bool}{t2:Bool}{t3:Bool}{a:Zj}{x4:(List Int)}:∀(s5:Int×(List Int)) (r:(List Int)),lp (ZfL a x4) s5=some r→lpW ctx 0 [2,5,32,33,34] [5] ZvM [(.ptr 0 0),(.sl 1 1),(.d (D.list true (List.map Zb x4))),(.d (Zb (x4.length:Int))),(.d (Zb s5.1))] [(.cells (dV t0 t1 t2 t3 a)),(.arr 1 (List.map Zb s5.2))]=some ((Zih t0 t1 t2 t3 a x4) r):=by
 refine ZaT (Zih t0 t1 t2 t3 a x4) ?_
 intro s5 rcl ih
 show ZN _ _ (lpW _ _ _ _ _ _ _)
 unfold ZfL
 rw[ZaV]
 conv=>arg 3;whnf
 refine Ze rfl ?_ ?_<;>conv=>arg 3;whnf
 ·refine Zl rfl rfl fun x6 hx6=>?_;conv=>arg 3;whnf
  refine Zl rfl rfl fun x7 hx7=>?_;conv=>arg 3;whnf
  refine Zbe rfl ?_;conv=>arg 3;whnf
  refine Ze (ZgK Zb s5.2 1) ?_ ?_
  ·conv=>arg 3;whnf
   refine Zn (ZgJ Zb s5.2 [x7.maker]) ?_;conv=>arg 3;whnf
   exact Zf (ih _)
  ·exact Z1
 ·exact Zd rfl
theorem Znx {t0:Bool}{t1:Bool}{t2:Bool}{t3:Bool}{a:Zj}{b:Int}:∀r,(Zfu a b)=some r→evD ctx 76 [(.d (D.agg (dA t0 t1 t2 t3 a))),(.d (Zb b))]=some (Zkv r):=by
 show ZN _ (fun r rhs=>rhs=some (Zkv r)) _
 unfold Zfu
 rw[ZaU ctx 76 ZzA _ rfl rfl]
 conv=>arg 3;whnf
 refine Zo _ Zg5 rfl fun x0 hx0=>?_;conv=>arg 3;whnf
 refine Ze rfl ?_ ?_<;>conv=>arg 3;whnf
 ·exact Zd rfl
 ·refine Zn (ZH _ _) ?_;conv=>arg 3;whnf
  refine Zc _ (Zlo _) fun r3 hr3=>?_;conv=>arg 3;whnf
  refine Zo _ Zib rfl fun x4 hx4=>?_;conv=>arg 3;whnf
  refine Zn (ZH _ _) ?_;conv=>arg 3;whnf
  refine Zc _ (Zlj _) fun r8 hr8=>?_;conv=>arg 3;whnf
  exact Zd rfl
def Zkb (r:Int):D:=(D.int .u32 r)
theorem Zd4 {a:Int}:∀r,(ZcT a)=some r→evD ctx 64 [(.d (Zb a))]=some (Zkb r):=by
 show ZN _ (fun r rhs=>rhs=some (Zkb r)) _
 unfold ZcT
 rw[ZaU ctx 64 Zzz _ rfl rfl]
 conv=>arg 3;whnf
 exact Zd rfl
def Zle:Unit→D
  | r=>(D.agg [(D.int .u32 0),(D.fn 97 []),(D.int .u32 1),(D.fn 98 []),(D.int .u32 0),(D.fn 99 []),(D.int .u32 7),(D.fn 100 [])])
theorem ZoO:∀r,Zh0=some r→evD ctx 65 []=some (Zle r):=by
 show ZN _ (fun r rhs=>rhs=some (Zle r)) _
 unfold Zh0
 rw[ZaU ctx 65 ZAk _ rfl rfl]
 conv=>arg 3;whnf
 exact Zd rfl
def ZjG (r:Int):D:=(D.int .u32 r)
theorem ZmD {a:Int}{b:Int}:∀r,(ZfE a b)=some r→evD ctx 97 [(.d (D.int .u32 a)),(.d (D.int .u32 b))]=some (ZjG r):=by
 show ZN _ (fun r rhs=>rhs=some (ZjG r)) _
 unfold ZfE
 rw[ZaU ctx 97 ZzJ _ rfl rfl]
 conv=>arg 3;whnf
 exact Zd rfl
def ZjH (r:Int):D:=(D.int .u32 r)
theorem ZmR {a:Int}{b:Int}:∀r,(ZfG a b)=some r→evD ctx 98 [(.d (D.int .u32 a)),(.d (D.int .u32 b))]=some (ZjH r):=by
 show ZN _ (fun r rhs=>rhs=some (ZjH r)) _
 unfold ZfG
 rw[ZaU ctx 98 Zz6 _ rfl rfl]
 conv=>arg 3;whnf
 exact Zd rfl
def ZjO (r:Int):D:=(D.int .u32 r)
theorem ZmT {a:Int}{b:Int}:∀r,(ZfF a b)=some r→evD ctx 99 [(.d (D.int .u32 a)),(.d (D.int .u32 b))]=some (ZjO r):=by
 show ZN _ (fun r rhs=>rhs=some (ZjO r)) _
 unfold ZfF
 rw[ZaU ctx 99 Zzh _ rfl rfl]
 conv=>arg 3;whnf
 exact Zd rfl
def ZjF (r:Int):D:=(D.int .u32 r)
theorem ZmW {a:Int}{b:Int}:∀r,(ZfJ a b)=some r→evD ctx 100 [(.d (D.int .u32 a)),(.d (D.int .u32 b))]=some (ZjF r):=by
 show ZN _ (fun r rhs=>rhs=some (ZjF r)) _
 unfold ZfJ
 rw[ZaU ctx 100 Zw9 _ rfl rfl]
 conv=>arg 3;whnf
 exact Zd rfl
def Zm6 (r:Int):D:=(Zb r)
def Zki (t0:Bool) (a:ZV) (b:(List Int)):(List (Int×Int))→Ex×List V×Zp
  | r=>(.exit 1,[(.ptr 0 0),(.mp 1)],[(.cells [(.d (Zb a.op)),(.d (Zb a.arg)),(.d (Zb a.work))]),(.mp (mpD Zb Zb r))])
theorem ZnE {t0:Bool}{a:ZV}{b:(List Int)}:∀(s0:Int×(List (Int×Int))) (r:(List (Int×Int))),lp (ZeL b) s0=some r→lpW ctx 0 [3,7,19,20,21] [3,7] ZvN [(.ptr 0 0),(.mp 1),(.d (D.list t0 (List.map Zb b))),(.d (Zb (b.length:Int))),(.d (Zb s0.1))] [(.cells [(.d (Zb a.op)),(.d (Zb a.arg)),(.d (Zb a.work))]),(.mp (mpD Zb Zb s0.2))]=some ((Zki t0 a b) r):=by
 refine ZaT (Zki t0 a b) ?_
 intro s0 rcl ih
 show ZN _ _ (lpW _ _ _ _ _ _ _)
 unfold ZeL
 rw[ZaV]
 conv=>arg 3;whnf
 refine Ze rfl ?_ ?_<;>conv=>arg 3;whnf
 ·refine Zl rfl rfl fun x1 hx1=>?_;conv=>arg 3;whnf
  refine Zg (Zdj (f:=Zb) (g:=Zb) (fun ka kb:Int=>(ka==kb)) (fun _ _=>rfl) s0.2 s0.1 x1) ?_;conv=>arg 3;whnf
  exact Zf (ih _)
 ·exact Zd rfl
def Zkc (t1:Bool) (c:(List Int)):Int→Ex×List V×Zp
  | r=>(.exit 3,[(.d (D.int .u32 r))],[])
theorem Znv {t1:Bool}{c:(List Int)}:∀(s6:Int×Int) (r:Int),lp (ZeP c) s6=some r→lpW ctx 0 [10,11,60,61,62] [11] ZoC [(.ptr 0 0),(.d (D.int .u32 s6.1)),(.d (D.list t1 (List.map Zb c))),(.d (Zb (c.length:Int))),(.d (Zb s6.2))] [(.cells [(.d (D.int .u32 0)),(.d (D.fn 97 []))])]=some ((Zkc t1 c) r):=by
 refine ZaT (Zkc t1 c) ?_
 intro s6 rcl ih
 show ZN _ _ (lpW _ _ _ _ _ _ _)
 unfold ZeP
 rw[ZaV]
 conv=>arg 3;whnf
 refine Ze rfl ?_ ?_<;>conv=>arg 3;whnf
 ·refine Zl rfl rfl fun x7 hx7=>?_;conv=>arg 3;whnf
  refine Zo _ Zd4 rfl fun x8 hx8=>?_;conv=>arg 3;whnf
  refine Zo _ ZmD rfl fun x9 hx9=>?_;conv=>arg 3;whnf
  exact Zf (ih _)
 ·exact Zd rfl
def ZiM (t1:Bool) (c:(List Int)):Int→Ex×List V×Zp
  | r=>(.exit 3,[(.d (D.int .u32 r))],[])
theorem Zmk {t1:Bool}{c:(List Int)}:∀(s11:Int×Int) (r:Int),lp (ZdQ c) s11=some r→lpW ctx 0 [10,11,60,61,62] [11] ZoC [(.ptr 0 0),(.d (D.int .u32 s11.1)),(.d (D.list t1 (List.map Zb c))),(.d (Zb (c.length:Int))),(.d (Zb s11.2))] [(.cells [(.d (D.int .u32 1)),(.d (D.fn 98 []))])]=some ((ZiM t1 c) r):=by
 refine ZaT (ZiM t1 c) ?_
 intro s11 rcl ih
 show ZN _ _ (lpW _ _ _ _ _ _ _)
 unfold ZdQ
 rw[ZaV]
 conv=>arg 3;whnf
 refine Ze rfl ?_ ?_<;>conv=>arg 3;whnf
 ·refine Zl rfl rfl fun x12 hx12=>?_;conv=>arg 3;whnf
  refine Zo _ Zd4 rfl fun x13 hx13=>?_;conv=>arg 3;whnf
  refine Zo _ ZmR rfl fun x14 hx14=>?_;conv=>arg 3;whnf
  exact Zf (ih _)
 ·exact Zd rfl
def ZiN (t1:Bool) (c:(List Int)):Int→Ex×List V×Zp
  | r=>(.exit 3,[(.d (D.int .u32 r))],[])
theorem Zl0 {t1:Bool}{c:(List Int)}:∀(s16:Int×Int) (r:Int),lp (ZdS c) s16=some r→lpW ctx 0 [10,11,60,61,62] [11] ZoC [(.ptr 0 0),(.d (D.int .u32 s16.1)),(.d (D.list t1 (List.map Zb c))),(.d (Zb (c.length:Int))),(.d (Zb s16.2))] [(.cells [(.d (D.int .u32 0)),(.d (D.fn 99 []))])]=some ((ZiN t1 c) r):=by
 refine ZaT (ZiN t1 c) ?_
 intro s16 rcl ih
 show ZN _ _ (lpW _ _ _ _ _ _ _)
 unfold ZdS
 rw[ZaV]
 conv=>arg 3;whnf
 refine Ze rfl ?_ ?_<;>conv=>arg 3;whnf
 ·refine Zl rfl rfl fun x17 hx17=>?_;conv=>arg 3;whnf
  refine Zo _ Zd4 rfl fun x18 hx18=>?_;conv=>arg 3;whnf
  refine Zo _ ZmT rfl fun x19 hx19=>?_;conv=>arg 3;whnf
  exact Zf (ih _)
 ·exact Zd rfl
def ZiK (t1:Bool) (c:(List Int)):Int→Ex×List V×Zp
  | r=>(.exit 3,[(.d (D.int .u32 r))],[])
theorem ZlZ {t1:Bool}{c:(List Int)}:∀(s21:Int×Int) (r:Int),lp (ZdH c) s21=some r→lpW ctx 0 [10,11,60,61,62] [11] ZoC [(.ptr 0 0),(.d (D.int .u32 s21.1)),(.d (D.list t1 (List.map Zb c))),(.d (Zb (c.length:Int))),(.d (Zb s21.2))] [(.cells [(.d (D.int .u32 7)),(.d (D.fn 100 []))])]=some ((ZiK t1 c) r):=by
 refine ZaT (ZiK t1 c) ?_
 intro s21 rcl ih
 show ZN _ _ (lpW _ _ _ _ _ _ _)
 unfold ZdH
 rw[ZaV]
 conv=>arg 3;whnf
 refine Ze rfl ?_ ?_<;>conv=>arg 3;whnf
 ·refine Zl rfl rfl fun x22 hx22=>?_;conv=>arg 3;whnf
  refine Zo _ Zd4 rfl fun x23 hx23=>?_;conv=>arg 3;whnf
  refine Zo _ ZmW rfl fun x24 hx24=>?_;conv=>arg 3;whnf
  exact Zf (ih _)
 ·exact Zd rfl
theorem Zrf {t0:Bool}{t1:Bool}{a:ZV}{b:(List Int)}{c:(List Int)}:∀r,(ZiS a b c)=some r→evD ctx 39 [(.d (D.agg [(Zb a.op),(Zb a.arg),(Zb a.work)])),(.d (D.list t0 (List.map Zb b))),(.d (D.list t1 (List.map Zb c)))]=some (Zm6 r):=by
 show ZN _ (fun r rhs=>rhs=some (Zm6 r)) _
 unfold ZiS
 rw[ZaU ctx 39 Zy8 _ rfl rfl]
 conv=>arg 3;whnf
 refine Ze rfl ?_ ?_<;>conv=>arg 3;whnf
 ·refine Zn (ZH _ _) ?_;conv=>arg 3;whnf
  refine Zc _ (ZnE _) fun r2 hr2=>?_;conv=>arg 3;whnf
  refine Zg (Zbq (f:=Zb) (g:=Zb) (fun ka kb:Int=>(ka==kb)) (fun _ _=>rfl) r2 a.arg 0) ?_;conv=>arg 3;whnf
  refine Zo _ Zd4 rfl fun x3 hx3=>?_;conv=>arg 3;whnf
  exact Zd rfl
 ·refine Ze rfl ?_ ?_<;>conv=>arg 3;whnf
  ·refine Zo _ Zd4 rfl fun x4 hx4=>?_;conv=>arg 3;whnf
   exact Zd rfl
  ·refine Ze rfl ?_ ?_<;>conv=>arg 3;whnf
   ·exact Zd rfl
   ·refine Ze rfl ?_ ?_<;>conv=>arg 3;whnf
    ·exact Zd rfl
    ·refine Zo _ ZoO rfl fun x5 hx5=>?_;conv=>arg 3;whnf
     refine Ze rfl ?_ ?_
     ·conv=>arg 3;whnf
      refine Zs3 rfl ?_ ?_ ?_ ?_<;>conv=>arg 3;whnf
      ·refine Zg rfl ?_;conv=>arg 3;whnf
       refine Zn (ZH _ _) ?_;conv=>arg 3;whnf
       refine Zc _ (Znv _) fun r10 hr10=>?_;conv=>arg 3;whnf
       exact Zd rfl
      ·refine Zg rfl ?_;conv=>arg 3;whnf
       refine Zn (ZH _ _) ?_;conv=>arg 3;whnf
       refine Zc _ (Zmk _) fun r15 hr15=>?_;conv=>arg 3;whnf
       exact Zd rfl
      ·conv=>arg 3;whnf
       refine Zg rfl ?_;conv=>arg 3;whnf
       refine Zn (ZH _ _) ?_;conv=>arg 3;whnf
       refine Zc _ (Zl0 _) fun r20 hr20=>?_;conv=>arg 3;whnf
       exact Zd rfl
      ·conv=>arg 3;whnf
       refine Zg rfl ?_;conv=>arg 3;whnf
       refine Zn (ZH _ _) ?_;conv=>arg 3;whnf
       refine Zc _ (ZlZ _) fun r25 hr25=>?_;conv=>arg 3;whnf
       exact Zd rfl
     ·exact Z1
def ZjQ (r:Zy):D:=(D.agg [(D.list true (List.map D.bool r.done)),(D.list true (List.map Zb r.vals))])
def ZhW (t0:Bool) (t1:Bool) (t2:Bool) (t3:Bool) (t7:Bool) (a:Zj) (c:(List Int)) (d:Zy) (e:Int) (x3:Zh) (x5:(List Int)):(List Int)→Ex×List V×Zp
  | r=>(.exit 0,[(.d (D.list t7 (List.map Zb c))),(.ptr 0 0),(.ptr 1 0),(.ptr 2 0),(.d (Zb x3.part)),(.sl 3 1)],[(.cells (dV t0 t1 t2 t3 a)),(.cells [(.sl 4 1),(.sl 5 1)]),(.cells [(.sl 6 1),(.sl 7 1)]),(.arr 1 (List.map Zb r)),(.arr 1 (List.map D.bool (List.set d.done e.toNat true))),(.arr 1 (List.map Zb d.vals)),(.arr 1 []),(.arr 1 [])])
theorem ZkP {t0:Bool}{t1:Bool}{t2:Bool}{t3:Bool}{t7:Bool}{a:Zj}{c:(List Int)}{d:Zy}{e:Int}{x3:Zh}{x5:(List Int)}:∀(s6:Int×(List Int)) (r:(List Int)),lp (ZdC d x5) s6=some r→lpW ctx 0 [2,5,8,10,11,12,44,45,46] [2,5,8,10,11,12] Zvw [(.d (D.list t7 (List.map Zb c))),(.ptr 0 0),(.ptr 1 0),(.ptr 2 0),(.d (Zb x3.part)),(.sl 3 1),(.d (D.list true (List.map Zb x5))),(.d (Zb (x5.length:Int))),(.d (Zb s6.1))] [(.cells (dV t0 t1 t2 t3 a)),(.cells [(.sl 4 1),(.sl 5 1)]),(.cells [(.sl 6 1),(.sl 7 1)]),(.arr 1 (List.map Zb s6.2)),(.arr 1 (List.map D.bool (List.set d.done e.toNat true))),(.arr 1 (List.map Zb d.vals)),(.arr 1 []),(.arr 1 [])]=some ((ZhW t0 t1 t2 t3 t7 a c d e x3 x5) r):=by
 refine ZaT (ZhW t0 t1 t2 t3 t7 a c d e x3 x5) ?_
 intro s6 rcl ih
 show ZN _ _ (lpW _ _ _ _ _ _ _)
 unfold ZdC
 rw[ZaV]
 conv=>arg 3;whnf
 refine Ze rfl ?_ ?_<;>conv=>arg 3;whnf
 ·refine Zl rfl rfl fun x7 hx7=>?_;conv=>arg 3;whnf
  refine Zl rfl rfl fun x8 hx8=>?_;conv=>arg 3;whnf
  refine Zg (ZA rfl hx8) ?_;conv=>arg 3;whnf
  refine Zbe rfl ?_;conv=>arg 3;whnf
  refine Ze (ZgK Zb s6.2 1) ?_ ?_
  ·conv=>arg 3;whnf
   refine Zn (ZgJ Zb s6.2 [x8]) ?_;conv=>arg 3;whnf
   exact Zf (ih _)
  ·exact Z1
 ·exact Zd rfl
theorem ZgD {t0:Bool}{t1:Bool}{t2:Bool}{t3:Bool}{t4:Bool}{t5:Bool}{t6:Bool}{t7:Bool}{t8:Bool}{t9:Bool}{a:Zj}{b:ZjX}{c:(List Int)}{d:Zy}{e:Int}:∀r,(Zep a b c d e)=some r→evD ctx 44 [(.d (D.agg (dA t0 t1 t2 t3 a))),(.d (D.agg [(D.list t4 (List.map Zb b.dag.work)),(D.list t5 (List.map ZC b.dag.edges)),(D.list t6 (List.map Zbg b.pieces))])),(.d (D.list t7 (List.map Zb c))),(.d (D.agg [(D.list t8 (List.map D.bool d.done)),(D.list t9 (List.map Zb d.vals))])),(.d (Zb e))]=some (ZjQ r):=by
 show ZN _ (fun r rhs=>rhs=some (ZjQ r)) _
 unfold Zep
 rw[ZaU ctx 44 Zz1 _ rfl rfl]
 conv=>arg 3;whnf
 refine Zc _ ZgT fun x0 hx0=>?_;conv=>arg 3;whnf
 refine Zc _ Zhn fun x1 hx1=>?_;conv=>arg 3;whnf
 refine Zl rfl rfl fun x2 hx2=>?_;conv=>arg 3;whnf
 refine Zg (ZA rfl hx2) ?_;conv=>arg 3;whnf
 refine Zn (ZaL D.bool d.done e.toNat true) ?_;conv=>arg 3;whnf
 refine Zl rfl rfl fun x3 hx3=>?_;conv=>arg 3;whnf
 refine Ze rfl ?_ ?_<;>conv=>arg 3;whnf
 ·exact Zd rfl
 ·refine Zo _ Znu rfl fun x4 hx4=>?_;conv=>arg 3;whnf
  refine Ze rfl ?_ ?_<;>conv=>arg 3;whnf
  ·exact Zd rfl
  ·refine Zo _ Znx rfl fun x5 hx5=>?_;conv=>arg 3;whnf
   refine Zn (ZH _ _) ?_;conv=>arg 3;whnf
   refine Zc _ (ZkP _) fun r9 hr9=>?_;conv=>arg 3;whnf
   refine Zl rfl rfl fun x10 hx10=>?_;conv=>arg 3;whnf
   refine Zo _ Zrf rfl fun x11 hx11=>?_;conv=>arg 3;whnf
   refine Zl rfl rfl fun x12 hx12=>?_;conv=>arg 3;whnf
   refine Zg (ZA rfl hx12) ?_;conv=>arg 3;whnf
   refine Zn (ZaL Zb d.vals x3.part.toNat x11) ?_;conv=>arg 3;whnf
   exact Zd rfl
def ZjI (r:(Zy×Int)):D:=(D.tup [(D.agg [(D.list true (List.map D.bool r.1.done)),(D.list true (List.map Zb r.1.vals))]),(Zb r.2)])
theorem ZgE {t0:Bool}{t1:Bool}{t2:Bool}{t3:Bool}{t4:Bool}{t5:Bool}{t6:Bool}{a:Zj}{b:(List Int)}{c:Zy}{d:Int}:∀r,(Zds a b c d)=some r→evD ctx 18 [(.d (D.agg (dA t0 t1 t2 t3 a))),(.d (D.list t4 (List.map Zb b))),(.d (D.agg [(D.list t5 (List.map D.bool c.done)),(D.list t6 (List.map Zb c.vals))])),(.d (Zb d))]=some (ZjI r):=by
 show ZN _ (fun r rhs=>rhs=some (ZjI r)) _
 unfold Zds
 rw[ZaU ctx 18 ZAe _ rfl rfl]
 conv=>arg 3;whnf
 refine Zo _ Zft rfl fun x0 hx0=>?_;conv=>arg 3;whnf
 refine Ze rfl ?_ ?_<;>conv=>arg 3;whnf
 ·refine Ze rfl ?_ ?_<;>conv=>arg 3;whnf
  ·exact Zd rfl
  ·refine Zo _ ZgD rfl fun x1 hx1=>?_;conv=>arg 3;whnf
   exact Zd rfl
 ·refine Zo _ ZjP rfl fun x2 hx2=>?_;conv=>arg 3;whnf
  refine Ze rfl ?_ ?_<;>conv=>arg 3;whnf
  ·refine Ze rfl ?_ ?_<;>conv=>arg 3;whnf
   ·refine Zbe rfl ?_;conv=>arg 3;whnf
    exact Zd rfl
   ·refine Zn (ZH _ _) ?_;conv=>arg 3;whnf
    refine Ze rfl ?_ ?_<;>conv=>arg 3;whnf
    ·refine Zbe rfl ?_;conv=>arg 3;whnf
     exact Zd rfl
    ·refine Zl rfl rfl fun x3 hx3=>?_;conv=>arg 3;whnf
     refine Ze rfl ?_ ?_<;>conv=>arg 3;whnf
     ·refine Zbe rfl ?_;conv=>arg 3;whnf
      exact Zd rfl
     ·refine Zo _ ZjJ rfl fun x4 hx4=>?_;conv=>arg 3;whnf
      refine Ze rfl ?_ ?_<;>conv=>arg 3;whnf
      ·refine Zbe rfl ?_;conv=>arg 3;whnf
       exact Zd rfl
      ·refine Ze rfl ?_ ?_<;>conv=>arg 3;whnf
       ·exact Zd rfl
       ·refine Zo _ ZgD rfl fun x5 hx5=>?_;conv=>arg 3;whnf
        exact Zd rfl
  ·refine Zbe rfl ?_;conv=>arg 3;whnf
   exact Zd rfl
def Zk7 (r:(List Int)):D:=(D.list true (List.map Zb r))
theorem ZnX {t0:Bool}{t1:Bool}{a:Zb1}:∀r,(ZgQ a)=some r→evD ctx 45 [(.d (D.agg [(D.list t0 (List.map Zb a.work)),(D.list t1 (List.map ZC a.edges))]))]=some (Zk7 r):=by
 show ZN _ (fun r rhs=>rhs=some (Zk7 r)) _
 unfold ZgQ
 rw[ZaU ctx 45 ZzL _ rfl rfl]
 conv=>arg 3;whnf
 refine Zo _ Zkl rfl fun x0 hx0=>?_;conv=>arg 3;whnf
 refine Ze rfl ?_ ?_<;>conv=>arg 3;whnf
 ·exact Zd rfl
 ·refine Zo _ Zj8 rfl fun x1 hx1=>?_;conv=>arg 3;whnf
  refine Ze rfl ?_ ?_<;>conv=>arg 3;whnf
  ·exact Zd rfl
  ·exact Zd rfl
def ZlM (r:((List Int)×Int)):D:=(D.tup [(D.list true (List.map Zb r.1)),(Zb r.2)])
def ZjK (t0:Bool) (t1:Bool) (t2:Bool) (t3:Bool) (t4:Bool) (a:Zj) (b:(List Int)) (x1:(ZjX×Int)) (x2:(List Int)):((List Bool)×(List Int))→Ex×List V×Zp
  | r=>(.exit 0,[(.ptr 0 0)],[(.cells [(.d (D.list true (List.map D.bool r.1))),(.d (D.list true (List.map Zb r.2)))])])
theorem ZmF {t0:Bool}{t1:Bool}{t2:Bool}{t3:Bool}{t4:Bool}{a:Zj}{b:(List Int)}{x1:(ZjX×Int)}{x2:(List Int)}:∀(s3:Int×(List Bool)×(List Int)) (r:((List Bool)×(List Int))),lp (Zek a b x1 x2) s3=some r→lpW ctx 0 [1,2,6,8,27,28,29] [6] Zw7 [(.d (D.list t4 (List.map Zb b))),(.ptr 0 0),(.ptr 1 0),(.ptr 2 0),(.d (D.list true (List.map Zb x2))),(.d (Zb (x2.length:Int))),(.d (Zb s3.1))] [(.cells (dV t0 t1 t2 t3 a)),(.cells [(.d (D.list true (List.map D.bool s3.2.1))),(.d (D.list true (List.map Zb s3.2.2)))]),(.cells [(.d (D.list true (List.map Zb x1.1.dag.work))),(.d (D.list true (List.map ZC x1.1.dag.edges))),(.d (D.list true (List.map Zbg x1.1.pieces)))])]=some ((ZjK t0 t1 t2 t3 t4 a b x1 x2) r):=by
 refine ZaT (ZjK t0 t1 t2 t3 t4 a b x1 x2) ?_
 intro s3 rcl ih
 show ZN _ _ (lpW _ _ _ _ _ _ _)
 unfold Zek
 rw[ZaV]
 conv=>arg 3;whnf
 refine Ze rfl ?_ ?_<;>conv=>arg 3;whnf
 ·refine Zl rfl rfl fun x4 hx4=>?_;conv=>arg 3;whnf
  refine Zo _ ZgD rfl fun x5 hx5=>?_;conv=>arg 3;whnf
  exact Zf (ih _)
 ·exact Zd rfl
theorem Zpt {t0:Bool}{t1:Bool}{t2:Bool}{t3:Bool}{t4:Bool}{a:Zj}{b:(List Int)}:∀r,(ZfU a b)=some r→evD ctx 19 [(.d (D.agg (dA t0 t1 t2 t3 a))),(.d (D.list t4 (List.map Zb b)))]=some (ZlM r):=by
 show ZN _ (fun r rhs=>rhs=some (ZlM r)) _
 unfold ZfU
 rw[ZaU ctx 19 Zzc _ rfl rfl]
 conv=>arg 3;whnf
 refine Zo _ Zk2 rfl fun x0 hx0=>?_;conv=>arg 3;whnf
 refine Ze rfl ?_ ?_<;>conv=>arg 3;whnf
 ·exact Zd rfl
 ·refine Zo _ Zft rfl fun x1 hx1=>?_;conv=>arg 3;whnf
  refine Zo _ ZnX rfl fun x2 hx2=>?_;conv=>arg 3;whnf
  refine Zn (ZH _ _) ?_;conv=>arg 3;whnf
  refine Zc _ (ZmF _) fun r6 hr6=>?_;conv=>arg 3;whnf
  exact Zd rfl
def Zkw (r:Bool):D:=(D.bool r)
def Zh6 (t0:Bool) (t1:Bool) (a:(List Int)) (b:(List Int)):(Unit⊕Unit)→Ex×List V×Zp
  | (.inl r)=>(.ret,[(.d (D.bool false))],[])
  | (.inr r)=>(.exit 0,[.bad],[])
theorem ZlF {t0:Bool}{t1:Bool}{a:(List Int)}{b:(List Int)}:∀(s0:Int) (r:(Unit⊕Unit)),lp (Zd3 a b) s0=some r→lpW ctx 0 [0,1,5] [4] Zw5 [(.d (D.list t0 (List.map Zb a))),(.d (D.list t1 (List.map Zb b))),(.d (Zb s0))] []=some ((Zh6 t0 t1 a b) r):=by
 refine ZaT (Zh6 t0 t1 a b) ?_
 intro s0 rcl ih
 show ZN _ _ (lpW _ _ _ _ _ _ _)
 unfold Zd3
 rw[ZaV]
 conv=>arg 3;whnf
 refine Zn (ZH _ _) ?_;conv=>arg 3;whnf
 refine Ze rfl ?_ ?_<;>conv=>arg 3;whnf
 ·refine Zl rfl rfl fun x1 hx1=>?_;conv=>arg 3;whnf
  refine Zl rfl rfl fun x2 hx2=>?_;conv=>arg 3;whnf
  refine Ze rfl ?_ ?_<;>conv=>arg 3;whnf
  ·exact Zd rfl
  ·exact Zf (ih _)
 ·exact Zd rfl
theorem Znt {t0:Bool}{t1:Bool}{a:(List Int)}{b:(List Int)}:∀r,(Zf7 a b)=some r→evD ctx 20 [(.d (D.list t0 (List.map Zb a))),(.d (D.list t1 (List.map Zb b)))]=some (Zkw r):=by
 show ZN _ (fun r rhs=>rhs=some (Zkw r)) _
 unfold Zf7
 rw[ZaU ctx 20 ZzD _ rfl rfl]
 conv=>arg 3;whnf
 refine Zn (ZH _ _) ?_;conv=>arg 3;whnf
 refine Zn (ZH _ _) ?_;conv=>arg 3;whnf
 refine Ze rfl ?_ ?_<;>conv=>arg 3;whnf
 ·exact Zd rfl
 ·refine Zc _ (ZlF _) fun r3 hr3=>?_
  clear hr3
  rcases r3 with r3 | r3
  ·conv=>arg 3;whnf
   exact Zd rfl
  ·conv=>arg 3;whnf
   exact Zd rfl
def Zg9 (r:Bool):D:=(D.bool r)
def Zgh (t0:Bool) (t1:Bool) (t2:Bool) (t3:Bool) (t4:Bool) (t5:Bool) (a:Zj) (b:(List Int)) (c:(List Int)):(((List Bool)×(List Int))⊕((List Bool)×(List Int)))→Ex×List V×Zp
  | (.inl r)=>(.exit 0,[(.d (D.list t4 (List.map Zb b))),(.ptr 0 0),.bad,(.ptr 1 0)],[(.cells (dV t0 t1 t2 t3 a)),(.cells [(.d (D.list true (List.map D.bool r.1))),(.d (D.list true (List.map Zb r.2)))])])
  | (.inr r)=>(.ret,[(.d (D.list t4 (List.map Zb b))),(.ptr 0 0),(.d (D.bool false)),(.ptr 1 0)],[(.cells (dV t0 t1 t2 t3 a)),(.cells [(.d (D.list true (List.map D.bool r.1))),(.d (D.list true (List.map Zb r.2)))])])
theorem Zi6 {t0:Bool}{t1:Bool}{t2:Bool}{t3:Bool}{t4:Bool}{t5:Bool}{a:Zj}{b:(List Int)}{c:(List Int)}:∀(s5:Int×(List Bool)×(List Int)) (r:(((List Bool)×(List Int))⊕((List Bool)×(List Int)))),lp (ZaN a b c) s5=some r→lpW ctx 0 [1,2,3,7,9] [1,3,6,7] Zy4 [(.d (D.list t4 (List.map Zb b))),(.d (D.list t5 (List.map Zb c))),(.ptr 0 0),(.ptr 1 0),(.d (Zb s5.1))] [(.cells (dV t0 t1 t2 t3 a)),(.cells [(.d (D.list true (List.map D.bool s5.2.1))),(.d (D.list true (List.map Zb s5.2.2)))])]=some ((Zgh t0 t1 t2 t3 t4 t5 a b c) r):=by
 refine ZaT (Zgh t0 t1 t2 t3 t4 t5 a b c) ?_
 intro s5 rcl ih
 show ZN _ _ (lpW _ _ _ _ _ _ _)
 unfold ZaN
 rw[ZaV]
 conv=>arg 3;whnf
 refine Ze rfl ?_ ?_<;>conv=>arg 3;whnf
 ·refine Zc _ Zew fun x6 hx6=>?_;conv=>arg 3;whnf
  refine Zc _ Zf8 fun x7 hx7=>?_;conv=>arg 3;whnf
  refine Zo _ ZnB rfl fun x8 hx8=>?_;conv=>arg 3;whnf
  refine Zn (ZH _ _) ?_;conv=>arg 3;whnf
  refine Ze rfl ?_ ?_<;>conv=>arg 3;whnf
  ·exact Zd rfl
  ·refine Zn (ZH _ _) ?_;conv=>arg 3;whnf
   refine Ze rfl ?_ ?_<;>conv=>arg 3;whnf
   ·refine Zl rfl rfl fun x9 hx9=>?_;conv=>arg 3;whnf
    refine Ze rfl ?_ ?_<;>conv=>arg 3;whnf
    ·refine Zg (ZbO rfl hx9) ?_;conv=>arg 3;whnf
     refine Zn (ZH _ _) ?_;conv=>arg 3;whnf
     refine Ze rfl ?_ ?_
     ·exact Z1
     ·conv=>arg 3;whnf
      refine Zc _ Zew fun x10 hx10=>?_;conv=>arg 3;whnf
      refine Zbe (ZeE (f:=Zb) (fun _=>⟨rfl,rfl⟩) b 0) ?_;conv=>arg 3;whnf
      refine Ze (ZeC Zb b) ?_ ?_
      ·conv=>arg 3;whnf
       refine Zn (rfl:_=List.map Zb b) ?_;conv=>arg 3;whnf
       refine Zc _ Zf8 fun x11 hx11=>?_;conv=>arg 3;whnf
       refine Zl rfl rfl fun x12 hx12=>?_;conv=>arg 3;whnf
       refine Zo _ ZgE rfl fun x13 hx13=>?_;conv=>arg 3;whnf
       refine Ze rfl ?_ ?_<;>conv=>arg 3;whnf
       ·exact Zd rfl
       ·exact Zf (ih _)
      ·exact Z1
    ·refine Zc _ Zew fun x14 hx14=>?_;conv=>arg 3;whnf
     refine Zbe (ZeE (f:=Zb) (fun _=>⟨rfl,rfl⟩) b 0) ?_;conv=>arg 3;whnf
     refine Ze (ZeC Zb b) ?_ ?_
     ·conv=>arg 3;whnf
      refine Zn (rfl:_=List.map Zb b) ?_;conv=>arg 3;whnf
      refine Zc _ Zf8 fun x15 hx15=>?_;conv=>arg 3;whnf
      refine Zl rfl rfl fun x16 hx16=>?_;conv=>arg 3;whnf
      refine Zo _ ZgE rfl fun x17 hx17=>?_;conv=>arg 3;whnf
      refine Ze rfl ?_ ?_<;>conv=>arg 3;whnf
      ·exact Zd rfl
      ·exact Zf (ih _)
     ·exact Z1
   ·refine Zc _ Zew fun x18 hx18=>?_;conv=>arg 3;whnf
    refine Zbe (ZeE (f:=Zb) (fun _=>⟨rfl,rfl⟩) b 0) ?_;conv=>arg 3;whnf
    refine Ze (ZeC Zb b) ?_ ?_
    ·conv=>arg 3;whnf
     refine Zn (rfl:_=List.map Zb b) ?_;conv=>arg 3;whnf
     refine Zc _ Zf8 fun x19 hx19=>?_;conv=>arg 3;whnf
     refine Zl rfl rfl fun x20 hx20=>?_;conv=>arg 3;whnf
     refine Zo _ ZgE rfl fun x21 hx21=>?_;conv=>arg 3;whnf
     refine Ze rfl ?_ ?_<;>conv=>arg 3;whnf
     ·exact Zd rfl
     ·exact Zf (ih _)
    ·exact Z1
 ·exact Zd rfl
def Zf3 (t0:Bool) (t1:Bool) (t2:Bool) (t3:Bool) (t4:Bool) (a:Zj) (b:(List Int)) (r22:((List Bool)×(List Int))):(Unit⊕Unit)→Ex×List V×Zp
  | (.inl r)=>(.ret,[(.d (D.list t4 (List.map Zb b))),(.ptr 0 0),(.d (D.bool false)),(.ptr 1 0)],[(.cells (dV t0 t1 t2 t3 a)),(.cells [(.d (D.list true (List.map D.bool r22.1))),(.d (D.list true (List.map Zb r22.2)))])])
  | (.inr r)=>(.exit 2,[(.d (D.list t4 (List.map Zb b))),(.ptr 0 0),.bad,(.ptr 1 0)],[(.cells (dV t0 t1 t2 t3 a)),(.cells [(.d (D.list true (List.map D.bool r22.1))),(.d (D.list true (List.map Zb r22.2)))])])
theorem ZiV {t0:Bool}{t1:Bool}{t2:Bool}{t3:Bool}{t4:Bool}{a:Zj}{b:(List Int)}{r22:((List Bool)×(List Int))}:∀(s23:Int) (r:(Unit⊕Unit)),lp (Zcq r22) s23=some r→lpW ctx 0 [1,3,7,14] [1,3,6,7] Zy7 [(.d (D.list t4 (List.map Zb b))),(.ptr 0 0),(.ptr 1 0),(.d (Zb s23))] [(.cells (dV t0 t1 t2 t3 a)),(.cells [(.d (D.list true (List.map D.bool r22.1))),(.d (D.list true (List.map Zb r22.2)))])]=some ((Zf3 t0 t1 t2 t3 t4 a b r22) r):=by
 refine ZaT (Zf3 t0 t1 t2 t3 t4 a b r22) ?_
 intro s23 rcl ih
 show ZN _ _ (lpW _ _ _ _ _ _ _)
 unfold Zcq
 rw[ZaV]
 conv=>arg 3;whnf
 refine Zn (ZH _ _) ?_;conv=>arg 3;whnf
 refine Ze rfl ?_ ?_<;>conv=>arg 3;whnf
 ·refine Zl rfl rfl fun x24 hx24=>?_;conv=>arg 3;whnf
  refine Ze rfl ?_ ?_<;>conv=>arg 3;whnf
  ·exact Zf (ih _)
  ·exact Zd rfl
 ·exact Zd rfl
theorem Zj0 {t0:Bool}{t1:Bool}{t2:Bool}{t3:Bool}{t4:Bool}{t5:Bool}{a:Zj}{b:(List Int)}{c:(List Int)}:∀r,(Ze5 a b c)=some r→evD ctx 3 [(.d (D.agg (dA t0 t1 t2 t3 a))),(.d (D.list t4 (List.map Zb b))),(.d (D.list t5 (List.map Zb c)))]=some (Zg9 r):=by
 show ZN _ (fun r rhs=>rhs=some (Zg9 r)) _
 unfold Ze5
 rw[ZaU ctx 3 fn3 _ rfl rfl]
 conv=>arg 3;whnf
 refine Zo _ Zfs rfl fun x0 hx0=>?_;conv=>arg 3;whnf
 refine Ze rfl ?_ ?_<;>conv=>arg 3;whnf
 ·refine Zo _ ZoW rfl fun x1 hx1=>?_;conv=>arg 3;whnf
  refine Ze rfl ?_ ?_<;>conv=>arg 3;whnf
  ·refine Zn (ZH _ _) ?_;conv=>arg 3;whnf
   refine Ze rfl ?_ ?_<;>conv=>arg 3;whnf
   ·refine Zo _ Zfs rfl fun x2 hx2=>?_;conv=>arg 3;whnf
    refine Ze rfl ?_ ?_<;>conv=>arg 3;whnf
    ·exact Zd rfl
    ·exact Zd rfl
   ·refine Zc _ Zew fun x3 hx3=>?_;conv=>arg 3;whnf
    refine Zo _ Zk2 rfl fun x4 hx4=>?_;conv=>arg 3;whnf
    refine Ze rfl ?_ ?_<;>conv=>arg 3;whnf
    ·exact Zd rfl
    ·refine Zc _ (Zi6 _) fun r22 hr22=>?_
     clear hr22
     rcases r22 with r22 | r22
     ·conv=>arg 3;whnf
      refine Zc _ (ZiV _) fun r25 hr25=>?_
      clear hr25
      rcases r25 with r25 | r25
      ·conv=>arg 3;whnf
       exact Zd rfl
      ·conv=>arg 3;whnf
       refine Zc _ Zew fun x26 hx26=>?_;conv=>arg 3;whnf
       refine Zbe (ZeE (f:=Zb) (fun _=>⟨rfl,rfl⟩) b 0) ?_;conv=>arg 3;whnf
       refine Ze (ZeC Zb b) ?_ ?_
       ·conv=>arg 3;whnf
        refine Zn (rfl:_=List.map Zb b) ?_;conv=>arg 3;whnf
        refine Zo _ Zpt rfl fun x27 hx27=>?_;conv=>arg 3;whnf
        refine Ze rfl ?_ ?_<;>conv=>arg 3;whnf
        ·refine Zo _ Znt rfl fun x28 hx28=>?_;conv=>arg 3;whnf
         refine Ze rfl ?_ ?_<;>conv=>arg 3;whnf
         ·exact Zd rfl
         ·exact Zd rfl
        ·exact Zd rfl
       ·exact Z1
     ·conv=>arg 3;whnf
      exact Zd rfl
  ·refine Zo _ Zfs rfl fun x29 hx29=>?_;conv=>arg 3;whnf
   refine Ze rfl ?_ ?_<;>conv=>arg 3;whnf
   ·exact Zd rfl
   ·exact Zd rfl
 ·refine Zo _ Zfs rfl fun x30 hx30=>?_;conv=>arg 3;whnf
  refine Ze rfl ?_ ?_<;>conv=>arg 3;whnf
  ·exact Zd rfl
  ·exact Zd rfl
end Go.Proofs.YtnmbdjkbaihicaaDoor
namespace Go.Proofs.YtnmbdjkbaihicaaDoor
open Go Go.Proofs.YtnmbdjkbaihicaaDoorE
abbrev ZrP:List Lf×Bool:=([.int .i64,.int .i64,.sl true [.int .i64,.int .i64,.int .i64],.sl true [.int .i64,.int .i64],.sl true [.int .i64,.int .i64,.int .i64],.sl true [.sl false [.int .i64],.sl false [.int .i64]]],true)
abbrev ZkU:List Lf×Bool:=([.sl false [.int .i64]],false)
end Go.Proofs.YtnmbdjkbaihicaaDoor
namespace Go.Proofs.YtnmbdjkbaihicaaDoor
open Go Go.Proofs.YtnmbdjkbaihicaaDoorE
set_option linter.unusedVariables false
set_option linter.unusedSimpArgs false
theorem Zuy (a b:List Int) (ha:a.length<9223372036854775808):Zf7 a b=some (decide (a=b)):=by
 have ne:(((a.length:Int)) != (b.length:Int)) = !decide (a.length=b.length):=by
  by_cases h:a.length=b.length
  ·rw[decide_eq_true h,h];simp
  ·rw[decide_eq_false h,bne,beq_false_of_ne (show((a.length:Int))≠(b.length:Int) by omega)]
 unfold Zf7
 rw[ne]
 by_cases hl:a.length=b.length
 ·rw[decide_eq_true hl,ZxJ a b hl (Zd3 a b) (fun i x y hi hx hy=>by
   have e:(x != y) = !decide (x=y):=by
    by_cases h:x=y
    ·subst h;simp
    ·rw[decide_eq_false h];simpa using h
   simp only[Zd3,Zet hi,Zav hx,Zav hy,Option.bind_some,ZZ hi ha,cond_true,e]
   cases decide (x=y)<;>rfl) (by simp only[Zd3,Ze8];rfl)]
  cases decide (a=b)<;>rfl
 ·rw[decide_eq_false hl,decide_eq_false (fun e=>hl (by rw[e]))]
  rfl
theorem Zy9 {m:Zy} (h1:m.done.length≤1000) (h2:m.vals.length≤1000):Zea m=some ():=by
 unfold Zea
 rw[Zfx (by omega),Zfx (by omega)]
 rfl
theorem Zom {d:Zj} (hs:Zga d) (hl:Zgm d) {input:List Int}{m:Zy} (v:Zlv d input m) {z:Int} (hz:z∈ZeO d m):goM d input m z=(ZhP d input m z,0)∧Zlv d input (ZhP d input m z)∧cnt (ZhP d input m z).done=cnt m.done+1:=by
 unfold ZeO at hz
 obtain⟨i,hi,hr,rfl⟩:=ZsA.1 hz
 obtain⟨r1,r2⟩:=ZkJ.1 hr
 have on:=v.o.n
 refine⟨?_,Zsu hs hl v hi hr,?_⟩
 ·unfold goM
  have hw:(Zad d).dag.edges.any (Ziv m.done (i:Int))=false:=List.any_eq_false.2 fun e he hc=>by
   unfold Ziv at hc
   simp only[Bool.and_eq_true,beq_iff_eq,Bool.not_eq_true'] at hc
   rw[r2 e he hc.1] at hc
   cases hc.2
  rw[@decide_eq_true _ (Classical.propDecidable _) hl,Zp3 v.o v.right,decide_eq_false (show ¬(i:Int)<0 by omega),decide_eq_false (show ¬(m.done.length:Int)≤(i:Int) by rw[on];omega),r1,hw]
  rfl
 ·rw[ZmK,Int.toNat_natCast]
  exact(Zyh (by rw[on];exact hi)).2 r1
theorem Ztl {d:Zj} (hz:ZhF d) (hl:Zgm d) (b c:List Int) (hb:b.length≤60):∀(f k:Nat) (m:Zy),k+f=70→Zlv d b m→cnt m.done=k →
  ∃m',lp (ZaN d b c) ((k:Int),m.done,m.vals)=some (.inl (m'.done,m'.vals))∧Zlv d b m'∧Ztu d m':=by
 have hs:=hz.short
 have g:=ZgS hl.1
 have hn64:Zdv d≤64:=(Zey hl.2).1.wl
 have hpl:=g.pl
 intro f
 induction f with
 | zero=>
  intro k m hk v hc
  exfalso
  have:cnt m.done≤m.done.length:=List.countP_le_length
  rw[v.o.n] at this
  omega
 | succ f ih=>
  intro k m hk v hc
  have on:=v.o.n
  have ov:=v.o.v
  have hown:Zea (Zy.mk m.done m.vals)=some ():=Zy9 (m:=m) (by rw[on];omega) (by rw[ov];omega)
  have hready:Zfr d m=some (ZeO d m):=by rw[ZuD hz,if_pos ⟨hl,Zp3 v.o v.right⟩]
  rw[Za1]
  by_cases he:ZeO d m=[]
  ·refine⟨m,?_,v,Classical.byContradiction fun hn=>?_⟩
   ·simp only[ZaN,decide_eq_true (show(k:Int)<70 by omega),cond_true,Zsz d hz,Option.bind_some,hown,show Zj.mk d.period d.deadline d.parts d.edges d.futures d.barriers=d from rfl,show Zy.mk (Zy.mk m.done m.vals).done (Zy.mk m.done m.vals).vals=m from rfl,hready,he]
    rfl
   ·obtain⟨i,hi,hr⟩:=Ztg hl v.o hn
    have:(i:Int)∈ZeO d m:=ZsA.2 ⟨i,hi,hr,rfl⟩
    rw[he] at this
    cases this
  ·have hpos:0<(ZeO d m).length:=List.length_pos_iff.2 he
   have hlen:(((ZeO d m).length:Int)==0)=false:=beq_false_of_ne (by omega)
   have go:∀z,z∈ZeO d m→∃m',lp (ZaN d b c) (((k+1:Nat):Int),(ZhP d b m z).done,(ZhP d b m z).vals)=some (.inl (m'.done,m'.vals))∧Zlv d b m'∧Ztu d m':=fun z hz2=>by
    obtain⟨_,s2,s3⟩:=Zom hs hl v hz2
    exact ih (k+1) _ (by omega) s2 (by rw[s3,hc])
   have fin:∀z,z∈ZeO d m→Zds d b m z=some (ZhP d b m z,0):=fun z hz2=>by rw[Zts hz b (by omega),(Zom hs hl v hz2).1]
   have first:ZE (ZeO d m) 0=some (ZeO d m)[0]:=Zav (i:=0) (List.getElem?_eq_getElem hpos)
   have m0:(ZeO d m)[0]∈ZeO d m:=List.getElem_mem hpos
   have wk:w64 ((k:Int)+1)=((k+1:Nat):Int):=by rw[ZcD (by omega) (by omega)];omega
   by_cases h1:(k:Int)<(c.length:Int)
   ·have hx:c[k]? = some c[k]:=List.getElem?_eq_getElem (by omega)
    by_cases h2:0≤c[k]
    ·have t0:=Int.tmod_nonneg ((ZeO d m).length:Int) h2
     have t1:=Int.tmod_lt_of_pos c[k] (show(0:Int)<((ZeO d m).length:Int) by omega)
     have hin:(Int.tmod c[k] ((ZeO d m).length:Int)).toNat<(ZeO d m).length:=by omega
     have gx:=Zrk t0 hin
     have mz:=List.getElem_mem hin
     simp only[ZaN,decide_eq_true (show(k:Int)<70 by omega),cond_true,Zsz d hz,Option.bind_some,hown,show Zj.mk d.period d.deadline d.parts d.edges d.futures d.barriers=d from rfl,show Zy.mk (Zy.mk m.done m.vals).done (Zy.mk m.done m.vals).vals=m from rfl,hready,hlen,cond_false,decide_eq_true h1,Zav hx,decide_eq_true h2,Zfx (show b.length≤1073741824 by omega),gx,fin _ mz,bne_self_eq_false,wk]
     exact go _ mz
    ·simp only[ZaN,decide_eq_true (show(k:Int)<70 by omega),cond_true,Zsz d hz,Option.bind_some,hown,show Zj.mk d.period d.deadline d.parts d.edges d.futures d.barriers=d from rfl,show Zy.mk (Zy.mk m.done m.vals).done (Zy.mk m.done m.vals).vals=m from rfl,hready,hlen,cond_false,decide_eq_true h1,Zav hx,decide_eq_false h2,Zfx (show b.length≤1073741824 by omega),first,fin _ m0,bne_self_eq_false,wk]
     exact go _ m0
   ·simp only[ZaN,decide_eq_true (show(k:Int)<70 by omega),cond_true,Zsz d hz,Option.bind_some,hown,show Zj.mk d.period d.deadline d.parts d.edges d.futures d.barriers=d from rfl,show Zy.mk (Zy.mk m.done m.vals).done (Zy.mk m.done m.vals).vals=m from rfl,hready,hlen,cond_false,decide_eq_false h1,Zfx (show b.length≤1073741824 by omega),first,fin _ m0,bne_self_eq_false,wk]
    exact go _ m0
theorem Zps (d:Zj) (b c:List Int):Ze5 d b c=some true:=by
 have aw:ZeX=some true:=rfl
 have hfew:ZgX d b (Zy.mk [] [])=some (few d&&decide ((b.length:Int)≤60)):=by
  unfold ZgX
  rw[ZAv,Option.bind_some]
  cases few d<;>cases decide ((b.length:Int)≤60)<;>rfl
 unfold Ze5
 simp only[aw,cond_true,hfew,Option.bind_some]
 cases hf:few d with
 | false=>rfl
 | true=>
  by_cases hb:(b.length:Int)≤60
  case neg=>rw[decide_eq_false hb];rfl
  rw[decide_eq_true hb]
  by_cases h70:(70:Int)<(c.length:Int)
  ·rw[decide_eq_true h70];rfl
  have hz:=ZuC hf
  have hs:=hz.short
  rw[decide_eq_false h70]
  simp only[Bool.and_self,cond_true,cond_false,Zsz d hz,Option.bind_some,show Zj.mk d.period d.deadline d.parts d.edges d.futures d.barriers=d from rfl,Zqw hz]
  by_cases hl:Zgm d
  ·have hn64:Zdv d≤64:=(Zey hl.2).1.wl
   obtain⟨m',l1,v,al⟩:=Ztl hz hl b c (by omega) 70 0 (Zlt d) (by omega) (Zuw d b) (by
    unfold cnt Zlt
    rw[List.countP_eq_zero]
    intro x hx
    rw[(List.mem_replicate.1 hx).2]
    simp)
   have l1':lp (ZaN d b c) (0,List.replicate (Zdv d) false,List.replicate d.parts.length 0)=some (.inl (m'.done,m'.vals)):=l1
   have l2:=ZgG m'.done (Zcq (m'.done,m'.vals)) (fun _ x=>!x) (fun _ _=>.inl ()) (.inr ()) (fun i x hi hx=>by
    simp only[Zcq,Zet hi,cond_true,Zav hx,Option.bind_some,ZZ hi (show m'.done.length<9223372036854775808 by rw[v.o.n];omega)]
    cases x<;>rfl) (by simp only[Zcq,Ze8];rfl)
   have any0:m'.done.any (fun x=>!x)=false:=List.any_eq_false.2 fun x hx=>by
    obtain⟨i,hi⟩:=List.getElem?_of_mem hx
    have:=al i (by rw[← v.o.n];exact(List.getElem?_eq_some_iff.1 hi).1)
    unfold bAt at this
    rw[Int.toNat_natCast,hi] at this
    simp only at this
    rw[this];simp
   rw[ZeN,ZjW,any0] at l2
   obtain⟨l,T,hrun⟩:=(Zyy hz b (by omega)).2 hl
   obtain⟨v2,al2⟩:=ZxR hs hl b T
   have same:=ZuE hs hl v v2 al al2
   rw[if_pos hl]
   have hv:=v.o.v
   have hp:=(ZgS hl.1).pl
   simp only[bne_self_eq_false,cond_false,l1',Option.bind_some,l2,Zfx (show b.length≤1073741824 by omega),cond_true,hrun,beq_self_eq_true,Zuy m'.vals _ (show m'.vals.length<9223372036854775808 by rw[hv];omega),decide_eq_true same]
  ·have hne:=(Zmu hl).2
   rw[if_neg hl]
   simp only
   rw[bne,beq_false_of_ne hne]
   rfl
theorem ZqU (xs:List D) (h:Zgn ZrP.1 xs) (ys:List D) (k:Zgn ZkU.1 ys) (zs:List D) (n:Zgn ZkU.1 zs) :
  ∃H',evW ctx 3 (ZcL [ZoM ZrP.2 xs,ZoM ZkU.2 ys,ZoM ZkU.2 zs]) []=some (.d (.bool true),H'):=by
 obtain⟨d,hd,_⟩:=ZxD h
 obtain⟨b,hb,_⟩:=Zt6 k
 obtain⟨c,hc,_⟩:=Zt6 n
 show ∃H',evW ctx 3 [.d (D.agg xs),.d (ZoM false ys),.d (ZoM false zs)] []=_
 rw[hd,hb,hc]
 exact Zxv (Zj0 true (Zps d b c))
end Go.Proofs.YtnmbdjkbaihicaaDoor
namespace Go.Proofs.YtnmbdjkbaihicaaDoor.LawEvalOrder
open Go.ChangeShapes Go.WideShapes Go.ChangeAt Go.RowKit Go.Proofs.YtnmbdjkbaihicaaDoorE
set_option linter.unusedVariables false
theorem own:ownKnob Tryd.prog.godebug=none:=by kernel_rfl
theorem Zq2:laidOutB Tryd.prog=true:=by kernel_rfl
def Zpm : List (String × DataW Unit) := [("math/bits.deBruijn32tab", Rows.laid_math_bits_deBruijn32tab), ("math/bits.deBruijn64tab", Rows.laid_math_bits_deBruijn64tab)]
theorem Zxc (os:Os) (args:Array Value):laidMetH Tryd.prog Zpm ((World.doorLaid Tryd.prog 19 os).forCall (fun _ _=>0) ⟨#[],args,[]⟩).memory:=
 laidMetH_of_parts3 (fuel:=8) (laidMet_of_run' 8 (by kernel_rfl) (by kernel_rfl)) (by kernel_rfl) (by kernel_rfl)
theorem ZvW {W:World} (h:laidMetH Tryd.prog Zpm W):GOK Zx R0 W:=by
 intro g l hg
 unfold Zx at hg
 split at hg
 ·cases hg
  exact ZoV (t := 148) (N := 32) (e := 5) (k := .u8) h (by kernel_rfl) (n := "math/bits.deBruijn32tab") (by rw [show DataW.agg (Zlw ZyY) = Rows.laid_math_bits_deBruijn32tab by kernel_rfl]; simp [Zpm]) (by kernel_rfl) (by kernel_rfl) (by kernel_rfl) (by kernel_rfl) (by kernel_rfl) (by kernel_rfl) (by decide)
 ·cases hg
  exact ZoV (t := 149) (N := 64) (e := 5) (k := .u8) h (by kernel_rfl) (n := "math/bits.deBruijn64tab") (by rw [show DataW.agg (Zlw ZyQ) = Rows.laid_math_bits_deBruijn64tab by kernel_rfl]; simp [Zpm]) (by kernel_rfl) (by kernel_rfl) (by kernel_rfl) (by kernel_rfl) (by kernel_rfl) (by kernel_rfl) (by decide)
 ·cases hg
theorem ZzS (os:Os) (started:os.Started) (H:Type) (enc:TypeId×Value→H) :
  ReturnsInHanded {} Tryd.checked os 3 .any (fun w args=>(Rows.evalOrderSpec.pre enc Tryd.prog Tryd.f3 [] false w args∧laidMetH Tryd.prog Zpm w)∧sizedMet enc Tryd.prog Tryd.f3 (OpenSpec.ofChange Rows.evalOrderSpec) false w args) (Rows.evalOrderSpec.post enc Tryd.prog Tryd.f3 false true false false):=by
 refine returnsInHanded_of_change_and (C:=Tryd.checked) (X:=fun w _=>laidMetH Tryd.prog Zpm w) (fun _ _ _ hh h=>h.of_heap hh) own started (by kernel_rfl) Tryd.func3
  (ChangeSpec.witness_shaped (enc:=enc) (C:=Tryd.checked) (os:=os) (X:=fun w _=>laidMetH Tryd.prog Zpm w) false (World.doorLaid Tryd.prog 19 os) #[.agg #[.int .i64 0,.int .i64 0,.slice none 0 0,.slice none 0 0,.slice none 0 0,.slice none 0 0],.slice none 0 0,.slice none 0 0] 8 rfl (World.shaped_of_RefB (by kernel_rfl) (by kernel_rfl)) (by kernel_rfl) (by kernel_rfl) (by kernel_rfl) (Zxc os _)) ?_
 intro W base args ds gs before hval0 hW _ _ hL _
 have hval:∀(j:Nat) t v,Tryd.f3.params[j]? = some t→args[j]? = some v→Value.okWide Tryd.prog W .any base t v:=hval0
 have hW':=hW
 obtain⟨p,q,hA0,hV,rfl,hfz,hnd⟩:=hW
 have hA:DataW.TrodAll enc Tryd.prog W 0 (fun _=>true) true Tryd.f3.params.toList args.toList ds p:=hA0
 rw[Tryd.params3] at hA hval
 obtain⟨v0,vs0,d0,ds0,p0,q0,hargs,rfl,rfl,h0,r0⟩:=trodAll_cons hA
 obtain⟨v1,vs1,d1,ds1,p1,q1,rfl,rfl,rfl,h1,r1⟩:=trodAll_cons r0
 obtain⟨v2,vs2,d2,ds2,p2,q2,rfl,rfl,rfl,h2,r2⟩:=trodAll_cons r1
 obtain⟨rfl,rfl,rfl⟩:=trodAll_nil r2
 obtain rfl:args = #[v0,v1,v2]:=by cases args;simp_all
 obtain⟨rfl,rfl⟩:=trodVars_none hV
 have lt0:∀x∈p0,x.block<W.heap.size:=by obtain⟨m,hm⟩:=h0;exact DataW.trod_lt m _ _ _ hm
 obtain⟨x0,ok0,den0⟩:=ZsX (P:=Tryd.prog) (n:=8) (t:=27) (l:=ZrP.1) (ag:=ZrP.2) (by kernel_rfl) (hval 0 27 v0 rfl rfl) h0
 have lt1:∀x∈p1,x.block<W.heap.size:=by obtain⟨m,hm⟩:=h1;exact DataW.trod_lt m _ _ _ hm
 obtain⟨x1,ok1,den1⟩:=ZsX (P:=Tryd.prog) (n:=8) (t:=28) (l:=ZkU.1) (ag:=ZkU.2) (by kernel_rfl) (hval 1 28 v1 rfl rfl) h1
 have lt2:∀x∈p2,x.block<W.heap.size:=by obtain⟨m,hm⟩:=h2;exact DataW.trod_lt m _ _ _ hm
 obtain⟨x2,ok2,den2⟩:=ZsX (P:=Tryd.prog) (n:=8) (t:=28) (l:=ZkU.1) (ag:=ZkU.2) (by kernel_rfl) (hval 2 28 v2 rfl rfl) h2
 obtain⟨H1,ev⟩:=ZqU x0 ok0 x1 ok1 x2 ok2
 have den:Za2 All All All W [ZoM ZrP.2 x0,ZoM ZkU.2 x1,ZoM ZkU.2 x2] [v0,v1,v2]:=⟨_,_,rfl,den0,⟨_,_,rfl,den1,⟨_,_,rfl,den2,rfl⟩⟩⟩
 refine(Zu7 ZBm (ZvW hL) den ev).mono fun e W' ⟨he,bel⟩=>?_
 subst he
 exact⟨_,rfl,_,_,_,[],_,[],hW',trodAll_mk1 (shut_bool Tryd.underlying4 _),(trodAll_cons_mk (Below.trod Zq2 (by kernel_rfl) (of_decide_eq_true (by kernel_rfl)) h0 bel lt0) (trodAll_cons_mk (Below.trod Zq2 (by kernel_rfl) (of_decide_eq_true (by kernel_rfl)) h1 bel lt1) (trodAll_cons_mk (Below.trod Zq2 (by kernel_rfl) (of_decide_eq_true (by kernel_rfl)) h2 bel lt2) trodAll_mk0))),rfl,bel.frame _,fun h=>by cases h⟩
theorem over:Rows.evalOrderRow.holds Tryd.pinned (OpenSpec.ofChange Rows.evalOrderSpec):=
 OpenClaim.holds_of_wide 3 Tryd.f3 rfl rfl rfl rfl rfl rfl rfl ⟨rfl,rfl,rfl,rfl,rfl⟩ rfl rfl rfl rfl rfl (by kernel_rfl) Tryd.func3 (by kernel_rfl)
  (of_decide_eq_true (by kernel_rfl)) (by unfold Func.isWrapper;first | (rw[if_pos (by decide +kernel)];kernel_rfl) | (rw[if_neg (by decide +kernel)];exact⟨rfl,rfl⟩))
  (fun os started H enc _=>ZzS os started H enc)
theorem proved:Rows.EvalOrderSaid:=over
theorem carded:Rows.EvalOrderCardSaid:=
 Claim7.holds_tied_plain_at .later [] [.data, .data] true (true, "3ab9be834fa2b7d026ba399aa683e49be0919143fbbd24a24d6e9902cb90d35e") false
  proved (fun _ h=>by cases h) (by kernel_rfl) (fun _ h=>by cases h) evalOrder_row_tie rfl ⟨rfl,rfl⟩ (by kernel_rfl) rfl
  (fun f fn hf hfn=>by
   obtain rfl : f = 3 := Option.some.inj ((show Tryd.prog.funcNamed "trefoil/trefoillaw08.EvalOrder" = some 3 by kernel_rfl).symm.trans hf) |>.symm
   obtain rfl:fn=Tryd.f3:=(Option.some.inj (Tryd.func3.symm.trans hfn)).symm
   exact⟨by kernel_rfl,fun j t ht=>by
    rw[Tryd.params3] at ht
    have hm:t∈[27,28,28]:=by simpa using Array.mem_of_getElem? ht
    have hall:([27,28,28].all fun u=>!Tryd.prog.wantsStandIn u)=true:=by kernel_rfl
    exact(show Tryd.prog.wantsStandIn t=false by simpa using List.all_eq_true.1 hall t hm)⟩)
  (by kernel_rfl)
end Go.Proofs.YtnmbdjkbaihicaaDoor.LawEvalOrder
namespace Go.Proofs.YtnmbdjkbaihicaaDoor
theorem evalOrder_holds:Rows.EvalOrderCardSaid:=LawEvalOrder.carded
#print axioms evalOrder_holds
end Go.Proofs.YtnmbdjkbaihicaaDoor
