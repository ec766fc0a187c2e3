/- EvalRuns: part 7 of 7 of the proof: the row and the card of the law, out of what the evaluator says of it; without conditions. -/
import Derived.Test.YtnmbdjkbaihicaaGreatDoorZEvalRunsf
import Derived.KernelRfl
import Derived.Test.YtnmbdjkbaihicaaGreatDoorRows
import Derived.Test.YtnmbdjkbaihicaaGreatDoorCards
import Derived.Test.YtnmbdjkbaihicaaGreatDoorTie
import Derived.WalkKit
import Derived.ProofKit
import Derived.OpenShut
import Derived.ShutString
import Derived.ChangeOld
import Derived.Below
import Derived.SizedLaws
import Derived.Handed
import Derived.LaidMore
import Derived.Stop.Joined
import Derived.ChangeShapes
import Derived.Carry
import Derived.SevenTiedAt
set_option maxRecDepth 100000
set_option maxHeartbeats 40000000
namespace Go.Proofs.YtnmbdjkbaihicaaGreatDoor
open Go Go.Proofs.YtnmbdjkbaihicaaGreatDoorE
set_option linter.unusedVariables false
set_option linter.unusedSimpArgs false
def Zhu (b:Int) (c:Int) (m1_0:(List Int)) (m2_0:(List Zn)) (m3_0:(List Zh)) (m4_0:(List (Int×Int))) (m5_0:(List (Int×Int))) (m6_0:(List (Zj×Int))):Unit→V×Zp
  | r=>((.d (D.tup [])),[(.cells [(.sl 1 1),(.sl 7 2),(.sl 3 2),(.mp 4),(.mp 5),(.mp 6)]),(.arr 1 (List.map Zb m1_0)),.dead,(.arr 2 (List.map Zap m3_0)),(.mp (mpD Zb Zb m4_0)),(.mp (mpD Zb Zb m5_0)),(.mp (mpD Zr Zb m6_0)),(.arr 2 (List.map Zx (m2_0++[(Zn.mk b c)])))])
theorem ZaA {b:Int}{c:Int}{m1_0:(List Int)}{m2_0:(List Zn)}{m3_0:(List Zh)}{m4_0:(List (Int×Int))}{m5_0:(List (Int×Int))}{m6_0:(List (Zj×Int))}:∀r,(ZM b c m2_0)=some r→evW ctx 43 [(.ptr 0 0),(.d (Zb b)),(.d (Zb c))] [(.cells [(.sl 1 1),(.sl 2 2),(.sl 3 2),(.mp 4),(.mp 5),(.mp 6)]),(.arr 1 (List.map Zb m1_0)),(.arr 2 (List.map Zx m2_0)),(.arr 2 (List.map Zap m3_0)),(.mp (mpD Zb Zb m4_0)),(.mp (mpD Zb Zb m5_0)),(.mp (mpD Zr Zb m6_0))]=some ((Zhu b c m1_0 m2_0 m3_0 m4_0 m5_0 m6_0) r):=by
 show ZH _ (fun r rhs=>rhs=some ((Zhu b c m1_0 m2_0 m3_0 m4_0 m5_0 m6_0) r)) _
 unfold ZM
 rw[Zgp ctx 43 ZED _ _ rfl rfl]
 conv=>arg 3;whnf
 refine ZaU rfl ?_;conv=>arg 3;whnf
 refine Zd (Zcd Zx m2_0 1) ?_ ?_
 ·conv=>arg 3;whnf
  refine Zk (Zca Zx m2_0 [(Zn.mk b c)]) ?_;conv=>arg 3;whnf
  exact Zc rfl
 ·exact ZO
def Zhs (t0:Bool) (t1:Bool) (t2:Bool) (t3:Bool) (b:Zi) (c:Int) (m1_0:(List Int)) (m2_0:(List Zn)) (m3_0:(List Zh)) (m4_0:(List (Int×Int))) (m5_0:(List (Int×Int))) (m6_0:(List (Zj×Int))):(((List (Int×Int))×(List (Zj×Int))×(List Int)×(List Zn)×(List Zh))⊕((List Int)⊕Unit))→V×Zp
  | (.inl r)=>((.d (D.tup [])),[(.cells [(.sl 7 1),(.sl 8 2),(.sl 9 2),(.mp 4),(.mp 5),(.mp 6)]),.dead,.dead,.dead,(.mp (mpD Zb Zb (Zw (fun ka kb:Int=>(ka==kb)) m4_0 c (m3_0.length:Int)))),(.mp (mpD Zb Zb r.1)),(.mp (mpD Zr Zb r.2.1)),(.arr 1 (List.map Zb r.2.2.1)),(.arr 2 (List.map Zx r.2.2.2.1)),(.arr 2 (List.map Zap r.2.2.2.2))])
  | (.inr (.inl r))=>((.d (D.tup [])),[(.cells [(.sl 7 1),(.sl 2 2),(.sl 8 2),(.mp 4),(.mp 5),(.mp 6)]),.dead,(.arr 2 (List.map Zx m2_0)),.dead,(.mp (mpD Zb Zb (Zw (fun ka kb:Int=>(ka==kb)) m4_0 c (m3_0.length:Int)))),(.mp (mpD Zb Zb (Zw (fun ka kb:Int=>(ka==kb)) m5_0 c (w64 ((List.length (m3_0++[(Zh.mk c 0)]):Int)-1))))),(.mp (mpD Zr Zb m6_0)),(.arr 1 (List.map Zb r)),(.arr 2 (List.map Zap (m3_0++[(Zh.mk c 0)])))])
  | (.inr (.inr r))=>((.d (D.tup [])),[(.cells [(.sl 1 1),(.sl 2 2),(.sl 3 2),(.mp 4),(.mp 5),(.mp 6)]),(.arr 1 (List.map Zb m1_0)),(.arr 2 (List.map Zx m2_0)),(.arr 2 (List.map Zap m3_0)),(.mp (mpD Zb Zb (Zw (fun ka kb:Int=>(ka==kb)) m4_0 c (m3_0.length:Int)))),(.mp (mpD Zb Zb m5_0)),(.mp (mpD Zr Zb m6_0))])
def ZgL (t0:Bool) (t1:Bool) (t2:Bool) (t3:Bool) (b:Zi) (c:Int) (m3_0:(List Zh)) (m4_0:(List (Int×Int))) (x0:(List Int)):((List (Int×Int))×(List (Zj×Int))×(List Int)×(List Zn)×(List Zh))→Ex×List V×Zp
  | r=>(.exit 0,[],[(.cells [(.sl 7 1),(.sl 8 2),(.sl 9 2),(.mp 4),(.mp 5),(.mp 6)]),.dead,.dead,.dead,(.mp (mpD Zb Zb (Zw (fun ka kb:Int=>(ka==kb)) m4_0 c (m3_0.length:Int)))),(.mp (mpD Zb Zb r.1)),(.mp (mpD Zr Zb r.2.1)),(.arr 1 (List.map Zb r.2.2.1)),(.arr 2 (List.map Zx r.2.2.2.1)),(.arr 2 (List.map Zap r.2.2.2.2))])
theorem ZcQ {t0:Bool}{t1:Bool}{t2:Bool}{t3:Bool}{b:Zi}{c:Int}{m3_0:(List Zh)}{m4_0:(List (Int×Int))}{x0:(List Int)}:∀(s14:Int×Int×(List (Int×Int))×(List (Zj×Int))×(List Int)×(List Zn)×(List Zh)) (r:((List (Int×Int))×(List (Zj×Int))×(List Int)×(List Zn)×(List Zh))),lp (ZG b c x0) s14=some r→lpW ctx 7 [0,2,4,6,7,26,27] [] ZsC [(.ptr 0 0),(.d (Zb c)),(.ptr 7 0),(.d (Zb s14.1)),(.d (D.list true (List.map Zb x0))),(.d (Zb (w64 ((x0.length:Int)+1)))),(.d (Zb s14.2.1))] [(.cells [(.sl 8 1),(.sl 9 2),(.sl 10 2),(.mp 4),(.mp 5),(.mp 6)]),.dead,.dead,.dead,(.mp (mpD Zb Zb (Zw (fun ka kb:Int=>(ka==kb)) m4_0 c (m3_0.length:Int)))),(.mp (mpD Zb Zb s14.2.2.1)),(.mp (mpD Zr Zb s14.2.2.2.1)),(.cells (dV t0 t1 t2 t3 b)),(.arr 1 (List.map Zb s14.2.2.2.2.1)),(.arr 2 (List.map Zx s14.2.2.2.2.2.1)),(.arr 2 (List.map Zap s14.2.2.2.2.2.2))]=some ((ZgL t0 t1 t2 t3 b c m3_0 m4_0 x0) r):=by
 refine Z2 (ZgL t0 t1 t2 t3 b c m3_0 m4_0 x0) ?_
 intro s14 rcl ih
 show ZH _ _ (lpW _ _ _ _ _ _ _)
 unfold ZG
 rw[Z3]
 conv=>arg 3;whnf
 refine Zd rfl ?_ ?_<;>conv=>arg 3;whnf
 ·refine Zl rfl rfl fun x15 hx15=>?_;conv=>arg 3;whnf
  refine Zk (Zu _ _) ?_;conv=>arg 3;whnf
  refine Zd rfl ?_ ?_<;>conv=>arg 3;whnf
  ·refine Zl rfl rfl fun x16 hx16=>?_;conv=>arg 3;whnf
   refine Zl rfl rfl fun x17 hx17=>?_;conv=>arg 3;whnf
   refine Ze _ ZaT fun x18 hx18=>?_;conv=>arg 3;whnf
   refine Zg (ZdI (f:=Zb) (g:=Zb) (fun ka kb:Int=>(ka==kb)) (fun _ _=>rfl) s14.2.2.1 c (w64 ((List.length (s14.2.2.2.2.2.2++[(Zh.mk c s14.2.1)]):Int)-1))) ?_;conv=>arg 3;whnf
   refine Zd rfl ?_ ?_<;>conv=>arg 3;whnf
   ·refine Zg (Zbt (f:=Zb) (g:=Zb) (fun ka kb:Int=>(ka==kb)) (fun _ _=>rfl) (Zw (fun ka kb:Int=>(ka==kb)) s14.2.2.1 c (w64 ((List.length (s14.2.2.2.2.2.2++[(Zh.mk c s14.2.1)]):Int)-1))) c 0) ?_;conv=>arg 3;whnf
    refine Zg (Zbt (f:=Zb) (g:=Zb) (fun ka kb:Int=>(ka==kb)) (fun _ _=>rfl) (Zw (fun ka kb:Int=>(ka==kb)) s14.2.2.1 c (w64 ((List.length (s14.2.2.2.2.2.2++[(Zh.mk c s14.2.1)]):Int)-1))) c 0) ?_;conv=>arg 3;whnf
    refine Ze _ ZaA fun x19 hx19=>?_;conv=>arg 3;whnf
    refine Zl rfl rfl fun x20 hx20=>?_;conv=>arg 3;whnf
    refine Zl rfl rfl fun x21 hx21=>?_;conv=>arg 3;whnf
    refine Zg (Zbt (f:=Zb) (g:=Zb) (fun ka kb:Int=>(ka==kb)) (fun _ _=>rfl) (Zw (fun ka kb:Int=>(ka==kb)) s14.2.2.1 c (w64 ((List.length (s14.2.2.2.2.2.2++[(Zh.mk c s14.2.1)]):Int)-1))) c 0) ?_;conv=>arg 3;whnf
    refine Zg (ZdI (f:=Zr) (g:=Zb) (fun ka kb:Zj=>((ka.maker==kb.maker)&&((ka.user==kb.user)&&((ka.pos==kb.pos)&&true)))) (fun _ _=>rfl) s14.2.2.2.1 x21 (Z6 (fun ka kb:Int=>(ka==kb)) (Zw (fun ka kb:Int=>(ka==kb)) s14.2.2.1 c (w64 ((List.length (s14.2.2.2.2.2.2++[(Zh.mk c s14.2.1)]):Int)-1))) c 0)) ?_;conv=>arg 3;whnf
    exact Zf (ih _)
   ·exact Zf (ih _)
  ·refine Ze _ ZaT fun x22 hx22=>?_;conv=>arg 3;whnf
   refine Zg (ZdI (f:=Zb) (g:=Zb) (fun ka kb:Int=>(ka==kb)) (fun _ _=>rfl) s14.2.2.1 c (w64 ((List.length (s14.2.2.2.2.2.2++[(Zh.mk c s14.2.1)]):Int)-1))) ?_;conv=>arg 3;whnf
   refine Zd rfl ?_ ?_<;>conv=>arg 3;whnf
   ·refine Zg (Zbt (f:=Zb) (g:=Zb) (fun ka kb:Int=>(ka==kb)) (fun _ _=>rfl) (Zw (fun ka kb:Int=>(ka==kb)) s14.2.2.1 c (w64 ((List.length (s14.2.2.2.2.2.2++[(Zh.mk c s14.2.1)]):Int)-1))) c 0) ?_;conv=>arg 3;whnf
    refine Zg (Zbt (f:=Zb) (g:=Zb) (fun ka kb:Int=>(ka==kb)) (fun _ _=>rfl) (Zw (fun ka kb:Int=>(ka==kb)) s14.2.2.1 c (w64 ((List.length (s14.2.2.2.2.2.2++[(Zh.mk c s14.2.1)]):Int)-1))) c 0) ?_;conv=>arg 3;whnf
    refine Ze _ ZaA fun x23 hx23=>?_;conv=>arg 3;whnf
    refine Zl rfl rfl fun x24 hx24=>?_;conv=>arg 3;whnf
    refine Zl rfl rfl fun x25 hx25=>?_;conv=>arg 3;whnf
    refine Zg (Zbt (f:=Zb) (g:=Zb) (fun ka kb:Int=>(ka==kb)) (fun _ _=>rfl) (Zw (fun ka kb:Int=>(ka==kb)) s14.2.2.1 c (w64 ((List.length (s14.2.2.2.2.2.2++[(Zh.mk c s14.2.1)]):Int)-1))) c 0) ?_;conv=>arg 3;whnf
    refine Zg (ZdI (f:=Zr) (g:=Zb) (fun ka kb:Zj=>((ka.maker==kb.maker)&&((ka.user==kb.user)&&((ka.pos==kb.pos)&&true)))) (fun _ _=>rfl) s14.2.2.2.1 x25 (Z6 (fun ka kb:Int=>(ka==kb)) (Zw (fun ka kb:Int=>(ka==kb)) s14.2.2.1 c (w64 ((List.length (s14.2.2.2.2.2.2++[(Zh.mk c s14.2.1)]):Int)-1))) c 0)) ?_;conv=>arg 3;whnf
    exact Zf (ih _)
   ·exact Zf (ih _)
 ·exact Zc rfl
def Zf3 (t0:Bool) (t1:Bool) (t2:Bool) (t3:Bool) (b:Zi) (c:Int) (m1_0:(List Int)) (m2_0:(List Zn)) (m3_0:(List Zh)) (m4_0:(List (Int×Int))) (m5_0:(List (Int×Int))) (m6_0:(List (Zj×Int))) (x0:(List Int)) (x4:Zj):(((List (Int×Int))×(List (Zj×Int))×(List Int)×(List Zn)×(List Zh))⊕Unit)→Ex×List V×Zp
  | (.inl r)=>(.exit 0,[],[(.cells [(.sl 7 1),(.sl 8 2),(.sl 9 2),(.mp 4),(.mp 5),(.mp 6)]),.dead,.dead,.dead,(.mp (mpD Zb Zb (Zw (fun ka kb:Int=>(ka==kb)) m4_0 c (m3_0.length:Int)))),(.mp (mpD Zb Zb r.1)),(.mp (mpD Zr Zb r.2.1)),(.arr 1 (List.map Zb r.2.2.1)),(.arr 2 (List.map Zx r.2.2.2.1)),(.arr 2 (List.map Zap r.2.2.2.2))])
  | (.inr r)=>(.exit 0,[],[(.cells [(.sl 7 1),(.sl 2 2),(.sl 8 2),(.mp 4),(.mp 5),(.mp 6)]),.dead,(.arr 2 (List.map Zx m2_0)),.dead,(.mp (mpD Zb Zb (Zw (fun ka kb:Int=>(ka==kb)) m4_0 c (m3_0.length:Int)))),(.mp (mpD Zb Zb (Zw (fun ka kb:Int=>(ka==kb)) m5_0 c (w64 ((List.length (m3_0++[(Zh.mk c 0)]):Int)-1))))),(.mp (mpD Zr Zb m6_0)),(.arr 1 (List.map Zb (m1_0++[(w64 (x4.pos-0))]))),(.arr 2 (List.map Zap (m3_0++[(Zh.mk c 0)])))])
theorem Zix {t0:Bool}{t1:Bool}{t2:Bool}{t3:Bool}{b:Zi}{c:Int}{m1_0:(List Int)}{m2_0:(List Zn)}{m3_0:(List Zh)}{m4_0:(List (Int×Int))}{m5_0:(List (Int×Int))}{m6_0:(List (Zj×Int))}{x0:(List Int)}{x4:Zj}:∀(s6:Unit) (r:(((List (Int×Int))×(List (Zj×Int))×(List Int)×(List Zn)×(List Zh))⊕Unit)),lp (Zbv b c m1_0 m2_0 m3_0 m5_0 m6_0 x0 x4) s6=some r→lpW ctx 7 [0,2,4,6,7,26,27] [] ZsC [(.ptr 0 0),(.d (Zb c)),(.ptr 7 0),(.d (Zb x4.pos)),(.d (D.list true (List.map Zb x0))),(.d (Zb (w64 ((x0.length:Int)+1)))),(.d (Zb 1))] [(.cells [(.sl 8 1),(.sl 2 2),(.sl 9 2),(.mp 4),(.mp 5),(.mp 6)]),.dead,(.arr 2 (List.map Zx m2_0)),.dead,(.mp (mpD Zb Zb (Zw (fun ka kb:Int=>(ka==kb)) m4_0 c (m3_0.length:Int)))),(.mp (mpD Zb Zb (Zw (fun ka kb:Int=>(ka==kb)) m5_0 c (w64 ((List.length (m3_0++[(Zh.mk c 0)]):Int)-1))))),(.mp (mpD Zr Zb m6_0)),(.cells (dV t0 t1 t2 t3 b)),(.arr 1 (List.map Zb (m1_0++[(w64 (x4.pos-0))]))),(.arr 2 (List.map Zap (m3_0++[(Zh.mk c 0)])))]=some ((Zf3 t0 t1 t2 t3 b c m1_0 m2_0 m3_0 m4_0 m5_0 m6_0 x0 x4) r):=by
 refine Z2 (Zf3 t0 t1 t2 t3 b c m1_0 m2_0 m3_0 m4_0 m5_0 m6_0 x0 x4) ?_
 intro s6 rcl ih
 show ZH _ _ (lpW _ _ _ _ _ _ _)
 unfold Zbv
 rw[Z3]
 conv=>arg 3;whnf
 refine Zd rfl ?_ ?_<;>conv=>arg 3;whnf
 ·refine Zl rfl rfl fun x7 hx7=>?_;conv=>arg 3;whnf
  refine Zk (Zu _ _) ?_;conv=>arg 3;whnf
  refine Zd rfl ?_ ?_<;>conv=>arg 3;whnf
  ·refine Zl rfl rfl fun x8 hx8=>?_;conv=>arg 3;whnf
   refine Zl rfl rfl fun x9 hx9=>?_;conv=>arg 3;whnf
   refine Ze _ ZaT fun x10 hx10=>?_;conv=>arg 3;whnf
   refine Zg (ZdI (f:=Zb) (g:=Zb) (fun ka kb:Int=>(ka==kb)) (fun _ _=>rfl) (Zw (fun ka kb:Int=>(ka==kb)) m5_0 c (w64 ((List.length (m3_0++[(Zh.mk c 0)]):Int)-1))) c (w64 ((List.length ((m3_0++[(Zh.mk c 0)])++[(Zh.mk c 1)]):Int)-1))) ?_;conv=>arg 3;whnf
   refine ZaU rfl ?_;conv=>arg 3;whnf
   refine Zg (Zbt (f:=Zb) (g:=Zb) (fun ka kb:Int=>(ka==kb)) (fun _ _=>rfl) (Zw (fun ka kb:Int=>(ka==kb)) (Zw (fun ka kb:Int=>(ka==kb)) m5_0 c (w64 ((List.length (m3_0++[(Zh.mk c 0)]):Int)-1))) c (w64 ((List.length ((m3_0++[(Zh.mk c 0)])++[(Zh.mk c 1)]):Int)-1))) c 0) ?_;conv=>arg 3;whnf
   refine Zg (Zbt (f:=Zb) (g:=Zb) (fun ka kb:Int=>(ka==kb)) (fun _ _=>rfl) (Zw (fun ka kb:Int=>(ka==kb)) (Zw (fun ka kb:Int=>(ka==kb)) m5_0 c (w64 ((List.length (m3_0++[(Zh.mk c 0)]):Int)-1))) c (w64 ((List.length ((m3_0++[(Zh.mk c 0)])++[(Zh.mk c 1)]):Int)-1))) c 0) ?_;conv=>arg 3;whnf
   refine Ze _ ZaA fun x11 hx11=>?_;conv=>arg 3;whnf
   refine Zl rfl rfl fun x12 hx12=>?_;conv=>arg 3;whnf
   refine Zl rfl rfl fun x13 hx13=>?_;conv=>arg 3;whnf
   refine Zg (Zbt (f:=Zb) (g:=Zb) (fun ka kb:Int=>(ka==kb)) (fun _ _=>rfl) (Zw (fun ka kb:Int=>(ka==kb)) (Zw (fun ka kb:Int=>(ka==kb)) m5_0 c (w64 ((List.length (m3_0++[(Zh.mk c 0)]):Int)-1))) c (w64 ((List.length ((m3_0++[(Zh.mk c 0)])++[(Zh.mk c 1)]):Int)-1))) c 0) ?_;conv=>arg 3;whnf
   refine Zg (ZdI (f:=Zr) (g:=Zb) (fun ka kb:Zj=>((ka.maker==kb.maker)&&((ka.user==kb.user)&&((ka.pos==kb.pos)&&true)))) (fun _ _=>rfl) m6_0 x13 (Z6 (fun ka kb:Int=>(ka==kb)) (Zw (fun ka kb:Int=>(ka==kb)) (Zw (fun ka kb:Int=>(ka==kb)) m5_0 c (w64 ((List.length (m3_0++[(Zh.mk c 0)]):Int)-1))) c (w64 ((List.length ((m3_0++[(Zh.mk c 0)])++[(Zh.mk c 1)]):Int)-1))) c 0)) ?_;conv=>arg 3;whnf
   refine Ze _ (ZcQ _) fun r26 hr26=>?_;conv=>arg 3;whnf
   exact Zc rfl
  ·refine Ze _ ZaT fun x27 hx27=>?_;conv=>arg 3;whnf
   refine Zg (ZdI (f:=Zb) (g:=Zb) (fun ka kb:Int=>(ka==kb)) (fun _ _=>rfl) (Zw (fun ka kb:Int=>(ka==kb)) m5_0 c (w64 ((List.length (m3_0++[(Zh.mk c 0)]):Int)-1))) c (w64 ((List.length ((m3_0++[(Zh.mk c 0)])++[(Zh.mk c 1)]):Int)-1))) ?_;conv=>arg 3;whnf
   refine ZaU rfl ?_;conv=>arg 3;whnf
   refine Zg (Zbt (f:=Zb) (g:=Zb) (fun ka kb:Int=>(ka==kb)) (fun _ _=>rfl) (Zw (fun ka kb:Int=>(ka==kb)) (Zw (fun ka kb:Int=>(ka==kb)) m5_0 c (w64 ((List.length (m3_0++[(Zh.mk c 0)]):Int)-1))) c (w64 ((List.length ((m3_0++[(Zh.mk c 0)])++[(Zh.mk c 1)]):Int)-1))) c 0) ?_;conv=>arg 3;whnf
   refine Zg (Zbt (f:=Zb) (g:=Zb) (fun ka kb:Int=>(ka==kb)) (fun _ _=>rfl) (Zw (fun ka kb:Int=>(ka==kb)) (Zw (fun ka kb:Int=>(ka==kb)) m5_0 c (w64 ((List.length (m3_0++[(Zh.mk c 0)]):Int)-1))) c (w64 ((List.length ((m3_0++[(Zh.mk c 0)])++[(Zh.mk c 1)]):Int)-1))) c 0) ?_;conv=>arg 3;whnf
   refine Ze _ ZaA fun x28 hx28=>?_;conv=>arg 3;whnf
   refine Zl rfl rfl fun x29 hx29=>?_;conv=>arg 3;whnf
   refine Zl rfl rfl fun x30 hx30=>?_;conv=>arg 3;whnf
   refine Zg (Zbt (f:=Zb) (g:=Zb) (fun ka kb:Int=>(ka==kb)) (fun _ _=>rfl) (Zw (fun ka kb:Int=>(ka==kb)) (Zw (fun ka kb:Int=>(ka==kb)) m5_0 c (w64 ((List.length (m3_0++[(Zh.mk c 0)]):Int)-1))) c (w64 ((List.length ((m3_0++[(Zh.mk c 0)])++[(Zh.mk c 1)]):Int)-1))) c 0) ?_;conv=>arg 3;whnf
   refine Zg (ZdI (f:=Zr) (g:=Zb) (fun ka kb:Zj=>((ka.maker==kb.maker)&&((ka.user==kb.user)&&((ka.pos==kb.pos)&&true)))) (fun _ _=>rfl) m6_0 x30 (Z6 (fun ka kb:Int=>(ka==kb)) (Zw (fun ka kb:Int=>(ka==kb)) (Zw (fun ka kb:Int=>(ka==kb)) m5_0 c (w64 ((List.length (m3_0++[(Zh.mk c 0)]):Int)-1))) c (w64 ((List.length ((m3_0++[(Zh.mk c 0)])++[(Zh.mk c 1)]):Int)-1))) c 0)) ?_;conv=>arg 3;whnf
   refine Ze _ (ZcQ _) fun r43 hr43=>?_;conv=>arg 3;whnf
   exact Zc rfl
 ·exact Zc rfl
def Zf7 (t0:Bool) (t1:Bool) (t2:Bool) (t3:Bool) (b:Zi) (c:Int) (m1_0:(List Int)) (m2_0:(List Zn)) (m3_0:(List Zh)) (m4_0:(List (Int×Int))) (m5_0:(List (Int×Int))) (m6_0:(List (Zj×Int))) (x0:(List Int)) (x2:ZU):(((List (Int×Int))×(List (Zj×Int))×(List Int)×(List Zn)×(List Zh))⊕Unit)→Ex×List V×Zp
  | (.inl r)=>(.exit 0,[],[(.cells [(.sl 7 1),(.sl 8 2),(.sl 9 2),(.mp 4),(.mp 5),(.mp 6)]),.dead,.dead,.dead,(.mp (mpD Zb Zb (Zw (fun ka kb:Int=>(ka==kb)) m4_0 c (m3_0.length:Int)))),(.mp (mpD Zb Zb r.1)),(.mp (mpD Zr Zb r.2.1)),(.arr 1 (List.map Zb r.2.2.1)),(.arr 2 (List.map Zx r.2.2.2.1)),(.arr 2 (List.map Zap r.2.2.2.2))])
  | (.inr r)=>(.exit 0,[],[(.cells [(.sl 7 1),(.sl 2 2),(.sl 8 2),(.mp 4),(.mp 5),(.mp 6)]),.dead,(.arr 2 (List.map Zx m2_0)),.dead,(.mp (mpD Zb Zb (Zw (fun ka kb:Int=>(ka==kb)) m4_0 c (m3_0.length:Int)))),(.mp (mpD Zb Zb (Zw (fun ka kb:Int=>(ka==kb)) m5_0 c (w64 ((List.length (m3_0++[(Zh.mk c 0)]):Int)-1))))),(.mp (mpD Zr Zb m6_0)),(.arr 1 (List.map Zb (m1_0++[(w64 (x2.work-0))]))),(.arr 2 (List.map Zap (m3_0++[(Zh.mk c 0)])))])
theorem ZiF {t0:Bool}{t1:Bool}{t2:Bool}{t3:Bool}{b:Zi}{c:Int}{m1_0:(List Int)}{m2_0:(List Zn)}{m3_0:(List Zh)}{m4_0:(List (Int×Int))}{m5_0:(List (Int×Int))}{m6_0:(List (Zj×Int))}{x0:(List Int)}{x2:ZU}:∀(s46:Unit) (r:(((List (Int×Int))×(List (Zj×Int))×(List Int)×(List Zn)×(List Zh))⊕Unit)),lp (Zck b c m1_0 m2_0 m3_0 m5_0 m6_0 x0 x2) s46=some r→lpW ctx 7 [0,2,4,6,7,26,27] [] ZsC [(.ptr 0 0),(.d (Zb c)),(.ptr 7 0),(.d (Zb x2.work)),(.d (D.list true (List.map Zb x0))),(.d (Zb (w64 ((x0.length:Int)+1)))),(.d (Zb 1))] [(.cells [(.sl 8 1),(.sl 2 2),(.sl 9 2),(.mp 4),(.mp 5),(.mp 6)]),.dead,(.arr 2 (List.map Zx m2_0)),.dead,(.mp (mpD Zb Zb (Zw (fun ka kb:Int=>(ka==kb)) m4_0 c (m3_0.length:Int)))),(.mp (mpD Zb Zb (Zw (fun ka kb:Int=>(ka==kb)) m5_0 c (w64 ((List.length (m3_0++[(Zh.mk c 0)]):Int)-1))))),(.mp (mpD Zr Zb m6_0)),(.cells (dV t0 t1 t2 t3 b)),(.arr 1 (List.map Zb (m1_0++[(w64 (x2.work-0))]))),(.arr 2 (List.map Zap (m3_0++[(Zh.mk c 0)])))]=some ((Zf7 t0 t1 t2 t3 b c m1_0 m2_0 m3_0 m4_0 m5_0 m6_0 x0 x2) r):=by
 refine Z2 (Zf7 t0 t1 t2 t3 b c m1_0 m2_0 m3_0 m4_0 m5_0 m6_0 x0 x2) ?_
 intro s46 rcl ih
 show ZH _ _ (lpW _ _ _ _ _ _ _)
 unfold Zck
 rw[Z3]
 conv=>arg 3;whnf
 refine Zd rfl ?_ ?_<;>conv=>arg 3;whnf
 ·refine Zl rfl rfl fun x47 hx47=>?_;conv=>arg 3;whnf
  refine Zk (Zu _ _) ?_;conv=>arg 3;whnf
  refine Zd rfl ?_ ?_<;>conv=>arg 3;whnf
  ·refine Zl rfl rfl fun x48 hx48=>?_;conv=>arg 3;whnf
   refine Zl rfl rfl fun x49 hx49=>?_;conv=>arg 3;whnf
   refine Ze _ ZaT fun x50 hx50=>?_;conv=>arg 3;whnf
   refine Zg (ZdI (f:=Zb) (g:=Zb) (fun ka kb:Int=>(ka==kb)) (fun _ _=>rfl) (Zw (fun ka kb:Int=>(ka==kb)) m5_0 c (w64 ((List.length (m3_0++[(Zh.mk c 0)]):Int)-1))) c (w64 ((List.length ((m3_0++[(Zh.mk c 0)])++[(Zh.mk c 1)]):Int)-1))) ?_;conv=>arg 3;whnf
   refine ZaU rfl ?_;conv=>arg 3;whnf
   refine Zg (Zbt (f:=Zb) (g:=Zb) (fun ka kb:Int=>(ka==kb)) (fun _ _=>rfl) (Zw (fun ka kb:Int=>(ka==kb)) (Zw (fun ka kb:Int=>(ka==kb)) m5_0 c (w64 ((List.length (m3_0++[(Zh.mk c 0)]):Int)-1))) c (w64 ((List.length ((m3_0++[(Zh.mk c 0)])++[(Zh.mk c 1)]):Int)-1))) c 0) ?_;conv=>arg 3;whnf
   refine Zg (Zbt (f:=Zb) (g:=Zb) (fun ka kb:Int=>(ka==kb)) (fun _ _=>rfl) (Zw (fun ka kb:Int=>(ka==kb)) (Zw (fun ka kb:Int=>(ka==kb)) m5_0 c (w64 ((List.length (m3_0++[(Zh.mk c 0)]):Int)-1))) c (w64 ((List.length ((m3_0++[(Zh.mk c 0)])++[(Zh.mk c 1)]):Int)-1))) c 0) ?_;conv=>arg 3;whnf
   refine Ze _ ZaA fun x51 hx51=>?_;conv=>arg 3;whnf
   refine Zl rfl rfl fun x52 hx52=>?_;conv=>arg 3;whnf
   refine Zl rfl rfl fun x53 hx53=>?_;conv=>arg 3;whnf
   refine Zg (Zbt (f:=Zb) (g:=Zb) (fun ka kb:Int=>(ka==kb)) (fun _ _=>rfl) (Zw (fun ka kb:Int=>(ka==kb)) (Zw (fun ka kb:Int=>(ka==kb)) m5_0 c (w64 ((List.length (m3_0++[(Zh.mk c 0)]):Int)-1))) c (w64 ((List.length ((m3_0++[(Zh.mk c 0)])++[(Zh.mk c 1)]):Int)-1))) c 0) ?_;conv=>arg 3;whnf
   refine Zg (ZdI (f:=Zr) (g:=Zb) (fun ka kb:Zj=>((ka.maker==kb.maker)&&((ka.user==kb.user)&&((ka.pos==kb.pos)&&true)))) (fun _ _=>rfl) m6_0 x53 (Z6 (fun ka kb:Int=>(ka==kb)) (Zw (fun ka kb:Int=>(ka==kb)) (Zw (fun ka kb:Int=>(ka==kb)) m5_0 c (w64 ((List.length (m3_0++[(Zh.mk c 0)]):Int)-1))) c (w64 ((List.length ((m3_0++[(Zh.mk c 0)])++[(Zh.mk c 1)]):Int)-1))) c 0)) ?_;conv=>arg 3;whnf
   refine Ze _ (ZcQ _) fun r66 hr66=>?_;conv=>arg 3;whnf
   exact Zc rfl
  ·refine Ze _ ZaT fun x67 hx67=>?_;conv=>arg 3;whnf
   refine Zg (ZdI (f:=Zb) (g:=Zb) (fun ka kb:Int=>(ka==kb)) (fun _ _=>rfl) (Zw (fun ka kb:Int=>(ka==kb)) m5_0 c (w64 ((List.length (m3_0++[(Zh.mk c 0)]):Int)-1))) c (w64 ((List.length ((m3_0++[(Zh.mk c 0)])++[(Zh.mk c 1)]):Int)-1))) ?_;conv=>arg 3;whnf
   refine ZaU rfl ?_;conv=>arg 3;whnf
   refine Zg (Zbt (f:=Zb) (g:=Zb) (fun ka kb:Int=>(ka==kb)) (fun _ _=>rfl) (Zw (fun ka kb:Int=>(ka==kb)) (Zw (fun ka kb:Int=>(ka==kb)) m5_0 c (w64 ((List.length (m3_0++[(Zh.mk c 0)]):Int)-1))) c (w64 ((List.length ((m3_0++[(Zh.mk c 0)])++[(Zh.mk c 1)]):Int)-1))) c 0) ?_;conv=>arg 3;whnf
   refine Zg (Zbt (f:=Zb) (g:=Zb) (fun ka kb:Int=>(ka==kb)) (fun _ _=>rfl) (Zw (fun ka kb:Int=>(ka==kb)) (Zw (fun ka kb:Int=>(ka==kb)) m5_0 c (w64 ((List.length (m3_0++[(Zh.mk c 0)]):Int)-1))) c (w64 ((List.length ((m3_0++[(Zh.mk c 0)])++[(Zh.mk c 1)]):Int)-1))) c 0) ?_;conv=>arg 3;whnf
   refine Ze _ ZaA fun x68 hx68=>?_;conv=>arg 3;whnf
   refine Zl rfl rfl fun x69 hx69=>?_;conv=>arg 3;whnf
   refine Zl rfl rfl fun x70 hx70=>?_;conv=>arg 3;whnf
   refine Zg (Zbt (f:=Zb) (g:=Zb) (fun ka kb:Int=>(ka==kb)) (fun _ _=>rfl) (Zw (fun ka kb:Int=>(ka==kb)) (Zw (fun ka kb:Int=>(ka==kb)) m5_0 c (w64 ((List.length (m3_0++[(Zh.mk c 0)]):Int)-1))) c (w64 ((List.length ((m3_0++[(Zh.mk c 0)])++[(Zh.mk c 1)]):Int)-1))) c 0) ?_;conv=>arg 3;whnf
   refine Zg (ZdI (f:=Zr) (g:=Zb) (fun ka kb:Zj=>((ka.maker==kb.maker)&&((ka.user==kb.user)&&((ka.pos==kb.pos)&&true)))) (fun _ _=>rfl) m6_0 x70 (Z6 (fun ka kb:Int=>(ka==kb)) (Zw (fun ka kb:Int=>(ka==kb)) (Zw (fun ka kb:Int=>(ka==kb)) m5_0 c (w64 ((List.length (m3_0++[(Zh.mk c 0)]):Int)-1))) c (w64 ((List.length ((m3_0++[(Zh.mk c 0)])++[(Zh.mk c 1)]):Int)-1))) c 0)) ?_;conv=>arg 3;whnf
   refine Ze _ (ZcQ _) fun r83 hr83=>?_;conv=>arg 3;whnf
   exact Zc rfl
 ·exact Zc rfl
def ZfY (t0:Bool) (t1:Bool) (t2:Bool) (t3:Bool) (b:Zi) (c:Int) (m1_0:(List Int)) (m2_0:(List Zn)) (m3_0:(List Zh)) (m4_0:(List (Int×Int))) (m5_0:(List (Int×Int))) (m6_0:(List (Zj×Int))) (x0:(List Int)):(((List (Int×Int))×(List (Zj×Int))×(List Int)×(List Zn)×(List Zh))⊕((List Int)⊕Unit))→Ex×List V×Zp
  | (.inl r)=>(.exit 0,[],[(.cells [(.sl 7 1),(.sl 8 2),(.sl 9 2),(.mp 4),(.mp 5),(.mp 6)]),.dead,.dead,.dead,(.mp (mpD Zb Zb (Zw (fun ka kb:Int=>(ka==kb)) m4_0 c (m3_0.length:Int)))),(.mp (mpD Zb Zb r.1)),(.mp (mpD Zr Zb r.2.1)),(.arr 1 (List.map Zb r.2.2.1)),(.arr 2 (List.map Zx r.2.2.2.1)),(.arr 2 (List.map Zap r.2.2.2.2))])
  | (.inr (.inl r))=>(.exit 0,[],[(.cells [(.sl 7 1),(.sl 2 2),(.sl 8 2),(.mp 4),(.mp 5),(.mp 6)]),.dead,(.arr 2 (List.map Zx m2_0)),.dead,(.mp (mpD Zb Zb (Zw (fun ka kb:Int=>(ka==kb)) m4_0 c (m3_0.length:Int)))),(.mp (mpD Zb Zb (Zw (fun ka kb:Int=>(ka==kb)) m5_0 c (w64 ((List.length (m3_0++[(Zh.mk c 0)]):Int)-1))))),(.mp (mpD Zr Zb m6_0)),(.arr 1 (List.map Zb r)),(.arr 2 (List.map Zap (m3_0++[(Zh.mk c 0)])))])
  | (.inr (.inr r))=>(.exit 0,[],[(.cells [(.sl 1 1),(.sl 2 2),(.sl 3 2),(.mp 4),(.mp 5),(.mp 6)]),(.arr 1 (List.map Zb m1_0)),(.arr 2 (List.map Zx m2_0)),(.arr 2 (List.map Zap m3_0)),(.mp (mpD Zb Zb (Zw (fun ka kb:Int=>(ka==kb)) m4_0 c (m3_0.length:Int)))),(.mp (mpD Zb Zb m5_0)),(.mp (mpD Zr Zb m6_0))])
theorem ZiG {t0:Bool}{t1:Bool}{t2:Bool}{t3:Bool}{b:Zi}{c:Int}{m1_0:(List Int)}{m2_0:(List Zn)}{m3_0:(List Zh)}{m4_0:(List (Int×Int))}{m5_0:(List (Int×Int))}{m6_0:(List (Zj×Int))}{x0:(List Int)}:∀(s1:Unit) (r:(((List (Int×Int))×(List (Zj×Int))×(List Int)×(List Zn)×(List Zh))⊕((List Int)⊕Unit))),lp (Zbw b c m1_0 m2_0 m3_0 m5_0 m6_0 x0) s1=some r→lpW ctx 7 [0,2,4,6,7,26,27] [] ZsC [(.ptr 0 0),(.d (Zb c)),(.ptr 7 0),(.d (Zb 0)),(.d (D.list true (List.map Zb x0))),(.d (Zb (w64 ((x0.length:Int)+1)))),(.d (Zb 0))] [(.cells [(.sl 1 1),(.sl 2 2),(.sl 3 2),(.mp 4),(.mp 5),(.mp 6)]),(.arr 1 (List.map Zb m1_0)),(.arr 2 (List.map Zx m2_0)),(.arr 2 (List.map Zap m3_0)),(.mp (mpD Zb Zb (Zw (fun ka kb:Int=>(ka==kb)) m4_0 c (m3_0.length:Int)))),(.mp (mpD Zb Zb m5_0)),(.mp (mpD Zr Zb m6_0)),(.cells (dV t0 t1 t2 t3 b))]=some ((ZfY t0 t1 t2 t3 b c m1_0 m2_0 m3_0 m4_0 m5_0 m6_0 x0) r):=by
 refine Z2 (ZfY t0 t1 t2 t3 b c m1_0 m2_0 m3_0 m4_0 m5_0 m6_0 x0) ?_
 intro s1 rcl ih
 show ZH _ _ (lpW _ _ _ _ _ _ _)
 unfold Zbw
 rw[Z3]
 conv=>arg 3;whnf
 refine Zd rfl ?_ ?_<;>conv=>arg 3;whnf
 ·refine Zl rfl rfl fun x2 hx2=>?_;conv=>arg 3;whnf
  refine Zk (Zu _ _) ?_;conv=>arg 3;whnf
  refine Zd rfl ?_ ?_<;>conv=>arg 3;whnf
  ·refine Zl rfl rfl fun x3 hx3=>?_;conv=>arg 3;whnf
   refine Zl rfl rfl fun x4 hx4=>?_;conv=>arg 3;whnf
   refine Ze _ ZaT fun x5 hx5=>?_;conv=>arg 3;whnf
   refine Zg (ZdI (f:=Zb) (g:=Zb) (fun ka kb:Int=>(ka==kb)) (fun _ _=>rfl) m5_0 c (w64 ((List.length (m3_0++[(Zh.mk c 0)]):Int)-1))) ?_;conv=>arg 3;whnf
   refine Zaf rfl ?_;conv=>arg 3;whnf
   refine Ze _ (Zix _) fun r44 hr44=>?_
   clear hr44
   rcases r44 with r44 | r44
   ·conv=>arg 3;whnf
    exact Zc rfl
   ·conv=>arg 3;whnf
    exact Zc rfl
  ·refine Ze _ ZaT fun x45 hx45=>?_;conv=>arg 3;whnf
   refine Zg (ZdI (f:=Zb) (g:=Zb) (fun ka kb:Int=>(ka==kb)) (fun _ _=>rfl) m5_0 c (w64 ((List.length (m3_0++[(Zh.mk c 0)]):Int)-1))) ?_;conv=>arg 3;whnf
   refine Zaf rfl ?_;conv=>arg 3;whnf
   refine Ze _ (ZiF _) fun r84 hr84=>?_
   clear hr84
   rcases r84 with r84 | r84
   ·conv=>arg 3;whnf
    exact Zc rfl
   ·conv=>arg 3;whnf
    exact Zc rfl
 ·exact Zc rfl
theorem Zls {t0:Bool}{t1:Bool}{t2:Bool}{t3:Bool}{b:Zi}{c:Int}{m1_0:(List Int)}{m2_0:(List Zn)}{m3_0:(List Zh)}{m4_0:(List (Int×Int))}{m5_0:(List (Int×Int))}{m6_0:(List (Zj×Int))}:∀r,(ZdJ b c m1_0 m2_0 m3_0 m5_0 m6_0)=some r→evW ctx 42 [(.ptr 0 0),(.d (D.agg (dA t0 t1 t2 t3 b))),(.d (Zb c))] [(.cells [(.sl 1 1),(.sl 2 2),(.sl 3 2),(.mp 4),(.mp 5),(.mp 6)]),(.arr 1 (List.map Zb m1_0)),(.arr 2 (List.map Zx m2_0)),(.arr 2 (List.map Zap m3_0)),(.mp (mpD Zb Zb m4_0)),(.mp (mpD Zb Zb m5_0)),(.mp (mpD Zr Zb m6_0))]=some ((Zhs t0 t1 t2 t3 b c m1_0 m2_0 m3_0 m4_0 m5_0 m6_0) r):=by
 show ZH _ (fun r rhs=>rhs=some ((Zhs t0 t1 t2 t3 b c m1_0 m2_0 m3_0 m4_0 m5_0 m6_0) r)) _
 unfold ZdJ
 rw[Zgp ctx 42 ZFm _ _ rfl rfl]
 conv=>arg 3;whnf
 refine Zk (Zu _ _) ?_;conv=>arg 3;whnf
 refine Zg (ZdI (f:=Zb) (g:=Zb) (fun ka kb:Int=>(ka==kb)) (fun _ _=>rfl) m4_0 c (m3_0.length:Int)) ?_;conv=>arg 3;whnf
 refine Zm _ ZjV rfl fun x0 hx0=>?_;conv=>arg 3;whnf
 refine Zk (Zu _ _) ?_;conv=>arg 3;whnf
 refine Ze _ (ZiG _) fun r85 hr85=>?_
 clear hr85
 rcases r85 with r85 | (r85 | r85)
 ·conv=>arg 3;whnf
  exact Zc rfl
 ·conv=>arg 3;whnf
  exact Zc rfl
 ·conv=>arg 3;whnf
  exact Zc rfl
def ZlR (r:Bool):D:=(D.bool r)
theorem Zp8 {a:Int}:∀r,(Zdi a)=some r→evD ctx 79 [(.d (Zb a))]=some (ZlR r):=by
 show ZH _ (fun r rhs=>rhs=some (ZlR r)) _
 unfold Zdi
 rw[Z8 ctx 79 ZD1 _ rfl rfl]
 conv=>arg 3;whnf
 refine Zd rfl ?_ ?_<;>conv=>arg 3;whnf
 ·exact Zc rfl
 ·refine Zd rfl ?_ ?_<;>conv=>arg 3;whnf
  ·exact Zc rfl
  ·exact Zc rfl
def ZcE (r:Int):D:=(Zb r)
def Zci (t0:Bool) (a:(List Int)):(Int⊕Unit)→Ex×List V×Zp
  | (.inl r)=>(.ret,[(.d (Zb r))],[])
  | (.inr r)=>(.exit 0,[.bad],[])
theorem ZeL {t0:Bool}{a:(List Int)}:∀(s0:Int) (r:(Int⊕Unit)),lp (Zaw a (fun z0=>Zdi z0)) s0=some r→lpW ctx 0 [0,1,7,8] [4] ZuK [(.d (D.list t0 (List.map Zb a))),(.d (D.fn 79 [])),(.d (Zb (a.length:Int))),(.d (Zb s0))] []=some ((Zci t0 a) r):=by
 refine Z2 (Zci t0 a) ?_
 intro s0 rcl ih
 show ZH _ _ (lpW _ _ _ _ _ _ _)
 unfold Zaw
 rw[Z3]
 conv=>arg 3;whnf
 refine Zd rfl ?_ ?_<;>conv=>arg 3;whnf
 ·refine Zl rfl rfl fun x1 hx1=>?_;conv=>arg 3;whnf
  refine Zm _ Zp8 rfl fun x2 hx2=>?_;conv=>arg 3;whnf
  refine Zd rfl ?_ ?_<;>conv=>arg 3;whnf
  ·exact Zc rfl
  ·exact Zf (ih _)
 ·exact Zc rfl
theorem Zfi {t0:Bool}{a:(List Int)}:∀r,(Za4 a (fun z0=>Zdi z0))=some r→evD ctx 104 [(.d (D.list t0 (List.map Zb a))),(.d (D.fn 79 []))]=some (ZcE r):=by
 show ZH _ (fun r rhs=>rhs=some (ZcE r)) _
 unfold Za4
 rw[Z8 ctx 104 ZxC _ rfl rfl]
 conv=>arg 3;whnf
 refine Zk (Zu _ _) ?_;conv=>arg 3;whnf
 refine Ze _ (ZeL _) fun r3 hr3=>?_
 clear hr3
 rcases r3 with r3 | r3
 ·conv=>arg 3;whnf
  exact Zc rfl
 ·conv=>arg 3;whnf
  exact Zc rfl
def Zcn (r:Bool):D:=(D.bool r)
theorem ZeM {t0:Bool}{a:(List Int)}:∀r,(Zaa a (fun z0=>Zdi z0))=some r→evD ctx 77 [(.d (D.list t0 (List.map Zb a))),(.d (D.fn 79 []))]=some (Zcn r):=by
 show ZH _ (fun r rhs=>rhs=some (Zcn r)) _
 unfold Zaa
 rw[Z8 ctx 77 ZCc _ rfl rfl]
 conv=>arg 3;whnf
 refine Zm _ Zfi rfl fun x0 hx0=>?_;conv=>arg 3;whnf
 refine Zd rfl ?_ ?_<;>conv=>arg 3;whnf
 ·exact Zc rfl
 ·exact Zc rfl
def ZlX (r:Bool):D:=(D.bool r)
theorem Zkw {t0:Bool}{t1:Bool}{a:Int}{b0:(List Int)}{b1:(List Zn)}:∀r,(ZfI a b0)=some r→evD ctx 80 [(.d (Zb a)),(.d (D.rptr [(D.list t0 (List.map Zb b0)),(D.list t1 (List.map Zx b1))]))]=some (ZlX r):=by
 show ZH _ (fun r rhs=>rhs=some (ZlX r)) _
 unfold ZfI
 rw[Z8 ctx 80 ZFc _ rfl rfl]
 conv=>arg 3;whnf
 refine Zd rfl ?_ ?_<;>conv=>arg 3;whnf
 ·refine Zk (Zu _ _) ?_;conv=>arg 3;whnf
  refine Zd rfl ?_ ?_<;>conv=>arg 3;whnf
  ·exact Zc rfl
  ·exact Zc rfl
 ·exact Zc rfl
def Zn3 (r:((List Int)×Bool)):D:=(D.tup [(D.list true (List.map Zb r.1)),(D.bool r.2)])
def ZkR (t0:Bool) (t1:Bool) (a:Zal) (s0:(List Int)×(List Bool)) (s1:Int):(Unit⊕Unit)→Ex×List V×Zp
  | (.inl r)=>(.exit 3,[(.ptr 0 0),(.sl 1 1),(.sl 2 1),(.d (Zb s1)),(.d (Zb (a.work.length:Int))),(.d (Zb s1))],[(.cells [(.d (D.list t0 (List.map Zb a.work))),(.d (D.list t1 (List.map Zx a.edges)))]),(.arr 1 (List.map Zb s0.1)),(.arr 1 (List.map D.bool s0.2))])
  | (.inr r)=>(.exit 4,[(.ptr 0 0),(.sl 1 1),(.sl 2 1),(.d (Zb s1)),(.d (Zb (a.work.length:Int))),(.d (Zb s1))],[(.cells [(.d (D.list t0 (List.map Zb a.work))),(.d (D.list t1 (List.map Zx a.edges)))]),(.arr 1 (List.map Zb s0.1)),(.arr 1 (List.map D.bool s0.2))])
theorem Zpp {t0:Bool}{t1:Bool}{a:Zal}{s0:(List Int)×(List Bool)}{s1:Int}:∀(s3:Int) (r:(Unit⊕Unit)),lp (Zfh a s0 s1) s3=some r→lpW ctx 0 [1,4,5,6,21,22,30,31,32] [1,4,5,6,21,22] ZzM [(.ptr 0 0),(.sl 1 1),(.sl 2 1),(.d (Zb s1)),(.d (Zb (a.work.length:Int))),(.d (Zb s1)),(.d (D.list t1 (List.map Zx a.edges))),(.d (Zb (a.edges.length:Int))),(.d (Zb s3))] [(.cells [(.d (D.list t0 (List.map Zb a.work))),(.d (D.list t1 (List.map Zx a.edges)))]),(.arr 1 (List.map Zb s0.1)),(.arr 1 (List.map D.bool s0.2))]=some ((ZkR t0 t1 a s0 s1) r):=by
 refine Z2 (ZkR t0 t1 a s0 s1) ?_
 intro s3 rcl ih
 show ZH _ _ (lpW _ _ _ _ _ _ _)
 unfold Zfh
 rw[Z3]
 conv=>arg 3;whnf
 refine Zd rfl ?_ ?_<;>conv=>arg 3;whnf
 ·refine Zl rfl rfl fun x4 hx4=>?_;conv=>arg 3;whnf
  refine Zd rfl ?_ ?_<;>conv=>arg 3;whnf
  ·refine Zl rfl rfl fun x5 hx5=>?_;conv=>arg 3;whnf
   refine Zg (ZB rfl hx5) ?_;conv=>arg 3;whnf
   refine Zd rfl ?_ ?_<;>conv=>arg 3;whnf
   ·exact Zf (ih _)
   ·exact Zc rfl
  ·exact Zf (ih _)
 ·exact Zc rfl
def ZkM (t0:Bool) (t1:Bool) (a:Zal) (s0:(List Int)×(List Bool)):(((List Int)×(List Bool))⊕Unit)→Ex×List V×Zp
  | (.inl r)=>(.exit 1,[(.ptr 0 0),(.sl 1 1),(.sl 2 1)],[(.cells [(.d (D.list t0 (List.map Zb a.work))),(.d (D.list t1 (List.map Zx a.edges)))]),(.arr 1 (List.map Zb r.1)),(.arr 1 (List.map D.bool r.2))])
  | (.inr r)=>(.exit 2,[(.ptr 0 0),(.sl 1 1),(.sl 2 1)],[(.cells [(.d (D.list t0 (List.map Zb a.work))),(.d (D.list t1 (List.map Zx a.edges)))]),(.arr 1 (List.map Zb s0.1)),(.arr 1 (List.map D.bool s0.2))])
theorem ZpA {t0:Bool}{t1:Bool}{a:Zal}{s0:(List Int)×(List Bool)}:∀(s1:Int) (r:(((List Int)×(List Bool))⊕Unit)),lp (Zek a s0) s1=some r→lpW ctx 0 [1,4,5,21,22] [1,4,5] ZB3 [(.ptr 0 0),(.sl 1 1),(.sl 2 1),(.d (Zb (a.work.length:Int))),(.d (Zb s1))] [(.cells [(.d (D.list t0 (List.map Zb a.work))),(.d (D.list t1 (List.map Zx a.edges)))]),(.arr 1 (List.map Zb s0.1)),(.arr 1 (List.map D.bool s0.2))]=some ((ZkM t0 t1 a s0) r):=by
 refine Z2 (ZkM t0 t1 a s0) ?_
 intro s1 rcl ih
 show ZH _ _ (lpW _ _ _ _ _ _ _)
 unfold Zek
 rw[Z3]
 conv=>arg 3;whnf
 refine Zd rfl ?_ ?_<;>conv=>arg 3;whnf
 ·refine Zl rfl rfl fun x2 hx2=>?_;conv=>arg 3;whnf
  refine Zg (ZB rfl hx2) ?_;conv=>arg 3;whnf
  refine Zd rfl ?_ ?_<;>conv=>arg 3;whnf
  ·exact Zf (ih _)
  ·refine Zk (Zu _ _) ?_;conv=>arg 3;whnf
   refine Ze _ (Zpp _) fun r6 hr6=>?_
   clear hr6
   rcases r6 with r6 | r6
   ·conv=>arg 3;whnf
    exact Zf (ih _)
   ·conv=>arg 3;whnf
    refine Zg (Za3 rfl hx2) ?_;conv=>arg 3;whnf
    refine Zg (ZB rfl hx2) ?_;conv=>arg 3;whnf
    refine Zk (ZaB D.bool s0.2 s1.toNat true) ?_;conv=>arg 3;whnf
    refine ZaU rfl ?_;conv=>arg 3;whnf
    refine Zd (Zcd Zb s0.1 1) ?_ ?_
    ·conv=>arg 3;whnf
     refine Zk (Zca Zb s0.1 [s1]) ?_;conv=>arg 3;whnf
     exact Zc rfl
    ·exact ZO
 ·exact Zc rfl
def Zks (t0:Bool) (t1:Bool) (a:Zal):((List Int)⊕(List Int))→Ex×List V×Zp
  | (.inl r)=>(.ret,[(.nilsl 1),(.d (D.bool false)),(.sl 0 1)],[(.arr 1 (List.map Zb r))])
  | (.inr r)=>(.exit 0,[.bad,.bad,(.sl 0 1)],[(.arr 1 (List.map Zb r))])
theorem ZpM {t0:Bool}{t1:Bool}{a:Zal}:∀(s0:(List Int)×(List Bool)) (r:((List Int)⊕(List Int))),lp (Zfk a) s0=some r→lpW ctx 0 [1,4,5] [2,3,4] ZBJ [(.ptr 0 0),(.sl 1 1),(.sl 2 1)] [(.cells [(.d (D.list t0 (List.map Zb a.work))),(.d (D.list t1 (List.map Zx a.edges)))]),(.arr 1 (List.map Zb s0.1)),(.arr 1 (List.map D.bool s0.2))]=some ((Zks t0 t1 a) r):=by
 refine Z2 (Zks t0 t1 a) ?_
 intro s0 rcl ih
 show ZH _ _ (lpW _ _ _ _ _ _ _)
 unfold Zfk
 rw[Z3]
 conv=>arg 3;whnf
 refine Zk (Zu _ _) ?_;conv=>arg 3;whnf
 refine Zk (Zu _ _) ?_;conv=>arg 3;whnf
 refine Zd rfl ?_ ?_<;>conv=>arg 3;whnf
 ·refine Zk (Zu _ _) ?_;conv=>arg 3;whnf
  refine Ze _ (ZpA _) fun r7 hr7=>?_
  clear hr7
  rcases r7 with r7 | r7
  ·conv=>arg 3;whnf
   exact Zf (ih _)
  ·conv=>arg 3;whnf
   exact Zc rfl
 ·exact Zc rfl
theorem Zmx {t0:Bool}{t1:Bool}{a:Zal}:∀r,(Zfl a)=some r→evD ctx 64 [(.d (D.agg [(D.list t0 (List.map Zb a.work)),(D.list t1 (List.map Zx a.edges))]))]=some (Zn3 r):=by
 show ZH _ (fun r rhs=>rhs=some (Zn3 r)) _
 unfold Zfl
 rw[Z8 ctx 64 ZEf _ rfl rfl]
 conv=>arg 3;whnf
 refine Zk (Zu _ _) ?_;conv=>arg 3;whnf
 refine Zd rfl ?_ ?_
 ·conv=>arg 3;whnf
  refine Zk (Znc D.bool (false:Bool) (a.work.length:Int)) ?_;conv=>arg 3;whnf
  refine Ze _ (ZpM _) fun r8 hr8=>?_
  clear hr8
  rcases r8 with r8 | r8
  ·conv=>arg 3;whnf
   exact Zc rfl
  ·conv=>arg 3;whnf
   exact Zc rfl
 ·exact ZO
def Zob (r:Int):D:=(Zb r)
def Zky (t0:Bool) (t1:Bool) (a:Zal):(Unit⊕Unit)→Ex×List V×Zp
  | (.inl r)=>(.ret,[(.ptr 0 0),(.d (Zb 42))],[(.cells [(.d (D.list t0 (List.map Zb a.work))),(.d (D.list t1 (List.map Zx a.edges)))])])
  | (.inr r)=>(.exit 0,[(.ptr 0 0),.bad],[(.cells [(.d (D.list t0 (List.map Zb a.work))),(.d (D.list t1 (List.map Zx a.edges)))])])
theorem ZpN {t0:Bool}{t1:Bool}{a:Zal}:∀(s1:Int) (r:(Unit⊕Unit)),lp (Zev a) s1=some r→lpW ctx 0 [1,3,23,24,25] [1,2] ZAG [(.ptr 0 0),(.fn 80 [(.ptr 0 0)]),(.d (D.list t1 (List.map Zx a.edges))),(.d (Zb (a.edges.length:Int))),(.d (Zb s1))] [(.cells [(.d (D.list t0 (List.map Zb a.work))),(.d (D.list t1 (List.map Zx a.edges)))])]=some ((Zky t0 t1 a) r):=by
 refine Z2 (Zky t0 t1 a) ?_
 intro s1 rcl ih
 show ZH _ _ (lpW _ _ _ _ _ _ _)
 unfold Zev
 rw[Z3]
 conv=>arg 3;whnf
 refine Zd rfl ?_ ?_<;>conv=>arg 3;whnf
 ·refine Zl rfl rfl fun x2 hx2=>?_;conv=>arg 3;whnf
  refine Zm _ Zkw rfl fun x3 hx3=>?_;conv=>arg 3;whnf
  refine Zd rfl ?_ ?_<;>conv=>arg 3;whnf
  ·refine Zm _ Zkw rfl fun x4 hx4=>?_;conv=>arg 3;whnf
   refine Zd rfl ?_ ?_<;>conv=>arg 3;whnf
   ·refine Zd rfl ?_ ?_<;>conv=>arg 3;whnf
    ·exact Zc rfl
    ·refine Zd rfl ?_ ?_
     ·conv=>arg 3;whnf
      refine Zd (ZAl Zx a.edges s1.toNat) ?_ ?_
      ·conv=>arg 3;whnf
       refine ZaU rfl ?_;conv=>arg 3;whnf
       refine Zk (ZuG Zx a.edges s1.toNat) ?_;conv=>arg 3;whnf
       refine Zm _ ZeO rfl fun x5 hx5=>?_;conv=>arg 3;whnf
       refine Zd rfl ?_ ?_<;>conv=>arg 3;whnf
       ·exact Zc rfl
       ·exact Zf (ih _)
      ·exact ZO
     ·exact ZO
   ·exact Zc rfl
  ·exact Zc rfl
 ·exact Zc rfl
theorem ZmP {t0:Bool}{t1:Bool}{a:Zal}:∀r,(Zg3 a)=some r→evD ctx 45 [(.d (D.agg [(D.list t0 (List.map Zb a.work)),(D.list t1 (List.map Zx a.edges))]))]=some (Zob r):=by
 show ZH _ (fun r rhs=>rhs=some (Zob r)) _
 unfold Zg3
 rw[Z8 ctx 45 ZEy _ rfl rfl]
 conv=>arg 3;whnf
 refine Zk (Zu _ _) ?_;conv=>arg 3;whnf
 refine Zd rfl ?_ ?_<;>conv=>arg 3;whnf
 ·exact Zc rfl
 ·refine Zk (Zu _ _) ?_;conv=>arg 3;whnf
  refine Zd rfl ?_ ?_<;>conv=>arg 3;whnf
  ·exact Zc rfl
  ·refine Zm _ ZeM rfl fun x0 hx0=>?_;conv=>arg 3;whnf
   refine Zd rfl ?_ ?_<;>conv=>arg 3;whnf
   ·exact Zc rfl
   ·refine Zk (Zu _ _) ?_;conv=>arg 3;whnf
    refine Ze _ (ZpN _) fun r6 hr6=>?_
    clear hr6
    rcases r6 with r6 | r6
    ·conv=>arg 3;whnf
     exact Zc rfl
    ·conv=>arg 3;whnf
     refine Zm _ Zmx rfl fun x7 hx7=>?_;conv=>arg 3;whnf
     refine Zd rfl ?_ ?_<;>conv=>arg 3;whnf
     ·exact Zc rfl
     ·exact Zc rfl
def ZlG (r:(ZiA×Int)):D:=(D.tup [(D.agg [(D.list true (List.map Zb r.1.dag.work)),(D.list true (List.map Zx r.1.dag.edges)),(D.list true (List.map Zap r.1.pieces))]),(Zb r.2)])
def Zi2 (t0:Bool) (t1:Bool) (t2:Bool) (t3:Bool) (a:Zi):((List Int)×(List Zn)×(List Zh)×(List (Int×Int))×(List (Int×Int))×(List (Zj×Int)))→Ex×List V×Zp
  | r=>(.exit 0,[(.ptr 0 0),(.ptr 1 0),(.ptr 2 0)],[(.cells (dV t0 t1 t2 t3 a)),(.cells [(.sl 3 1),(.sl 4 2),(.sl 5 2)]),(.cells [(.sl 6 1),(.sl 7 2),(.sl 8 2),(.mp 9),(.mp 10),(.mp 11)]),(.arr 1 []),(.arr 2 []),(.arr 2 []),(.arr 1 (List.map Zb r.1)),(.arr 2 (List.map Zx r.2.1)),(.arr 2 (List.map Zap r.2.2.1)),(.mp (mpD Zb Zb r.2.2.2.1)),(.mp (mpD Zb Zb r.2.2.2.2.1)),(.mp (mpD Zr Zb r.2.2.2.2.2))])
theorem ZnK {t0:Bool}{t1:Bool}{t2:Bool}{t3:Bool}{a:Zi}:∀(s1:Int×(List Int)×(List Zn)×(List Zh)×(List (Int×Int))×(List (Int×Int))×(List (Zj×Int))) (r:((List Int)×(List Zn)×(List Zh)×(List (Int×Int))×(List (Int×Int))×(List (Zj×Int)))),lp (Zcy a) s1=some r→lpW ctx 0 [1,2,5,31,32] [1,2,5] ZBT [(.ptr 0 0),(.ptr 1 0),(.ptr 2 0),(.d (Zb (a.parts.length:Int))),(.d (Zb s1.1))] [(.cells (dV t0 t1 t2 t3 a)),(.cells [(.sl 3 1),(.sl 4 2),(.sl 5 2)]),(.cells [(.sl 6 1),(.sl 7 2),(.sl 8 2),(.mp 9),(.mp 10),(.mp 11)]),(.arr 1 []),(.arr 2 []),(.arr 2 []),(.arr 1 (List.map Zb s1.2.1)),(.arr 2 (List.map Zx s1.2.2.1)),(.arr 2 (List.map Zap s1.2.2.2.1)),(.mp (mpD Zb Zb s1.2.2.2.2.1)),(.mp (mpD Zb Zb s1.2.2.2.2.2.1)),(.mp (mpD Zr Zb s1.2.2.2.2.2.2))]=some ((Zi2 t0 t1 t2 t3 a) r):=by
 refine Z2 (Zi2 t0 t1 t2 t3 a) ?_
 intro s1 rcl ih
 show ZH _ _ (lpW _ _ _ _ _ _ _)
 unfold Zcy
 rw[Z3]
 conv=>arg 3;whnf
 refine Zd rfl ?_ ?_<;>conv=>arg 3;whnf
 ·refine Ze _ Zls fun x2 hx2=>?_
  clear hx2
  rcases x2 with x2 | (x2 | x2)
  ·conv=>arg 3;whnf
   exact Zf (ih _)
  ·conv=>arg 3;whnf
   exact Zf (ih _)
  ·conv=>arg 3;whnf
   exact Zf (ih _)
 ·exact Zc rfl
def Zi0 (t0:Bool) (t1:Bool) (t2:Bool) (t3:Bool) (a:Zi) (r3:((List Int)×(List Zn)×(List Zh)×(List (Int×Int))×(List (Int×Int))×(List (Zj×Int)))):(List Zn)→Ex×List V×Zp
  | r=>(.exit 2,[(.ptr 0 0),(.ptr 1 0),(.ptr 2 0)],[(.cells (dV t0 t1 t2 t3 a)),(.cells [(.sl 3 1),(.sl 4 2),(.sl 5 2)]),(.cells [(.sl 6 1),(.sl 7 2),(.sl 8 2),(.mp 9),(.mp 10),(.mp 11)]),(.arr 1 []),(.arr 2 []),(.arr 2 []),(.arr 1 (List.map Zb r3.1)),(.arr 2 (List.map Zx r)),(.arr 2 (List.map Zap r3.2.2.1)),(.mp (mpD Zb Zb r3.2.2.2.1)),(.mp (mpD Zb Zb r3.2.2.2.2.1)),(.mp (mpD Zr Zb r3.2.2.2.2.2))])
theorem ZnI {t0:Bool}{t1:Bool}{t2:Bool}{t3:Bool}{a:Zi}{r3:((List Int)×(List Zn)×(List Zh)×(List (Int×Int))×(List (Int×Int))×(List (Zj×Int)))}:∀(s4:Int×(List Zn)) (r:(List Zn)),lp (Zc1 a r3) s4=some r→lpW ctx 0 [1,2,5,41,42,43] [1,2,5] ZAS [(.ptr 0 0),(.ptr 1 0),(.ptr 2 0),(.d (D.list t1 (List.map Zx a.edges))),(.d (Zb (a.edges.length:Int))),(.d (Zb s4.1))] [(.cells (dV t0 t1 t2 t3 a)),(.cells [(.sl 3 1),(.sl 4 2),(.sl 5 2)]),(.cells [(.sl 6 1),(.sl 7 2),(.sl 8 2),(.mp 9),(.mp 10),(.mp 11)]),(.arr 1 []),(.arr 2 []),(.arr 2 []),(.arr 1 (List.map Zb r3.1)),(.arr 2 (List.map Zx s4.2)),(.arr 2 (List.map Zap r3.2.2.1)),(.mp (mpD Zb Zb r3.2.2.2.1)),(.mp (mpD Zb Zb r3.2.2.2.2.1)),(.mp (mpD Zr Zb r3.2.2.2.2.2))]=some ((Zi0 t0 t1 t2 t3 a r3) r):=by
 refine Z2 (Zi0 t0 t1 t2 t3 a r3) ?_
 intro s4 rcl ih
 show ZH _ _ (lpW _ _ _ _ _ _ _)
 unfold Zc1
 rw[Z3]
 conv=>arg 3;whnf
 refine Zd rfl ?_ ?_<;>conv=>arg 3;whnf
 ·refine Zl rfl rfl fun x5 hx5=>?_;conv=>arg 3;whnf
  refine Zg (Zbt (f:=Zb) (g:=Zb) (fun ka kb:Int=>(ka==kb)) (fun _ _=>rfl) r3.2.2.2.2.1 x5.src 0) ?_;conv=>arg 3;whnf
  refine Zg (Zbt (f:=Zb) (g:=Zb) (fun ka kb:Int=>(ka==kb)) (fun _ _=>rfl) r3.2.2.2.1 x5.dst 0) ?_;conv=>arg 3;whnf
  refine Ze _ ZaA fun x6 hx6=>?_;conv=>arg 3;whnf
  exact Zf (ih _)
 ·exact Zc rfl
def Zjt (t0:Bool) (t1:Bool) (t2:Bool) (t3:Bool) (a:Zi) (r3:((List Int)×(List Zn)×(List Zh)×(List (Int×Int))×(List (Int×Int))×(List (Zj×Int)))):(List Zn)→Ex×List V×Zp
  | r=>(.exit 4,[(.ptr 0 0),(.ptr 1 0),(.ptr 2 0)],[(.cells (dV t0 t1 t2 t3 a)),(.cells [(.sl 3 1),(.sl 4 2),(.sl 5 2)]),(.cells [(.sl 6 1),(.sl 7 2),(.sl 8 2),(.mp 9),(.mp 10),(.mp 11)]),(.arr 1 []),(.arr 2 []),(.arr 2 []),(.arr 1 (List.map Zb r3.1)),(.arr 2 (List.map Zx r)),(.arr 2 (List.map Zap r3.2.2.1)),(.mp (mpD Zb Zb r3.2.2.2.1)),(.mp (mpD Zb Zb r3.2.2.2.2.1)),(.mp (mpD Zr Zb r3.2.2.2.2.2))])
theorem ZnB {t0:Bool}{t1:Bool}{t2:Bool}{t3:Bool}{a:Zi}{r3:((List Int)×(List Zn)×(List Zh)×(List (Int×Int))×(List (Int×Int))×(List (Zj×Int)))}:∀(s8:Int×(List Zn)) (r:(List Zn)),lp (Zdb a r3) s8=some r→lpW ctx 0 [1,2,5,65,66,67] [1,2,5] ZAM [(.ptr 0 0),(.ptr 1 0),(.ptr 2 0),(.d (D.list t2 (List.map Zr a.futures))),(.d (Zb (a.futures.length:Int))),(.d (Zb s8.1))] [(.cells (dV t0 t1 t2 t3 a)),(.cells [(.sl 3 1),(.sl 4 2),(.sl 5 2)]),(.cells [(.sl 6 1),(.sl 7 2),(.sl 8 2),(.mp 9),(.mp 10),(.mp 11)]),(.arr 1 []),(.arr 2 []),(.arr 2 []),(.arr 1 (List.map Zb r3.1)),(.arr 2 (List.map Zx s8.2)),(.arr 2 (List.map Zap r3.2.2.1)),(.mp (mpD Zb Zb r3.2.2.2.1)),(.mp (mpD Zb Zb r3.2.2.2.2.1)),(.mp (mpD Zr Zb r3.2.2.2.2.2))]=some ((Zjt t0 t1 t2 t3 a r3) r):=by
 refine Z2 (Zjt t0 t1 t2 t3 a r3) ?_
 intro s8 rcl ih
 show ZH _ _ (lpW _ _ _ _ _ _ _)
 unfold Zdb
 rw[Z3]
 conv=>arg 3;whnf
 refine Zd rfl ?_ ?_<;>conv=>arg 3;whnf
 ·refine Zl rfl rfl fun x9 hx9=>?_;conv=>arg 3;whnf
  refine Zg (Zbt (f:=Zb) (g:=Zb) (fun ka kb:Int=>(ka==kb)) (fun _ _=>rfl) r3.2.2.2.2.1 x9.maker 0) ?_;conv=>arg 3;whnf
  refine Zg (Zbt (f:=Zr) (g:=Zb) (fun ka kb:Zj=>((ka.maker==kb.maker)&&((ka.user==kb.user)&&((ka.pos==kb.pos)&&true)))) (fun _ _=>rfl) r3.2.2.2.2.2 x9 0) ?_;conv=>arg 3;whnf
  refine Ze _ ZaA fun x10 hx10=>?_;conv=>arg 3;whnf
  exact Zf (ih _)
 ·exact Zc rfl
def Zjw (t3:Bool) (a:Zi) (r3:((List Int)×(List Zn)×(List Zh)×(List (Int×Int))×(List (Int×Int))×(List (Zj×Int)))) (s12:Int×(List Int)×(List Zn)×(List Zh)) (x13:Zs):(List Zn)→Ex×List V×Zp
  | r=>(.exit 8,[(.ptr 0 0),(.ptr 1 0),(.ptr 2 0),(.d (Zb (w64 ((List.length (s12.2.2.2++[(Zh.mk (-1) s12.1)]):Int)-1)))),(.d (D.list t3 (List.map Zy a.barriers))),(.d (Zb (a.barriers.length:Int))),(.d (Zb s12.1))],[(.cells [(.sl 3 1),(.sl 4 2),(.sl 5 2)]),(.cells [(.sl 6 1),(.sl 7 2),(.sl 8 2),(.mp 9),(.mp 10),(.mp 11)]),(.cells [(.d (D.list true (List.map Zb x13.ins))),(.d (D.list true (List.map Zb x13.outs)))]),(.arr 1 []),(.arr 2 []),(.arr 2 []),(.arr 1 (List.map Zb (s12.2.1++[1]))),(.arr 2 (List.map Zx r)),(.arr 2 (List.map Zap (s12.2.2.2++[(Zh.mk (-1) s12.1)]))),(.mp (mpD Zb Zb r3.2.2.2.1)),(.mp (mpD Zb Zb r3.2.2.2.2.1)),(.mp (mpD Zr Zb r3.2.2.2.2.2))])
theorem ZnC {t3:Bool}{a:Zi}{r3:((List Int)×(List Zn)×(List Zh)×(List (Int×Int))×(List (Int×Int))×(List (Zj×Int)))}{s12:Int×(List Int)×(List Zn)×(List Zh)}{x13:Zs}:∀(s15:Int×(List Zn)) (r:(List Zn)),lp (Zd0 r3 s12 x13) s15=some r→lpW ctx 0 [2,5,12,13,88,89,90,100,101,102] [2,5,12,13,88,89,90] ZBi [(.ptr 0 0),(.ptr 1 0),(.ptr 2 0),(.d (Zb (w64 ((List.length (s12.2.2.2++[(Zh.mk (-1) s12.1)]):Int)-1)))),(.d (D.list t3 (List.map Zy a.barriers))),(.d (Zb (a.barriers.length:Int))),(.d (Zb s12.1)),(.d (D.list true (List.map Zb x13.ins))),(.d (Zb (x13.ins.length:Int))),(.d (Zb s15.1))] [(.cells [(.sl 3 1),(.sl 4 2),(.sl 5 2)]),(.cells [(.sl 6 1),(.sl 7 2),(.sl 8 2),(.mp 9),(.mp 10),(.mp 11)]),(.cells [(.d (D.list true (List.map Zb x13.ins))),(.d (D.list true (List.map Zb x13.outs)))]),(.arr 1 []),(.arr 2 []),(.arr 2 []),(.arr 1 (List.map Zb (s12.2.1++[1]))),(.arr 2 (List.map Zx s15.2)),(.arr 2 (List.map Zap (s12.2.2.2++[(Zh.mk (-1) s12.1)]))),(.mp (mpD Zb Zb r3.2.2.2.1)),(.mp (mpD Zb Zb r3.2.2.2.2.1)),(.mp (mpD Zr Zb r3.2.2.2.2.2))]=some ((Zjw t3 a r3 s12 x13) r):=by
 refine Z2 (Zjw t3 a r3 s12 x13) ?_
 intro s15 rcl ih
 show ZH _ _ (lpW _ _ _ _ _ _ _)
 unfold Zd0
 rw[Z3]
 conv=>arg 3;whnf
 refine Zd rfl ?_ ?_<;>conv=>arg 3;whnf
 ·refine Zl rfl rfl fun x16 hx16=>?_;conv=>arg 3;whnf
  refine Zg (Zbt (f:=Zb) (g:=Zb) (fun ka kb:Int=>(ka==kb)) (fun _ _=>rfl) r3.2.2.2.2.1 x16 0) ?_;conv=>arg 3;whnf
  refine Ze _ ZaA fun x17 hx17=>?_;conv=>arg 3;whnf
  exact Zf (ih _)
 ·exact Zc rfl
def Zjh (t3:Bool) (a:Zi) (r3:((List Int)×(List Zn)×(List Zh)×(List (Int×Int))×(List (Int×Int))×(List (Zj×Int)))) (s12:Int×(List Int)×(List Zn)×(List Zh)) (x13:Zs):(List Zn)→Ex×List V×Zp
  | r=>(.exit 10,[(.ptr 0 0),(.ptr 1 0),(.d (D.list t3 (List.map Zy a.barriers))),(.d (Zb (a.barriers.length:Int))),(.d (Zb s12.1))],[(.cells [(.sl 2 1),(.sl 3 2),(.sl 4 2)]),(.cells [(.sl 5 1),(.sl 6 2),(.sl 7 2),(.mp 8),(.mp 9),(.mp 10)]),(.arr 1 []),(.arr 2 []),(.arr 2 []),(.arr 1 (List.map Zb (s12.2.1++[1]))),(.arr 2 (List.map Zx r)),(.arr 2 (List.map Zap (s12.2.2.2++[(Zh.mk (-1) s12.1)]))),(.mp (mpD Zb Zb r3.2.2.2.1)),(.mp (mpD Zb Zb r3.2.2.2.2.1)),(.mp (mpD Zr Zb r3.2.2.2.2.2))])
theorem ZnO {t3:Bool}{a:Zi}{r3:((List Int)×(List Zn)×(List Zh)×(List (Int×Int))×(List (Int×Int))×(List (Zj×Int)))}{s12:Int×(List Int)×(List Zn)×(List Zh)}{x13:Zs}:∀(s19:Int×(List Zn)) (r:(List Zn)),lp (Zd3 r3 s12 x13) s19=some r→lpW ctx 0 [2,5,13,88,89,90,117,118,119] [2,5,88,89,90] ZBL [(.ptr 0 0),(.ptr 1 0),(.d (Zb (w64 ((List.length (s12.2.2.2++[(Zh.mk (-1) s12.1)]):Int)-1)))),(.d (D.list t3 (List.map Zy a.barriers))),(.d (Zb (a.barriers.length:Int))),(.d (Zb s12.1)),(.d (D.list true (List.map Zb x13.outs))),(.d (Zb (x13.outs.length:Int))),(.d (Zb s19.1))] [(.cells [(.sl 2 1),(.sl 3 2),(.sl 4 2)]),(.cells [(.sl 5 1),(.sl 6 2),(.sl 7 2),(.mp 8),(.mp 9),(.mp 10)]),(.arr 1 []),(.arr 2 []),(.arr 2 []),(.arr 1 (List.map Zb (s12.2.1++[1]))),(.arr 2 (List.map Zx s19.2)),(.arr 2 (List.map Zap (s12.2.2.2++[(Zh.mk (-1) s12.1)]))),(.mp (mpD Zb Zb r3.2.2.2.1)),(.mp (mpD Zb Zb r3.2.2.2.2.1)),(.mp (mpD Zr Zb r3.2.2.2.2.2))]=some ((Zjh t3 a r3 s12 x13) r):=by
 refine Z2 (Zjh t3 a r3 s12 x13) ?_
 intro s19 rcl ih
 show ZH _ _ (lpW _ _ _ _ _ _ _)
 unfold Zd3
 rw[Z3]
 conv=>arg 3;whnf
 refine Zd rfl ?_ ?_<;>conv=>arg 3;whnf
 ·refine Zl rfl rfl fun x20 hx20=>?_;conv=>arg 3;whnf
  refine Zg (Zbt (f:=Zb) (g:=Zb) (fun ka kb:Int=>(ka==kb)) (fun _ _=>rfl) r3.2.2.2.1 x20 0) ?_;conv=>arg 3;whnf
  refine Ze _ ZaA fun x21 hx21=>?_;conv=>arg 3;whnf
  exact Zf (ih _)
 ·exact Zc rfl
def Zjb (t3:Bool) (a:Zi) (r3:((List Int)×(List Zn)×(List Zh)×(List (Int×Int))×(List (Int×Int))×(List (Zj×Int)))):((List Int)×(List Zn)×(List Zh))→Ex×List V×Zp
  | r=>(.exit 6,[(.ptr 0 0),(.ptr 1 0)],[(.cells [(.sl 2 1),(.sl 3 2),(.sl 4 2)]),(.cells [(.sl 5 1),(.sl 6 2),(.sl 7 2),(.mp 8),(.mp 9),(.mp 10)]),(.arr 1 []),(.arr 2 []),(.arr 2 []),(.arr 1 (List.map Zb r.1)),(.arr 2 (List.map Zx r.2.1)),(.arr 2 (List.map Zap r.2.2)),(.mp (mpD Zb Zb r3.2.2.2.1)),(.mp (mpD Zb Zb r3.2.2.2.2.1)),(.mp (mpD Zr Zb r3.2.2.2.2.2))])
theorem ZnV {t3:Bool}{a:Zi}{r3:((List Int)×(List Zn)×(List Zh)×(List (Int×Int))×(List (Int×Int))×(List (Zj×Int)))}:∀(s12:Int×(List Int)×(List Zn)×(List Zh)) (r:((List Int)×(List Zn)×(List Zh))),lp (Zc7 a r3) s12=some r→lpW ctx 0 [2,5,88,89,90] [2,5] ZBB [(.ptr 0 0),(.ptr 1 0),(.d (D.list t3 (List.map Zy a.barriers))),(.d (Zb (a.barriers.length:Int))),(.d (Zb s12.1))] [(.cells [(.sl 2 1),(.sl 3 2),(.sl 4 2)]),(.cells [(.sl 5 1),(.sl 6 2),(.sl 7 2),(.mp 8),(.mp 9),(.mp 10)]),(.arr 1 []),(.arr 2 []),(.arr 2 []),(.arr 1 (List.map Zb s12.2.1)),(.arr 2 (List.map Zx s12.2.2.1)),(.arr 2 (List.map Zap s12.2.2.2)),(.mp (mpD Zb Zb r3.2.2.2.1)),(.mp (mpD Zb Zb r3.2.2.2.2.1)),(.mp (mpD Zr Zb r3.2.2.2.2.2))]=some ((Zjb t3 a r3) r):=by
 refine Z2 (Zjb t3 a r3) ?_
 intro s12 rcl ih
 show ZH _ _ (lpW _ _ _ _ _ _ _)
 unfold Zc7
 rw[Z3]
 conv=>arg 3;whnf
 refine Zd rfl ?_ ?_<;>conv=>arg 3;whnf
 ·refine Zl rfl rfl fun x13 hx13=>?_;conv=>arg 3;whnf
  refine Ze _ ZaT fun x14 hx14=>?_;conv=>arg 3;whnf
  refine Zk (Zu _ _) ?_;conv=>arg 3;whnf
  refine Ze _ (ZnC _) fun r18 hr18=>?_;conv=>arg 3;whnf
  refine Zk (Zu _ _) ?_;conv=>arg 3;whnf
  refine Ze _ (ZnO _) fun r22 hr22=>?_;conv=>arg 3;whnf
  exact Zf (ih _)
 ·exact Zc rfl
theorem ZkE {t0:Bool}{t1:Bool}{t2:Bool}{t3:Bool}{a:Zi}:∀r,(ZfL a)=some r→evD ctx 23 [(.d (D.agg (dA t0 t1 t2 t3 a)))]=some (ZlG r):=by
 show ZH _ (fun r rhs=>rhs=some (ZlG r)) _
 unfold ZfL
 rw[Z8 ctx 23 ZFd _ rfl rfl]
 conv=>arg 3;whnf
 refine Zm _ Zij rfl fun x0 hx0=>?_;conv=>arg 3;whnf
 refine Zd rfl ?_ ?_<;>conv=>arg 3;whnf
 ·exact Zc rfl
 ·refine Zk (Zu _ _) ?_;conv=>arg 3;whnf
  refine Ze _ (ZnK _) fun r3 hr3=>?_;conv=>arg 3;whnf
  refine Zk (Zu _ _) ?_;conv=>arg 3;whnf
  refine Ze _ (ZnI _) fun r7 hr7=>?_;conv=>arg 3;whnf
  refine Zk (Zu _ _) ?_;conv=>arg 3;whnf
  refine Ze _ (ZnB _) fun r11 hr11=>?_;conv=>arg 3;whnf
  refine Zk (Zu _ _) ?_;conv=>arg 3;whnf
  refine Ze _ (ZnV _) fun r23 hr23=>?_;conv=>arg 3;whnf
  refine Zm _ ZmP rfl fun x24 hx24=>?_;conv=>arg 3;whnf
  refine Zd rfl ?_ ?_<;>conv=>arg 3;whnf
  ·exact Zc rfl
  ·exact Zc rfl
def Zpc (r:(ZF×Int)):D:=(D.tup [(D.agg [(D.list true (List.map D.bool r.1.done)),(D.list true (List.map Zb r.1.vals))]),(Zb r.2)])
theorem Zn8 {t0:Bool}{t1:Bool}{t2:Bool}{t3:Bool}{a:Zi}:∀r,(ZhN a)=some r→evD ctx 21 [(.d (D.agg (dA t0 t1 t2 t3 a)))]=some (Zpc r):=by
 show ZH _ (fun r rhs=>rhs=some (Zpc r)) _
 unfold ZhN
 rw[Z8 ctx 21 ZEX _ rfl rfl]
 conv=>arg 3;whnf
 refine Zm _ ZkE rfl fun x0 hx0=>?_;conv=>arg 3;whnf
 refine Zd rfl ?_ ?_<;>conv=>arg 3;whnf
 ·exact Zc rfl
 ·refine Zk (Zu _ _) ?_;conv=>arg 3;whnf
  refine Zd rfl ?_ ?_
  ·conv=>arg 3;whnf
   refine Zk (Znc D.bool (false:Bool) (x0.1.pieces.length:Int)) ?_;conv=>arg 3;whnf
   refine Zk (Zu _ _) ?_;conv=>arg 3;whnf
   refine Zd rfl ?_ ?_
   ·conv=>arg 3;whnf
    refine Zk (Znc Zb (0:Int) (a.parts.length:Int)) ?_;conv=>arg 3;whnf
    exact Zc rfl
   ·exact ZO
  ·exact ZO
def Zoc (r:(List Int)):D:=(D.list true (List.map Zb r))
theorem Zrr {t0:Bool}{t1:Bool}{a:Zal}:∀r,(ZhZ a)=some r→evD ctx 39 [(.d (D.agg [(D.list t0 (List.map Zb a.work)),(D.list t1 (List.map Zx a.edges))]))]=some (Zoc r):=by
 show ZH _ (fun r rhs=>rhs=some (Zoc r)) _
 unfold ZhZ
 rw[Z8 ctx 39 ZDD _ rfl rfl]
 conv=>arg 3;whnf
 refine Zm _ ZmP rfl fun x0 hx0=>?_;conv=>arg 3;whnf
 refine Zd rfl ?_ ?_<;>conv=>arg 3;whnf
 ·exact Zc rfl
 ·refine Zm _ Zmx rfl fun x1 hx1=>?_;conv=>arg 3;whnf
  refine Zd rfl ?_ ?_<;>conv=>arg 3;whnf
  ·exact Zc rfl
  ·exact Zc rfl
def Zfz (t0:Bool) (a:(List Bool)):Unit→V×Zp
  | r=>((.sl 0 1),[(.arr 1 (List.map D.bool a))])
theorem Zh1 {t0:Bool}{a:(List Bool)}:∀r,(ZbS a)=some r→evW ctx 54 [(.d (D.list t0 (List.map D.bool a)))] []=some ((Zfz t0 a) r):=by
 show ZH _ (fun r rhs=>rhs=some ((Zfz t0 a) r)) _
 unfold ZbS
 rw[Zgp ctx 54 ZEm _ _ rfl rfl]
 conv=>arg 3;whnf
 refine Zd (Zxo D.bool a) ?_ ?_
 ·conv=>arg 3;whnf
  refine ZaU (ZgK (f:=D.bool) (fun _=>⟨rfl,rfl⟩) a 0) ?_;conv=>arg 3;whnf
  refine Zd (ZgI D.bool a) ?_ ?_
  ·conv=>arg 3;whnf
   refine Zk (rfl:_=List.map D.bool a) ?_;conv=>arg 3;whnf
   exact Zc rfl
  ·exact ZO
 ·exact ZO
def Zf1 (t0:Bool) (a:(List Int)):Unit→V×Zp
  | r=>((.sl 0 1),[(.arr 1 (List.map Zb a))])
theorem ZiB {t0:Bool}{a:(List Int)}:∀r,(Zch a)=some r→evW ctx 55 [(.d (D.list t0 (List.map Zb a)))] []=some ((Zf1 t0 a) r):=by
 show ZH _ (fun r rhs=>rhs=some ((Zf1 t0 a) r)) _
 unfold Zch
 rw[Zgp ctx 55 ZD9 _ _ rfl rfl]
 conv=>arg 3;whnf
 refine Zd (Zxo Zb a) ?_ ?_
 ·conv=>arg 3;whnf
  refine ZaU (ZgK (f:=Zb) (fun _=>⟨rfl,rfl⟩) a 0) ?_;conv=>arg 3;whnf
  refine Zd (ZgI Zb a) ?_ ?_
  ·conv=>arg 3;whnf
   refine Zk (rfl:_=List.map Zb a) ?_;conv=>arg 3;whnf
   exact Zc rfl
  ·exact ZO
 ·exact ZO
def ZmX (r:Int):D:=(Zb r)
theorem ZqY {t0:Bool}{t1:Bool}{t2:Bool}{a:ZiA}{b:Int}:∀r,(Zhl a b)=some r→evD ctx 25 [(.d (D.agg [(D.list t0 (List.map Zb a.dag.work)),(D.list t1 (List.map Zx a.dag.edges)),(D.list t2 (List.map Zap a.pieces))])),(.d (Zb b))]=some (ZmX r):=by
 show ZH _ (fun r rhs=>rhs=some (ZmX r)) _
 unfold Zhl
 rw[Z8 ctx 25 ZGI _ rfl rfl]
 conv=>arg 3;whnf
 refine ZBq (f:=Zap) (g:=(fun x:Zh=>(x.part,x.step))) (l:=a.pieces) (fun _=>rfl) fun x0 hx0=>?_;conv=>arg 3;whnf
 exact Zc rfl
def Zm0 (r:(List Int)):D:=(D.list true (List.map Zb r))
def ZjP (t0:Bool) (t1:Bool) (t2:Bool) (t3:Bool) (a:Zi) (b:Int):(List Int)→Ex×List V×Zp
  | r=>(.exit 0,[(.d (Zb b)),(.ptr 0 0),(.sl 1 1)],[(.cells (dV t0 t1 t2 t3 a)),(.arr 1 (List.map Zb r))])
theorem Zox {t0:Bool}{t1:Bool}{t2:Bool}{t3:Bool}{a:Zi}{b:Int}:∀(s1:Int×(List Int)) (r:(List Int)),lp (ZgR a b) s1=some r→lpW ctx 0 [1,2,5,14,15,16] [1,2,5] Zz1 [(.d (Zb b)),(.ptr 0 0),(.sl 1 1),(.d (D.list t1 (List.map Zx a.edges))),(.d (Zb (a.edges.length:Int))),(.d (Zb s1.1))] [(.cells (dV t0 t1 t2 t3 a)),(.arr 1 (List.map Zb s1.2))]=some ((ZjP t0 t1 t2 t3 a b) r):=by
 refine Z2 (ZjP t0 t1 t2 t3 a b) ?_
 intro s1 rcl ih
 show ZH _ _ (lpW _ _ _ _ _ _ _)
 unfold ZgR
 rw[Z3]
 conv=>arg 3;whnf
 refine Zd rfl ?_ ?_<;>conv=>arg 3;whnf
 ·refine Zl rfl rfl fun x2 hx2=>?_;conv=>arg 3;whnf
  refine Zd rfl ?_ ?_<;>conv=>arg 3;whnf
  ·refine ZaU rfl ?_;conv=>arg 3;whnf
   refine Zd (Zcd Zb s1.2 1) ?_ ?_
   ·conv=>arg 3;whnf
    refine Zk (Zca Zb s1.2 [x2.src]) ?_;conv=>arg 3;whnf
    exact Zf (ih _)
   ·exact ZO
  ·exact Zf (ih _)
 ·exact Zc rfl
def Zj2 (t0:Bool) (t1:Bool) (t2:Bool) (t3:Bool) (a:Zi) (x4:(List Int)):(List Int)→Ex×List V×Zp
  | r=>(.exit 2,[(.sl 0 1)],[(.arr 1 (List.map Zb r))])
theorem Zot {t0:Bool}{t1:Bool}{t2:Bool}{t3:Bool}{a:Zi}{x4:(List Int)}:∀(s5:Int×(List Int)) (r:(List Int)),lp (ZgT a x4) s5=some r→lpW ctx 0 [2,5,32,33,34] [5] ZzJ [(.ptr 0 0),(.sl 1 1),(.d (D.list true (List.map Zb x4))),(.d (Zb (x4.length:Int))),(.d (Zb s5.1))] [(.cells (dV t0 t1 t2 t3 a)),(.arr 1 (List.map Zb s5.2))]=some ((Zj2 t0 t1 t2 t3 a x4) r):=by
 refine Z2 (Zj2 t0 t1 t2 t3 a x4) ?_
 intro s5 rcl ih
 show ZH _ _ (lpW _ _ _ _ _ _ _)
 unfold ZgT
 rw[Z3]
 conv=>arg 3;whnf
 refine Zd rfl ?_ ?_<;>conv=>arg 3;whnf
 ·refine Zl rfl rfl fun x6 hx6=>?_;conv=>arg 3;whnf
  refine Zl rfl rfl fun x7 hx7=>?_;conv=>arg 3;whnf
  refine ZaU rfl ?_;conv=>arg 3;whnf
  refine Zd (Zcd Zb s5.2 1) ?_ ?_
  ·conv=>arg 3;whnf
   refine Zk (Zca Zb s5.2 [x7.maker]) ?_;conv=>arg 3;whnf
   exact Zf (ih _)
  ·exact ZO
 ·exact Zc rfl
theorem Zq1 {t0:Bool}{t1:Bool}{t2:Bool}{t3:Bool}{a:Zi}{b:Int}:∀r,(Zgi a b)=some r→evD ctx 56 [(.d (D.agg (dA t0 t1 t2 t3 a))),(.d (Zb b))]=some (Zm0 r):=by
 show ZH _ (fun r rhs=>rhs=some (Zm0 r)) _
 unfold Zgi
 rw[Z8 ctx 56 ZEx _ rfl rfl]
 conv=>arg 3;whnf
 refine Zm _ Zij rfl fun x0 hx0=>?_;conv=>arg 3;whnf
 refine Zd rfl ?_ ?_<;>conv=>arg 3;whnf
 ·exact Zc rfl
 ·refine Zk (Zu _ _) ?_;conv=>arg 3;whnf
  refine Ze _ (Zox _) fun r3 hr3=>?_;conv=>arg 3;whnf
  refine Zm _ ZjV rfl fun x4 hx4=>?_;conv=>arg 3;whnf
  refine Zk (Zu _ _) ?_;conv=>arg 3;whnf
  refine Ze _ (Zot _) fun r8 hr8=>?_;conv=>arg 3;whnf
  exact Zc rfl
def ZmB (r:Int):D:=(D.int .u32 r)
theorem ZeG {a:Int}:∀r,(Zdh a)=some r→evD ctx 49 [(.d (Zb a))]=some (ZmB r):=by
 show ZH _ (fun r rhs=>rhs=some (ZmB r)) _
 unfold Zdh
 rw[Z8 ctx 49 ZFk _ rfl rfl]
 conv=>arg 3;whnf
 exact Zc rfl
def Zol:Unit→D
  | r=>(D.agg [(D.int .u32 0),(D.fn 85 []),(D.int .u32 1),(D.fn 86 []),(D.int .u32 0),(D.fn 87 []),(D.int .u32 7),(D.fn 88 [])])
theorem Zsi:∀r,ZjH=some r→evD ctx 50 []=some (Zol r):=by
 show ZH _ (fun r rhs=>rhs=some (Zol r)) _
 unfold ZjH
 rw[Z8 ctx 50 ZFl _ rfl rfl]
 conv=>arg 3;whnf
 exact Zc rfl
def ZlK (r:Int):D:=(D.int .u32 r)
theorem ZpY {a:Int}{b:Int}:∀r,(ZgC a b)=some r→evD ctx 85 [(.d (D.int .u32 a)),(.d (D.int .u32 b))]=some (ZlK r):=by
 show ZH _ (fun r rhs=>rhs=some (ZlK r)) _
 unfold ZgC
 rw[Z8 ctx 85 ZDS _ rfl rfl]
 conv=>arg 3;whnf
 exact Zc rfl
def ZlL (r:Int):D:=(D.int .u32 r)
theorem Zqj {a:Int}{b:Int}:∀r,(ZgJ a b)=some r→evD ctx 86 [(.d (D.int .u32 a)),(.d (D.int .u32 b))]=some (ZlL r):=by
 show ZH _ (fun r rhs=>rhs=some (ZlL r)) _
 unfold ZgJ
 rw[Z8 ctx 86 ZEM _ rfl rfl]
 conv=>arg 3;whnf
 exact Zc rfl
def Zl0 (r:Int):D:=(D.int .u32 r)
theorem Zql {a:Int}{b:Int}:∀r,(ZgG a b)=some r→evD ctx 87 [(.d (D.int .u32 a)),(.d (D.int .u32 b))]=some (Zl0 r):=by
 show ZH _ (fun r rhs=>rhs=some (Zl0 r)) _
 unfold ZgG
 rw[Z8 ctx 87 ZEH _ rfl rfl]
 conv=>arg 3;whnf
 exact Zc rfl
def ZlI (r:Int):D:=(D.int .u32 r)
theorem Zqs {a:Int}{b:Int}:∀r,(ZgO a b)=some r→evD ctx 88 [(.d (D.int .u32 a)),(.d (D.int .u32 b))]=some (ZlI r):=by
 show ZH _ (fun r rhs=>rhs=some (ZlI r)) _
 unfold ZgO
 rw[Z8 ctx 88 ZEF _ rfl rfl]
 conv=>arg 3;whnf
 exact Zc rfl
def ZqC (r:Int):D:=(Zb r)
def ZmM (t0:Bool) (a:ZU) (b:(List Int)):(List (Int×Int))→Ex×List V×Zp
  | r=>(.exit 1,[(.ptr 0 0),(.mp 1)],[(.cells [(.d (Zb a.op)),(.d (Zb a.arg)),(.d (Zb a.work))]),(.mp (mpD Zb Zb r))])
theorem Zq9 {t0:Bool}{a:ZU}{b:(List Int)}:∀(s0:Int×(List (Int×Int))) (r:(List (Int×Int))),lp (Zfq b) s0=some r→lpW ctx 0 [3,7,19,20,21] [3,7] ZAa [(.ptr 0 0),(.mp 1),(.d (D.list t0 (List.map Zb b))),(.d (Zb (b.length:Int))),(.d (Zb s0.1))] [(.cells [(.d (Zb a.op)),(.d (Zb a.arg)),(.d (Zb a.work))]),(.mp (mpD Zb Zb s0.2))]=some ((ZmM t0 a b) r):=by
 refine Z2 (ZmM t0 a b) ?_
 intro s0 rcl ih
 show ZH _ _ (lpW _ _ _ _ _ _ _)
 unfold Zfq
 rw[Z3]
 conv=>arg 3;whnf
 refine Zd rfl ?_ ?_<;>conv=>arg 3;whnf
 ·refine Zl rfl rfl fun x1 hx1=>?_;conv=>arg 3;whnf
  refine Zg (ZdI (f:=Zb) (g:=Zb) (fun ka kb:Int=>(ka==kb)) (fun _ _=>rfl) s0.2 s0.1 x1) ?_;conv=>arg 3;whnf
  exact Zf (ih _)
 ·exact Zc rfl
def ZmC (t1:Bool) (c:(List Int)):Int→Ex×List V×Zp
  | r=>(.exit 3,[(.d (D.int .u32 r))],[])
theorem Zq0 {t1:Bool}{c:(List Int)}:∀(s6:Int×Int) (r:Int),lp (Zft c) s6=some r→lpW ctx 0 [10,11,60,61,62] [11] Zsa [(.ptr 0 0),(.d (D.int .u32 s6.1)),(.d (D.list t1 (List.map Zb c))),(.d (Zb (c.length:Int))),(.d (Zb s6.2))] [(.cells [(.d (D.int .u32 0)),(.d (D.fn 85 []))])]=some ((ZmC t1 c) r):=by
 refine Z2 (ZmC t1 c) ?_
 intro s6 rcl ih
 show ZH _ _ (lpW _ _ _ _ _ _ _)
 unfold Zft
 rw[Z3]
 conv=>arg 3;whnf
 refine Zd rfl ?_ ?_<;>conv=>arg 3;whnf
 ·refine Zl rfl rfl fun x7 hx7=>?_;conv=>arg 3;whnf
  refine Zm _ ZeG rfl fun x8 hx8=>?_;conv=>arg 3;whnf
  refine Zm _ ZpY rfl fun x9 hx9=>?_;conv=>arg 3;whnf
  exact Zf (ih _)
 ·exact Zc rfl
def Zkz (t1:Bool) (c:(List Int)):Int→Ex×List V×Zp
  | r=>(.exit 3,[(.d (D.int .u32 r))],[])
theorem ZpG {t1:Bool}{c:(List Int)}:∀(s11:Int×Int) (r:Int),lp (Zer c) s11=some r→lpW ctx 0 [10,11,60,61,62] [11] Zsa [(.ptr 0 0),(.d (D.int .u32 s11.1)),(.d (D.list t1 (List.map Zb c))),(.d (Zb (c.length:Int))),(.d (Zb s11.2))] [(.cells [(.d (D.int .u32 1)),(.d (D.fn 86 []))])]=some ((Zkz t1 c) r):=by
 refine Z2 (Zkz t1 c) ?_
 intro s11 rcl ih
 show ZH _ _ (lpW _ _ _ _ _ _ _)
 unfold Zer
 rw[Z3]
 conv=>arg 3;whnf
 refine Zd rfl ?_ ?_<;>conv=>arg 3;whnf
 ·refine Zl rfl rfl fun x12 hx12=>?_;conv=>arg 3;whnf
  refine Zm _ ZeG rfl fun x13 hx13=>?_;conv=>arg 3;whnf
  refine Zm _ Zqj rfl fun x14 hx14=>?_;conv=>arg 3;whnf
  exact Zf (ih _)
 ·exact Zc rfl
def ZkA (t1:Bool) (c:(List Int)):Int→Ex×List V×Zp
  | r=>(.exit 3,[(.d (D.int .u32 r))],[])
theorem Zpg {t1:Bool}{c:(List Int)}:∀(s16:Int×Int) (r:Int),lp (Zet c) s16=some r→lpW ctx 0 [10,11,60,61,62] [11] Zsa [(.ptr 0 0),(.d (D.int .u32 s16.1)),(.d (D.list t1 (List.map Zb c))),(.d (Zb (c.length:Int))),(.d (Zb s16.2))] [(.cells [(.d (D.int .u32 0)),(.d (D.fn 87 []))])]=some ((ZkA t1 c) r):=by
 refine Z2 (ZkA t1 c) ?_
 intro s16 rcl ih
 show ZH _ _ (lpW _ _ _ _ _ _ _)
 unfold Zet
 rw[Z3]
 conv=>arg 3;whnf
 refine Zd rfl ?_ ?_<;>conv=>arg 3;whnf
 ·refine Zl rfl rfl fun x17 hx17=>?_;conv=>arg 3;whnf
  refine Zm _ ZeG rfl fun x18 hx18=>?_;conv=>arg 3;whnf
  refine Zm _ Zql rfl fun x19 hx19=>?_;conv=>arg 3;whnf
  exact Zf (ih _)
 ·exact Zc rfl
def Zkx (t1:Bool) (c:(List Int)):Int→Ex×List V×Zp
  | r=>(.exit 3,[(.d (D.int .u32 r))],[])
theorem Zpe {t1:Bool}{c:(List Int)}:∀(s21:Int×Int) (r:Int),lp (Zel c) s21=some r→lpW ctx 0 [10,11,60,61,62] [11] Zsa [(.ptr 0 0),(.d (D.int .u32 s21.1)),(.d (D.list t1 (List.map Zb c))),(.d (Zb (c.length:Int))),(.d (Zb s21.2))] [(.cells [(.d (D.int .u32 7)),(.d (D.fn 88 []))])]=some ((Zkx t1 c) r):=by
 refine Z2 (Zkx t1 c) ?_
 intro s21 rcl ih
 show ZH _ _ (lpW _ _ _ _ _ _ _)
 unfold Zel
 rw[Z3]
 conv=>arg 3;whnf
 refine Zd rfl ?_ ?_<;>conv=>arg 3;whnf
 ·refine Zl rfl rfl fun x22 hx22=>?_;conv=>arg 3;whnf
  refine Zm _ ZeG rfl fun x23 hx23=>?_;conv=>arg 3;whnf
  refine Zm _ Zqs rfl fun x24 hx24=>?_;conv=>arg 3;whnf
  exact Zf (ih _)
 ·exact Zc rfl
theorem ZuH {t0:Bool}{t1:Bool}{a:ZU}{b:(List Int)}{c:(List Int)}:∀r,(ZkF a b c)=some r→evD ctx 26 [(.d (D.agg [(Zb a.op),(Zb a.arg),(Zb a.work)])),(.d (D.list t0 (List.map Zb b))),(.d (D.list t1 (List.map Zb c)))]=some (ZqC r):=by
 show ZH _ (fun r rhs=>rhs=some (ZqC r)) _
 unfold ZkF
 rw[Z8 ctx 26 ZDR _ rfl rfl]
 conv=>arg 3;whnf
 refine Zd rfl ?_ ?_<;>conv=>arg 3;whnf
 ·refine Zk (Zu _ _) ?_;conv=>arg 3;whnf
  refine Ze _ (Zq9 _) fun r2 hr2=>?_;conv=>arg 3;whnf
  refine Zg (Zbt (f:=Zb) (g:=Zb) (fun ka kb:Int=>(ka==kb)) (fun _ _=>rfl) r2 a.arg 0) ?_;conv=>arg 3;whnf
  refine Zm _ ZeG rfl fun x3 hx3=>?_;conv=>arg 3;whnf
  exact Zc rfl
 ·refine Zd rfl ?_ ?_<;>conv=>arg 3;whnf
  ·refine Zm _ ZeG rfl fun x4 hx4=>?_;conv=>arg 3;whnf
   exact Zc rfl
  ·refine Zd rfl ?_ ?_<;>conv=>arg 3;whnf
   ·exact Zc rfl
   ·refine Zd rfl ?_ ?_<;>conv=>arg 3;whnf
    ·exact Zc rfl
    ·refine Zm _ Zsi rfl fun x5 hx5=>?_;conv=>arg 3;whnf
     refine Zd rfl ?_ ?_
     ·conv=>arg 3;whnf
      refine ZwF rfl ?_ ?_ ?_ ?_<;>conv=>arg 3;whnf
      ·refine Zg rfl ?_;conv=>arg 3;whnf
       refine Zk (Zu _ _) ?_;conv=>arg 3;whnf
       refine Ze _ (Zq0 _) fun r10 hr10=>?_;conv=>arg 3;whnf
       exact Zc rfl
      ·refine Zg rfl ?_;conv=>arg 3;whnf
       refine Zk (Zu _ _) ?_;conv=>arg 3;whnf
       refine Ze _ (ZpG _) fun r15 hr15=>?_;conv=>arg 3;whnf
       exact Zc rfl
      ·conv=>arg 3;whnf
       refine Zg rfl ?_;conv=>arg 3;whnf
       refine Zk (Zu _ _) ?_;conv=>arg 3;whnf
       refine Ze _ (Zpg _) fun r20 hr20=>?_;conv=>arg 3;whnf
       exact Zc rfl
      ·conv=>arg 3;whnf
       refine Zg rfl ?_;conv=>arg 3;whnf
       refine Zk (Zu _ _) ?_;conv=>arg 3;whnf
       refine Ze _ (Zpe _) fun r25 hr25=>?_;conv=>arg 3;whnf
       exact Zc rfl
     ·exact ZO
def Zl8 (r:ZF):D:=(D.agg [(D.list true (List.map D.bool r.done)),(D.list true (List.map Zb r.vals))])
def ZjA (t0:Bool) (t1:Bool) (t2:Bool) (t3:Bool) (t7:Bool) (a:Zi) (c:(List Int)) (d:ZF) (e:Int) (x3:Zh) (x5:(List Int)):(List Int)→Ex×List V×Zp
  | r=>(.exit 0,[(.d (D.list t7 (List.map Zb c))),(.ptr 0 0),(.ptr 1 0),(.ptr 2 0),(.d (Zb x3.part)),(.sl 3 1)],[(.cells (dV t0 t1 t2 t3 a)),(.cells [(.sl 4 1),(.sl 5 1)]),(.cells [(.sl 6 1),(.sl 7 1)]),(.arr 1 (List.map Zb r)),(.arr 1 (List.map D.bool (List.set d.done e.toNat true))),(.arr 1 (List.map Zb d.vals)),(.arr 1 []),(.arr 1 [])])
theorem ZnH {t0:Bool}{t1:Bool}{t2:Bool}{t3:Bool}{t7:Bool}{a:Zi}{c:(List Int)}{d:ZF}{e:Int}{x3:Zh}{x5:(List Int)}:∀(s6:Int×(List Int)) (r:(List Int)),lp (Zd8 d x5) s6=some r→lpW ctx 0 [2,5,8,10,11,12,44,45,46] [2,5,8,10,11,12] ZAg [(.d (D.list t7 (List.map Zb c))),(.ptr 0 0),(.ptr 1 0),(.ptr 2 0),(.d (Zb x3.part)),(.sl 3 1),(.d (D.list true (List.map Zb x5))),(.d (Zb (x5.length:Int))),(.d (Zb s6.1))] [(.cells (dV t0 t1 t2 t3 a)),(.cells [(.sl 4 1),(.sl 5 1)]),(.cells [(.sl 6 1),(.sl 7 1)]),(.arr 1 (List.map Zb s6.2)),(.arr 1 (List.map D.bool (List.set d.done e.toNat true))),(.arr 1 (List.map Zb d.vals)),(.arr 1 []),(.arr 1 [])]=some ((ZjA t0 t1 t2 t3 t7 a c d e x3 x5) r):=by
 refine Z2 (ZjA t0 t1 t2 t3 t7 a c d e x3 x5) ?_
 intro s6 rcl ih
 show ZH _ _ (lpW _ _ _ _ _ _ _)
 unfold Zd8
 rw[Z3]
 conv=>arg 3;whnf
 refine Zd rfl ?_ ?_<;>conv=>arg 3;whnf
 ·refine Zl rfl rfl fun x7 hx7=>?_;conv=>arg 3;whnf
  refine Zl rfl rfl fun x8 hx8=>?_;conv=>arg 3;whnf
  refine Zg (ZB rfl hx8) ?_;conv=>arg 3;whnf
  refine ZaU rfl ?_;conv=>arg 3;whnf
  refine Zd (Zcd Zb s6.2 1) ?_ ?_
  ·conv=>arg 3;whnf
   refine Zk (Zca Zb s6.2 [x8]) ?_;conv=>arg 3;whnf
   exact Zf (ih _)
  ·exact ZO
 ·exact Zc rfl
theorem Zqt {t0:Bool}{t1:Bool}{t2:Bool}{t3:Bool}{t4:Bool}{t5:Bool}{t6:Bool}{t7:Bool}{t8:Bool}{t9:Bool}{a:Zi}{b:ZiA}{c:(List Int)}{d:ZF}{e:Int}:∀r,(ZgE a b c d e)=some r→evD ctx 30 [(.d (D.agg (dA t0 t1 t2 t3 a))),(.d (D.agg [(D.list t4 (List.map Zb b.dag.work)),(D.list t5 (List.map Zx b.dag.edges)),(D.list t6 (List.map Zap b.pieces))])),(.d (D.list t7 (List.map Zb c))),(.d (D.agg [(D.list t8 (List.map D.bool d.done)),(D.list t9 (List.map Zb d.vals))])),(.d (Zb e))]=some (Zl8 r):=by
 show ZH _ (fun r rhs=>rhs=some (Zl8 r)) _
 unfold ZgE
 rw[Z8 ctx 30 ZDY _ rfl rfl]
 conv=>arg 3;whnf
 refine Ze _ Zh1 fun x0 hx0=>?_;conv=>arg 3;whnf
 refine Ze _ ZiB fun x1 hx1=>?_;conv=>arg 3;whnf
 refine Zl rfl rfl fun x2 hx2=>?_;conv=>arg 3;whnf
 refine Zg (ZB rfl hx2) ?_;conv=>arg 3;whnf
 refine Zk (ZaB D.bool d.done e.toNat true) ?_;conv=>arg 3;whnf
 refine Zl rfl rfl fun x3 hx3=>?_;conv=>arg 3;whnf
 refine Zd rfl ?_ ?_<;>conv=>arg 3;whnf
 ·exact Zc rfl
 ·refine Zm _ ZqY rfl fun x4 hx4=>?_;conv=>arg 3;whnf
  refine Zd rfl ?_ ?_<;>conv=>arg 3;whnf
  ·exact Zc rfl
  ·refine Zm _ Zq1 rfl fun x5 hx5=>?_;conv=>arg 3;whnf
   refine Zk (Zu _ _) ?_;conv=>arg 3;whnf
   refine Ze _ (ZnH _) fun r9 hr9=>?_;conv=>arg 3;whnf
   refine Zl rfl rfl fun x10 hx10=>?_;conv=>arg 3;whnf
   refine Zm _ ZuH rfl fun x11 hx11=>?_;conv=>arg 3;whnf
   refine Zl rfl rfl fun x12 hx12=>?_;conv=>arg 3;whnf
   refine Zg (ZB rfl hx12) ?_;conv=>arg 3;whnf
   refine Zk (ZaB Zb d.vals x3.part.toNat x11) ?_;conv=>arg 3;whnf
   exact Zc rfl
def ZoZ (r:((List Int)×Int)):D:=(D.tup [(D.list true (List.map Zb r.1)),(Zb r.2)])
def ZlQ (t0:Bool) (t1:Bool) (t2:Bool) (t3:Bool) (t4:Bool) (a:Zi) (b:(List Int)) (x1:(ZiA×Int)) (x2:(List Int)):((List Bool)×(List Int))→Ex×List V×Zp
  | r=>(.exit 0,[(.ptr 0 0)],[(.cells [(.d (D.list true (List.map D.bool r.1))),(.d (D.list true (List.map Zb r.2)))])])
theorem ZpZ {t0:Bool}{t1:Bool}{t2:Bool}{t3:Bool}{t4:Bool}{a:Zi}{b:(List Int)}{x1:(ZiA×Int)}{x2:(List Int)}:∀(s3:Int×(List Bool)×(List Int)) (r:((List Bool)×(List Int))),lp (ZeV a b x1 x2) s3=some r→lpW ctx 0 [1,2,6,8,27,28,29] [6] ZBu [(.d (D.list t4 (List.map Zb b))),(.ptr 0 0),(.ptr 1 0),(.ptr 2 0),(.d (D.list true (List.map Zb x2))),(.d (Zb (x2.length:Int))),(.d (Zb s3.1))] [(.cells (dV t0 t1 t2 t3 a)),(.cells [(.d (D.list true (List.map D.bool s3.2.1))),(.d (D.list true (List.map Zb s3.2.2)))]),(.cells [(.d (D.list true (List.map Zb x1.1.dag.work))),(.d (D.list true (List.map Zx x1.1.dag.edges))),(.d (D.list true (List.map Zap x1.1.pieces)))])]=some ((ZlQ t0 t1 t2 t3 t4 a b x1 x2) r):=by
 refine Z2 (ZlQ t0 t1 t2 t3 t4 a b x1 x2) ?_
 intro s3 rcl ih
 show ZH _ _ (lpW _ _ _ _ _ _ _)
 unfold ZeV
 rw[Z3]
 conv=>arg 3;whnf
 refine Zd rfl ?_ ?_<;>conv=>arg 3;whnf
 ·refine Zl rfl rfl fun x4 hx4=>?_;conv=>arg 3;whnf
  refine Zm _ Zqt rfl fun x5 hx5=>?_;conv=>arg 3;whnf
  exact Zf (ih _)
 ·exact Zc rfl
theorem ZsX {t0:Bool}{t1:Bool}{t2:Bool}{t3:Bool}{t4:Bool}{a:Zi}{b:(List Int)}:∀r,(Zg1 a b)=some r→evD ctx 19 [(.d (D.agg (dA t0 t1 t2 t3 a))),(.d (D.list t4 (List.map Zb b)))]=some (ZoZ r):=by
 show ZH _ (fun r rhs=>rhs=some (ZoZ r)) _
 unfold Zg1
 rw[Z8 ctx 19 ZDI _ rfl rfl]
 conv=>arg 3;whnf
 refine Zm _ Zn8 rfl fun x0 hx0=>?_;conv=>arg 3;whnf
 refine Zd rfl ?_ ?_<;>conv=>arg 3;whnf
 ·exact Zc rfl
 ·refine Zm _ ZkE rfl fun x1 hx1=>?_;conv=>arg 3;whnf
  refine Zm _ Zrr rfl fun x2 hx2=>?_;conv=>arg 3;whnf
  refine Zk (Zu _ _) ?_;conv=>arg 3;whnf
  refine Ze _ (ZpZ _) fun r6 hr6=>?_;conv=>arg 3;whnf
  exact Zc rfl
def Zn6 (r:(Int×Bool)):D:=(D.tup [(Zb r.1),(D.bool r.2)])
def ZkW (a:Int):(Int⊕Unit)→Ex×List V×Zp
  | (.inl r)=>(.ret,[(.d (Zb r)),(.d (D.bool true))],[])
  | (.inr r)=>(.exit 0,[.bad,.bad],[])
theorem Zpn {a:Int}:∀(s0:Int×Int) (r:(Int⊕Unit)),lp (ZcJ a) s0=some r→lpW ctx 0 [0,4,5] [2,3] ZxV [(.d (Zb a)),(.d (Zb s0.1)),(.d (Zb s0.2))] []=some ((ZkW a) r):=by
 refine Z2 (ZkW a) ?_
 intro s0 rcl ih
 show ZH _ _ (lpW _ _ _ _ _ _ _)
 unfold ZcJ
 rw[Z3]
 conv=>arg 3;whnf
 refine Zd rfl ?_ ?_<;>conv=>arg 3;whnf
 ·refine Zd rfl ?_ ?_<;>conv=>arg 3;whnf
  ·exact Zc rfl
  ·exact Zf (ih _)
 ·exact Zc rfl
theorem ZrJ {a:Int}:∀r,(Zh9 a)=some r→evD ctx 108 [(.d (Zb a))]=some (Zn6 r):=by
 show ZH _ (fun r rhs=>rhs=some (Zn6 r)) _
 unfold Zh9
 rw[Z8 ctx 108 Zz4 _ rfl rfl]
 conv=>arg 3;whnf
 refine Ze _ (Zpn _) fun r1 hr1=>?_
 clear hr1
 rcases r1 with r1 | r1
 ·conv=>arg 3;whnf
  exact Zc rfl
 ·conv=>arg 3;whnf
  exact Zc rfl
def Zmh (r:Bool):D:=(D.bool r)
theorem Zq5 {t0:Bool}{t1:Bool}{t2:Bool}{t3:Bool}{a:Zi}:∀r,(Zhp a)=some r→evD ctx 91 [(.d (D.agg (dA t0 t1 t2 t3 a)))]=some (Zmh r):=by
 show ZH _ (fun r rhs=>rhs=some (Zmh r)) _
 unfold Zhp
 rw[Z8 ctx 91 ZEp _ rfl rfl]
 conv=>arg 3;whnf
 refine Zm _ ZrJ rfl fun x0 hx0=>?_;conv=>arg 3;whnf
 refine Zd rfl ?_ ?_<;>conv=>arg 3;whnf
 ·refine Zd rfl ?_ ?_<;>conv=>arg 3;whnf
  ·refine Zd rfl ?_ ?_<;>conv=>arg 3;whnf
   ·refine Zd rfl ?_ ?_<;>conv=>arg 3;whnf
    ·exact Zc rfl
    ·exact Zc rfl
   ·exact Zc rfl
  ·exact Zc rfl
 ·exact Zc rfl
def ZlC (r:Bool):D:=(D.bool r)
def Zjl (t0:Bool) (t1:Bool) (t2:Bool) (t3:Bool) (a:Zi):(Unit⊕Unit)→Ex×List V×Zp
  | (.inl r)=>(.ret,[(.d (D.bool false))],[])
  | (.inr r)=>(.exit 0,[.bad],[])
theorem ZnA {t0:Bool}{t1:Bool}{t2:Bool}{t3:Bool}{a:Zi}:∀(s0:Int) (r:(Unit⊕Unit)),lp (Zd4 a) s0=some r→lpW ctx 0 [1,3] [2] ZA5 [(.ptr 0 0),(.d (Zb s0))] [(.cells (dV t0 t1 t2 t3 a))]=some ((Zjl t0 t1 t2 t3 a) r):=by
 refine Z2 (Zjl t0 t1 t2 t3 a) ?_
 intro s0 rcl ih
 show ZH _ _ (lpW _ _ _ _ _ _ _)
 unfold Zd4
 rw[Z3]
 conv=>arg 3;whnf
 refine Zk (Zu _ _) ?_;conv=>arg 3;whnf
 refine Zd rfl ?_ ?_<;>conv=>arg 3;whnf
 ·refine Zl rfl rfl fun x1 hx1=>?_;conv=>arg 3;whnf
  refine Zd rfl ?_ ?_<;>conv=>arg 3;whnf
  ·exact Zc rfl
  ·refine Zd rfl ?_ ?_<;>conv=>arg 3;whnf
   ·exact Zc rfl
   ·refine Zd rfl ?_ ?_<;>conv=>arg 3;whnf
    ·exact Zc rfl
    ·refine Zd rfl ?_ ?_<;>conv=>arg 3;whnf
     ·exact Zc rfl
     ·refine Zd rfl ?_ ?_<;>conv=>arg 3;whnf
      ·exact Zc rfl
      ·refine Zd rfl ?_ ?_<;>conv=>arg 3;whnf
       ·exact Zc rfl
       ·exact Zf (ih _)
 ·exact Zc rfl
theorem Zqg {t0:Bool}{t1:Bool}{t2:Bool}{t3:Bool}{a:Zi}:∀r,(ZgN a)=some r→evD ctx 92 [(.d (D.agg (dA t0 t1 t2 t3 a)))]=some (ZlC r):=by
 show ZH _ (fun r rhs=>rhs=some (ZlC r)) _
 unfold ZgN
 rw[Z8 ctx 92 ZDL _ rfl rfl]
 conv=>arg 3;whnf
 refine Ze _ (ZnA _) fun r2 hr2=>?_
 clear hr2
 rcases r2 with r2 | r2
 ·conv=>arg 3;whnf
  exact Zc rfl
 ·conv=>arg 3;whnf
  exact Zc rfl
def ZmH (r:Bool):D:=(D.bool r)
theorem ZfB {t0:Bool}{t1:Bool}{t2:Bool}{t3:Bool}{a:Zi}{b:Int}:∀r,(ZdT a b)=some r→evD ctx 109 [(.d (D.agg (dA t0 t1 t2 t3 a))),(.d (Zb b))]=some (ZmH r):=by
 show ZH _ (fun r rhs=>rhs=some (ZmH r)) _
 unfold ZdT
 rw[Z8 ctx 109 ZAm _ rfl rfl]
 conv=>arg 3;whnf
 refine Zd rfl ?_ ?_<;>conv=>arg 3;whnf
 ·refine Zk (Zu _ _) ?_;conv=>arg 3;whnf
  refine Zd rfl ?_ ?_<;>conv=>arg 3;whnf
  ·exact Zc rfl
  ·exact Zc rfl
 ·exact Zc rfl
def ZlO (r:Bool):D:=(D.bool r)
def ZiQ (t0:Bool) (t1:Bool) (t2:Bool) (t3:Bool) (a:Zi) (s0:Int) (x1:Zn):(Unit⊕Unit)→Ex×List V×Zp
  | (.inl r)=>(.ret,[(.ptr 0 0),(.d (D.bool false)),(.d (Zb s0))],[(.cells (dV t0 t1 t2 t3 a))])
  | (.inr r)=>(.exit 2,[(.ptr 0 0),.bad,(.d (Zb s0))],[(.cells (dV t0 t1 t2 t3 a))])
theorem ZnJ {t0:Bool}{t1:Bool}{t2:Bool}{t3:Bool}{a:Zi}{s0:Int}{x1:Zn}:∀(s4:Int) (r:(Unit⊕Unit)),lp (Zd5 a s0 x1) s4=some r→lpW ctx 0 [1,3,4,5] [1,2,3] ZA4 [(.ptr 0 0),(.d (Zb s0)),(.ptr 1 0),(.d (Zb s4))] [(.cells (dV t0 t1 t2 t3 a)),(.cells [(.d (Zb x1.src)),(.d (Zb x1.dst))])]=some ((ZiQ t0 t1 t2 t3 a s0 x1) r):=by
 refine Z2 (ZiQ t0 t1 t2 t3 a s0 x1) ?_
 intro s4 rcl ih
 show ZH _ _ (lpW _ _ _ _ _ _ _)
 unfold Zd5
 rw[Z3]
 conv=>arg 3;whnf
 refine Zd rfl ?_ ?_<;>conv=>arg 3;whnf
 ·refine Zl rfl rfl fun x5 hx5=>?_;conv=>arg 3;whnf
  refine Zd rfl ?_ ?_<;>conv=>arg 3;whnf
  ·refine Zg (Za3 rfl hx5) ?_;conv=>arg 3;whnf
   refine Zd rfl ?_ ?_<;>conv=>arg 3;whnf
   ·exact Zc rfl
   ·exact Zf (ih _)
  ·exact Zf (ih _)
 ·exact Zc rfl
def ZiY (t0:Bool) (t1:Bool) (t2:Bool) (t3:Bool) (a:Zi):(Unit⊕Unit)→Ex×List V×Zp
  | (.inl r)=>(.ret,[(.d (D.bool false))],[])
  | (.inr r)=>(.exit 0,[.bad],[])
theorem ZnU {t0:Bool}{t1:Bool}{t2:Bool}{t3:Bool}{a:Zi}:∀(s0:Int) (r:(Unit⊕Unit)),lp (Zd9 a) s0=some r→lpW ctx 0 [1,3] [2] Zzp [(.ptr 0 0),(.d (Zb s0))] [(.cells (dV t0 t1 t2 t3 a))]=some ((ZiY t0 t1 t2 t3 a) r):=by
 refine Z2 (ZiY t0 t1 t2 t3 a) ?_
 intro s0 rcl ih
 show ZH _ _ (lpW _ _ _ _ _ _ _)
 unfold Zd9
 rw[Z3]
 conv=>arg 3;whnf
 refine Zk (Zu _ _) ?_;conv=>arg 3;whnf
 refine Zd rfl ?_ ?_<;>conv=>arg 3;whnf
 ·refine Zl rfl rfl fun x1 hx1=>?_;conv=>arg 3;whnf
  refine Zm _ ZfB rfl fun x2 hx2=>?_;conv=>arg 3;whnf
  refine Zd rfl ?_ ?_<;>conv=>arg 3;whnf
  ·refine Zm _ ZfB rfl fun x3 hx3=>?_;conv=>arg 3;whnf
   refine Zd rfl ?_ ?_<;>conv=>arg 3;whnf
   ·refine Zd rfl ?_ ?_<;>conv=>arg 3;whnf
    ·exact Zc rfl
    ·refine Ze _ (ZnJ _) fun r6 hr6=>?_
     clear hr6
     rcases r6 with r6 | r6
     ·conv=>arg 3;whnf
      exact Zc rfl
     ·conv=>arg 3;whnf
      exact Zf (ih _)
   ·exact Zc rfl
  ·exact Zc rfl
 ·exact Zc rfl
theorem Zqe {t0:Bool}{t1:Bool}{t2:Bool}{t3:Bool}{a:Zi}:∀r,(ZgD a)=some r→evD ctx 93 [(.d (D.agg (dA t0 t1 t2 t3 a)))]=some (ZlO r):=by
 show ZH _ (fun r rhs=>rhs=some (ZlO r)) _
 unfold ZgD
 rw[Z8 ctx 93 ZEE _ rfl rfl]
 conv=>arg 3;whnf
 refine Ze _ (ZnU _) fun r7 hr7=>?_
 clear hr7
 rcases r7 with r7 | r7
 ·conv=>arg 3;whnf
  exact Zc rfl
 ·conv=>arg 3;whnf
  exact Zc rfl
def ZjZ (r:Bool):D:=(D.bool r)
def Zif (t0:Bool) (t1:Bool) (t2:Bool) (t3:Bool) (a:Zi) (s0:Int) (x1:Zj):(Unit⊕Unit)→Ex×List V×Zp
  | (.inl r)=>(.ret,[(.ptr 0 0),(.d (D.bool false)),(.d (Zb s0))],[(.cells (dV t0 t1 t2 t3 a))])
  | (.inr r)=>(.exit 2,[(.ptr 0 0),.bad,(.d (Zb s0))],[(.cells (dV t0 t1 t2 t3 a))])
theorem Zmf {t0:Bool}{t1:Bool}{t2:Bool}{t3:Bool}{a:Zi}{s0:Int}{x1:Zj}:∀(s5:Int) (r:(Unit⊕Unit)),lp (Zc8 a s0 x1) s5=some r→lpW ctx 0 [1,3,4,5] [1,2,3] Zz9 [(.ptr 0 0),(.d (Zb s0)),(.ptr 1 0),(.d (Zb s5))] [(.cells (dV t0 t1 t2 t3 a)),(.cells [(.d (Zb x1.maker)),(.d (Zb x1.user)),(.d (Zb x1.pos))])]=some ((Zif t0 t1 t2 t3 a s0 x1) r):=by
 refine Z2 (Zif t0 t1 t2 t3 a s0 x1) ?_
 intro s5 rcl ih
 show ZH _ _ (lpW _ _ _ _ _ _ _)
 unfold Zc8
 rw[Z3]
 conv=>arg 3;whnf
 refine Zd rfl ?_ ?_<;>conv=>arg 3;whnf
 ·refine Zl rfl rfl fun x6 hx6=>?_;conv=>arg 3;whnf
  refine Zd rfl ?_ ?_<;>conv=>arg 3;whnf
  ·refine Zg (Za3 rfl hx6) ?_;conv=>arg 3;whnf
   refine Zd rfl ?_ ?_<;>conv=>arg 3;whnf
   ·exact Zc rfl
   ·exact Zf (ih _)
  ·exact Zf (ih _)
 ·exact Zc rfl
def ZhY (t0:Bool) (t1:Bool) (t2:Bool) (t3:Bool) (a:Zi):(Unit⊕Unit)→Ex×List V×Zp
  | (.inl r)=>(.ret,[(.d (D.bool false))],[])
  | (.inr r)=>(.exit 0,[.bad],[])
theorem Zl9 {t0:Bool}{t1:Bool}{t2:Bool}{t3:Bool}{a:Zi}:∀(s0:Int) (r:(Unit⊕Unit)),lp (Zc9 a) s0=some r→lpW ctx 0 [1,3] [2] ZAc [(.ptr 0 0),(.d (Zb s0))] [(.cells (dV t0 t1 t2 t3 a))]=some ((ZhY t0 t1 t2 t3 a) r):=by
 refine Z2 (ZhY t0 t1 t2 t3 a) ?_
 intro s0 rcl ih
 show ZH _ _ (lpW _ _ _ _ _ _ _)
 unfold Zc9
 rw[Z3]
 conv=>arg 3;whnf
 refine Zk (Zu _ _) ?_;conv=>arg 3;whnf
 refine Zd rfl ?_ ?_<;>conv=>arg 3;whnf
 ·refine Zl rfl rfl fun x1 hx1=>?_;conv=>arg 3;whnf
  refine Zm _ ZfB rfl fun x2 hx2=>?_;conv=>arg 3;whnf
  refine Zd rfl ?_ ?_<;>conv=>arg 3;whnf
  ·refine Zm _ ZfB rfl fun x3 hx3=>?_;conv=>arg 3;whnf
   refine Zd rfl ?_ ?_<;>conv=>arg 3;whnf
   ·refine Zd rfl ?_ ?_<;>conv=>arg 3;whnf
    ·exact Zc rfl
    ·refine Zd rfl ?_ ?_<;>conv=>arg 3;whnf
     ·exact Zc rfl
     ·refine Zl rfl rfl fun x4 hx4=>?_;conv=>arg 3;whnf
      refine Zd rfl ?_ ?_<;>conv=>arg 3;whnf
      ·exact Zc rfl
      ·refine Ze _ (Zmf _) fun r7 hr7=>?_
       clear hr7
       rcases r7 with r7 | r7
       ·conv=>arg 3;whnf
        exact Zc rfl
       ·conv=>arg 3;whnf
        exact Zf (ih _)
   ·exact Zc rfl
  ·exact Zc rfl
 ·exact Zc rfl
theorem Zoy {t0:Bool}{t1:Bool}{t2:Bool}{t3:Bool}{a:Zi}:∀r,(ZfA a)=some r→evD ctx 94 [(.d (D.agg (dA t0 t1 t2 t3 a)))]=some (ZjZ r):=by
 show ZH _ (fun r rhs=>rhs=some (ZjZ r)) _
 unfold ZfA
 rw[Z8 ctx 94 ZEU _ rfl rfl]
 conv=>arg 3;whnf
 refine Ze _ (Zl9 _) fun r8 hr8=>?_
 clear hr8
 rcases r8 with r8 | r8
 ·conv=>arg 3;whnf
  exact Zc rfl
 ·conv=>arg 3;whnf
  exact Zc rfl
def Zoi (r:Bool):D:=(D.bool r)
def Zkl (t0:Bool) (t1:Bool) (t2:Bool) (t3:Bool) (t4:Bool) (a:Zi) (b:(List Int)):(Unit⊕Unit)→Ex×List V×Zp
  | (.inl r)=>(.ret,[(.d (D.list t4 (List.map Zb b))),(.d (D.bool false))],[])
  | (.inr r)=>(.exit 0,[(.d (D.list t4 (List.map Zb b))),.bad],[])
theorem Zpf {t0:Bool}{t1:Bool}{t2:Bool}{t3:Bool}{t4:Bool}{a:Zi}{b:(List Int)}:∀(s0:Int) (r:(Unit⊕Unit)),lp (Zfj a b) s0=some r→lpW ctx 0 [1,2,5] [1,4] Zyj [(.d (D.list t4 (List.map Zb b))),(.ptr 0 0),(.d (Zb s0))] [(.cells (dV t0 t1 t2 t3 a))]=some ((Zkl t0 t1 t2 t3 t4 a b) r):=by
 refine Z2 (Zkl t0 t1 t2 t3 t4 a b) ?_
 intro s0 rcl ih
 show ZH _ _ (lpW _ _ _ _ _ _ _)
 unfold Zfj
 rw[Z3]
 conv=>arg 3;whnf
 refine Zk (Zu _ _) ?_;conv=>arg 3;whnf
 refine Zd rfl ?_ ?_<;>conv=>arg 3;whnf
 ·refine Zl rfl rfl fun x1 hx1=>?_;conv=>arg 3;whnf
  refine Zm _ ZfB rfl fun x2 hx2=>?_;conv=>arg 3;whnf
  refine Zd rfl ?_ ?_<;>conv=>arg 3;whnf
  ·refine Zd rfl ?_ ?_<;>conv=>arg 3;whnf
   ·refine Zl rfl rfl fun x3 hx3=>?_;conv=>arg 3;whnf
    refine Zg (Za3 rfl hx1) ?_;conv=>arg 3;whnf
    refine Zd rfl ?_ ?_<;>conv=>arg 3;whnf
    ·exact Zc rfl
    ·exact Zf (ih _)
   ·exact Zf (ih _)
  ·exact Zc rfl
 ·exact Zc rfl
theorem ZmW {t0:Bool}{t1:Bool}{t2:Bool}{t3:Bool}{t4:Bool}{a:Zi}{b:(List Int)}:∀r,(Zg6 a b)=some r→evD ctx 110 [(.d (D.agg (dA t0 t1 t2 t3 a))),(.d (D.list t4 (List.map Zb b)))]=some (Zoi r):=by
 show ZH _ (fun r rhs=>rhs=some (Zoi r)) _
 unfold Zg6
 rw[Z8 ctx 110 Zz2 _ rfl rfl]
 conv=>arg 3;whnf
 refine Ze _ (Zpf _) fun r4 hr4=>?_
 clear hr4
 rcases r4 with r4 | r4
 ·conv=>arg 3;whnf
  exact Zc rfl
 ·conv=>arg 3;whnf
  refine Zk (Zu _ _) ?_;conv=>arg 3;whnf
  refine Zd rfl ?_ ?_<;>conv=>arg 3;whnf
  ·exact Zc rfl
  ·exact Zc rfl
def Zof (r:Bool):D:=(D.bool r)
def ZkG (t0:Bool) (a:(List Int)) (b:Int):(Unit⊕Unit)→Ex×List V×Zp
  | (.inl r)=>(.ret,[(.d (D.bool true))],[])
  | (.inr r)=>(.exit 0,[.bad],[])
theorem Zpq {t0:Bool}{a:(List Int)}{b:Int}:∀(s0:Int) (r:(Unit⊕Unit)),lp (Zfg a b) s0=some r→lpW ctx 0 [0,1,5] [4] ZxF [(.d (D.list t0 (List.map Zb a))),(.d (Zb b)),(.d (Zb s0))] []=some ((ZkG t0 a b) r):=by
 refine Z2 (ZkG t0 a b) ?_
 intro s0 rcl ih
 show ZH _ _ (lpW _ _ _ _ _ _ _)
 unfold Zfg
 rw[Z3]
 conv=>arg 3;whnf
 refine Zk (Zu _ _) ?_;conv=>arg 3;whnf
 refine Zd rfl ?_ ?_<;>conv=>arg 3;whnf
 ·refine Zl rfl rfl fun x1 hx1=>?_;conv=>arg 3;whnf
  refine Zd rfl ?_ ?_<;>conv=>arg 3;whnf
  ·exact Zc rfl
  ·exact Zf (ih _)
 ·exact Zc rfl
theorem Zsb {t0:Bool}{a:(List Int)}{b:Int}:∀r,(Zh5 a b)=some r→evD ctx 111 [(.d (D.list t0 (List.map Zb a))),(.d (Zb b))]=some (Zof r):=by
 show ZH _ (fun r rhs=>rhs=some (Zof r)) _
 unfold Zh5
 rw[Z8 ctx 111 Zzm _ rfl rfl]
 conv=>arg 3;whnf
 refine Ze _ (Zpq _) fun r2 hr2=>?_
 clear hr2
 rcases r2 with r2 | r2
 ·conv=>arg 3;whnf
  exact Zc rfl
 ·conv=>arg 3;whnf
  exact Zc rfl
def Zi5 (r:Bool):D:=(D.bool r)
def Zht (t0:Bool) (t1:Bool) (t2:Bool) (t3:Bool) (a:Zi) (s0:Int) (x1:Zs):(Unit⊕Unit)→Ex×List V×Zp
  | (.inl r)=>(.ret,[(.ptr 0 0),(.d (D.bool false)),(.d (Zb s0))],[(.cells (dV t0 t1 t2 t3 a))])
  | (.inr r)=>(.exit 2,[(.ptr 0 0),.bad,(.d (Zb s0))],[(.cells (dV t0 t1 t2 t3 a))])
theorem Zlo {t0:Bool}{t1:Bool}{t2:Bool}{t3:Bool}{a:Zi}{s0:Int}{x1:Zs}:∀(s4:Int) (r:(Unit⊕Unit)),lp (ZcN x1) s4=some r→lpW ctx 0 [1,3,4,5] [1,2,3] ZAy [(.ptr 0 0),(.d (Zb s0)),(.ptr 1 0),(.d (Zb s4))] [(.cells (dV t0 t1 t2 t3 a)),(.cells [(.d (D.list true (List.map Zb x1.ins))),(.d (D.list true (List.map Zb x1.outs)))])]=some ((Zht t0 t1 t2 t3 a s0 x1) r):=by
 refine Z2 (Zht t0 t1 t2 t3 a s0 x1) ?_
 intro s4 rcl ih
 show ZH _ _ (lpW _ _ _ _ _ _ _)
 unfold ZcN
 rw[Z3]
 conv=>arg 3;whnf
 refine Zk (Zu _ _) ?_;conv=>arg 3;whnf
 refine Zd rfl ?_ ?_<;>conv=>arg 3;whnf
 ·refine Zl rfl rfl fun x5 hx5=>?_;conv=>arg 3;whnf
  refine Zm _ Zsb rfl fun x6 hx6=>?_;conv=>arg 3;whnf
  refine Zd rfl ?_ ?_<;>conv=>arg 3;whnf
  ·exact Zc rfl
  ·exact Zf (ih _)
 ·exact Zc rfl
def Zhv (t0:Bool) (t1:Bool) (t2:Bool) (t3:Bool) (a:Zi):(Unit⊕Unit)→Ex×List V×Zp
  | (.inl r)=>(.ret,[(.d (D.bool false))],[])
  | (.inr r)=>(.exit 0,[.bad],[])
theorem Zlj {t0:Bool}{t1:Bool}{t2:Bool}{t3:Bool}{a:Zi}:∀(s0:Int) (r:(Unit⊕Unit)),lp (ZcO a) s0=some r→lpW ctx 0 [1,3] [2] ZBQ [(.ptr 0 0),(.d (Zb s0))] [(.cells (dV t0 t1 t2 t3 a))]=some ((Zhv t0 t1 t2 t3 a) r):=by
 refine Z2 (Zhv t0 t1 t2 t3 a) ?_
 intro s0 rcl ih
 show ZH _ _ (lpW _ _ _ _ _ _ _)
 unfold ZcO
 rw[Z3]
 conv=>arg 3;whnf
 refine Zk (Zu _ _) ?_;conv=>arg 3;whnf
 refine Zd rfl ?_ ?_<;>conv=>arg 3;whnf
 ·refine Zl rfl rfl fun x1 hx1=>?_;conv=>arg 3;whnf
  refine Zm _ ZmW rfl fun x2 hx2=>?_;conv=>arg 3;whnf
  refine Zd rfl ?_ ?_<;>conv=>arg 3;whnf
  ·refine Zm _ ZmW rfl fun x3 hx3=>?_;conv=>arg 3;whnf
   refine Zd rfl ?_ ?_<;>conv=>arg 3;whnf
   ·refine Ze _ (Zlo _) fun r7 hr7=>?_
    clear hr7
    rcases r7 with r7 | r7
    ·conv=>arg 3;whnf
     exact Zc rfl
    ·conv=>arg 3;whnf
     exact Zf (ih _)
   ·exact Zc rfl
  ·exact Zc rfl
 ·exact Zc rfl
theorem Znr {t0:Bool}{t1:Bool}{t2:Bool}{t3:Bool}{a:Zi}:∀r,(Zfa a)=some r→evD ctx 95 [(.d (D.agg (dA t0 t1 t2 t3 a)))]=some (Zi5 r):=by
 show ZH _ (fun r rhs=>rhs=some (Zi5 r)) _
 unfold Zfa
 rw[Z8 ctx 95 ZEA _ rfl rfl]
 conv=>arg 3;whnf
 refine Ze _ (Zlj _) fun r8 hr8=>?_
 clear hr8
 rcases r8 with r8 | r8
 ·conv=>arg 3;whnf
  exact Zc rfl
 ·conv=>arg 3;whnf
  exact Zc rfl
def ZlP (r:Int):D:=(Zb r)
theorem Zqd {t0:Bool}{t1:Bool}{t2:Bool}{t3:Bool}{a:Zi}:∀r,(Zgz a)=some r→evD ctx 62 [(.d (D.agg (dA t0 t1 t2 t3 a)))]=some (ZlP r):=by
 show ZH _ (fun r rhs=>rhs=some (ZlP r)) _
 unfold Zgz
 rw[Z8 ctx 62 ZEb _ rfl rfl]
 conv=>arg 3;whnf
 refine Zk (Zu _ _) ?_;conv=>arg 3;whnf
 refine Zd rfl ?_ ?_<;>conv=>arg 3;whnf
 ·exact Zc rfl
 ·refine Zk (Zu _ _) ?_;conv=>arg 3;whnf
  refine Zd rfl ?_ ?_<;>conv=>arg 3;whnf
  ·exact Zc rfl
  ·refine Zk (Zu _ _) ?_;conv=>arg 3;whnf
   refine Zd rfl ?_ ?_<;>conv=>arg 3;whnf
   ·exact Zc rfl
   ·refine Zk (Zu _ _) ?_;conv=>arg 3;whnf
    refine Zd rfl ?_ ?_<;>conv=>arg 3;whnf
    ·exact Zc rfl
    ·refine Zk (Zu _ _) ?_;conv=>arg 3;whnf
     refine Zd rfl ?_ ?_<;>conv=>arg 3;whnf
     ·exact Zc rfl
     ·refine Zm _ Zq5 rfl fun x0 hx0=>?_;conv=>arg 3;whnf
      refine Zd rfl ?_ ?_<;>conv=>arg 3;whnf
      ·refine Zm _ Zqg rfl fun x1 hx1=>?_;conv=>arg 3;whnf
       refine Zd rfl ?_ ?_<;>conv=>arg 3;whnf
       ·refine Zm _ Zqe rfl fun x2 hx2=>?_;conv=>arg 3;whnf
        refine Zd rfl ?_ ?_<;>conv=>arg 3;whnf
        ·refine Zm _ Zoy rfl fun x3 hx3=>?_;conv=>arg 3;whnf
         refine Zd rfl ?_ ?_<;>conv=>arg 3;whnf
         ·refine Zm _ Znr rfl fun x4 hx4=>?_;conv=>arg 3;whnf
          refine Zd rfl ?_ ?_<;>conv=>arg 3;whnf
          ·exact Zc rfl
          ·exact Zc rfl
         ·exact Zc rfl
        ·exact Zc rfl
       ·exact Zc rfl
      ·exact Zc rfl
def ZjL (r:(List Int)):D:=(D.list true (List.map Zb r))
def Zh8 (t0:Bool) (t1:Bool) (t2:Bool) (t3:Bool) (a:Zi) (b:Int) (s0:Int×(List Int)):(List Int)→Ex×List V×Zp
  | r=>(.exit 2,[(.d (Zb b)),(.ptr 0 0),(.sl 1 1),(.d (Zb s0.1))],[(.cells (dV t0 t1 t2 t3 a)),(.arr 1 (List.map Zb r))])
theorem Zma {t0:Bool}{t1:Bool}{t2:Bool}{t3:Bool}{a:Zi}{b:Int}{s0:Int×(List Int)}:∀(s1:Int×(List Int)) (r:(List Int)),lp (Zcs a b s0) s1=some r→lpW ctx 0 [1,2,5,6,7] [1,2,5,6] ZB4 [(.d (Zb b)),(.ptr 0 0),(.sl 1 1),(.d (Zb s0.1)),(.d (Zb s1.1))] [(.cells (dV t0 t1 t2 t3 a)),(.arr 1 (List.map Zb s1.2))]=some ((Zh8 t0 t1 t2 t3 a b s0) r):=by
 refine Z2 (Zh8 t0 t1 t2 t3 a b s0) ?_
 intro s1 rcl ih
 show ZH _ _ (lpW _ _ _ _ _ _ _)
 unfold Zcs
 rw[Z3]
 conv=>arg 3;whnf
 refine Zk (Zu _ _) ?_;conv=>arg 3;whnf
 refine Zd rfl ?_ ?_<;>conv=>arg 3;whnf
 ·refine Zl rfl rfl fun x2 hx2=>?_;conv=>arg 3;whnf
  refine Zd rfl ?_ ?_<;>conv=>arg 3;whnf
  ·refine Zg (Za3 rfl hx2) ?_;conv=>arg 3;whnf
   refine Zd rfl ?_ ?_<;>conv=>arg 3;whnf
   ·refine ZaU rfl ?_;conv=>arg 3;whnf
    refine Zd (Zcd Zb s1.2 1) ?_ ?_
    ·conv=>arg 3;whnf
     refine Zk (Zca Zb s1.2 [s1.1]) ?_;conv=>arg 3;whnf
     exact Zf (ih _)
    ·exact ZO
   ·exact Zf (ih _)
  ·exact Zf (ih _)
 ·exact Zc rfl
def Zh7 (t0:Bool) (t1:Bool) (t2:Bool) (t3:Bool) (a:Zi) (b:Int):(List Int)→Ex×List V×Zp
  | r=>(.exit 0,[(.sl 0 1)],[(.arr 1 (List.map Zb r))])
theorem Zmc {t0:Bool}{t1:Bool}{t2:Bool}{t3:Bool}{a:Zi}{b:Int}:∀(s0:Int×(List Int)) (r:(List Int)),lp (Zew a b) s0=some r→lpW ctx 0 [1,2,5,6] [5] Zz6 [(.d (Zb b)),(.ptr 0 0),(.sl 1 1),(.d (Zb s0.1))] [(.cells (dV t0 t1 t2 t3 a)),(.arr 1 (List.map Zb s0.2))]=some ((Zh7 t0 t1 t2 t3 a b) r):=by
 refine Z2 (Zh7 t0 t1 t2 t3 a b) ?_
 intro s0 rcl ih
 show ZH _ _ (lpW _ _ _ _ _ _ _)
 unfold Zew
 rw[Z3]
 conv=>arg 3;whnf
 refine Zd rfl ?_ ?_<;>conv=>arg 3;whnf
 ·refine Ze _ (Zma _) fun r3 hr3=>?_;conv=>arg 3;whnf
  exact Zf (ih _)
 ·exact Zc rfl
theorem ZgV {t0:Bool}{t1:Bool}{t2:Bool}{t3:Bool}{a:Zi}{b:Int}:∀r,(ZcP a b)=some r→evD ctx 59 [(.d (D.agg (dA t0 t1 t2 t3 a))),(.d (Zb b))]=some (ZjL r):=by
 show ZH _ (fun r rhs=>rhs=some (ZjL r)) _
 unfold ZcP
 rw[Z8 ctx 59 ZDV _ rfl rfl]
 conv=>arg 3;whnf
 refine Ze _ (Zmc _) fun r4 hr4=>?_;conv=>arg 3;whnf
 exact Zc rfl
def Zl7 (r:(List Int)):D:=(D.list true (List.map Zb r))
def ZjE (t0:Bool) (t1:Bool) (t2:Bool) (t3:Bool) (a:Zi) (b:Int) (x0:(List Int)):(Int×(List Int))→Ex×List V×Zp
  | r=>(.exit 0,[(.d (Zb b)),(.ptr 0 0),(.sl 1 1),(.d (Zb r.1))],[(.cells (dV t0 t1 t2 t3 a)),(.arr 1 (List.map Zb r.2))])
theorem Znp {t0:Bool}{t1:Bool}{t2:Bool}{t3:Bool}{a:Zi}{b:Int}{x0:(List Int)}:∀(s1:Int×Int×(List Int)) (r:(Int×(List Int))),lp (Zdc a x0) s1=some r→lpW ctx 0 [1,2,5,6,7,8] [1,2,5,6] ZBE [(.d (Zb b)),(.ptr 0 0),(.sl 1 1),(.d (Zb s1.1)),(.d (D.list true (List.map Zb x0))),(.d (Zb s1.2.1))] [(.cells (dV t0 t1 t2 t3 a)),(.arr 1 (List.map Zb s1.2.2))]=some ((ZjE t0 t1 t2 t3 a b x0) r):=by
 refine Z2 (ZjE t0 t1 t2 t3 a b x0) ?_
 intro s1 rcl ih
 show ZH _ _ (lpW _ _ _ _ _ _ _)
 unfold Zdc
 rw[Z3]
 conv=>arg 3;whnf
 refine Zk (Zu _ _) ?_;conv=>arg 3;whnf
 refine Zd rfl ?_ ?_<;>conv=>arg 3;whnf
 ·refine Zl rfl rfl fun x2 hx2=>?_;conv=>arg 3;whnf
  refine Zl rfl rfl fun x3 hx3=>?_;conv=>arg 3;whnf
  refine ZaU rfl ?_;conv=>arg 3;whnf
  refine Zd (Zcd Zb s1.2.2 1) ?_ ?_
  ·conv=>arg 3;whnf
   refine Zk (Zca Zb s1.2.2 [(w64 (x3.pos-s1.1))]) ?_;conv=>arg 3;whnf
   exact Zf (ih _)
  ·exact ZO
 ·exact Zc rfl
theorem ZkX {t0:Bool}{t1:Bool}{t2:Bool}{t3:Bool}{a:Zi}{b:Int}:∀r,(ZfM a b)=some r→evD ctx 65 [(.d (D.agg (dA t0 t1 t2 t3 a))),(.d (Zb b))]=some (Zl7 r):=by
 show ZH _ (fun r rhs=>rhs=some (Zl7 r)) _
 unfold ZfM
 rw[Z8 ctx 65 ZFn _ rfl rfl]
 conv=>arg 3;whnf
 refine Zm _ ZgV rfl fun x0 hx0=>?_;conv=>arg 3;whnf
 refine Ze _ (Znp _) fun r4 hr4=>?_;conv=>arg 3;whnf
 refine Zl rfl rfl fun x5 hx5=>?_;conv=>arg 3;whnf
 refine ZaU rfl ?_;conv=>arg 3;whnf
 refine Zd (Zcd Zb r4.2 1) ?_ ?_
 ·conv=>arg 3;whnf
  refine Zk (Zca Zb r4.2 [(w64 (x5.work-r4.1))]) ?_;conv=>arg 3;whnf
  exact Zc rfl
 ·exact ZO
def ZlS (r:Int):D:=(Zb r)
def Zjk (t0:Bool) (t1:Bool) (t2:Bool) (t3:Bool) (a:Zi) (b:Int):Int→Ex×List V×Zp
  | r=>(.exit 0,[(.d (Zb r))],[])
theorem Zns {t0:Bool}{t1:Bool}{t2:Bool}{t3:Bool}{a:Zi}{b:Int}:∀(s0:Int×Int) (r:Int),lp (Zc4 a b) s0=some r→lpW ctx 0 [1,2,5,6] [5] ZA0 [(.d (Zb b)),(.ptr 0 0),(.d (Zb s0.1)),(.d (Zb s0.2))] [(.cells (dV t0 t1 t2 t3 a))]=some ((Zjk t0 t1 t2 t3 a b) r):=by
 refine Z2 (Zjk t0 t1 t2 t3 a b) ?_
 intro s0 rcl ih
 show ZH _ _ (lpW _ _ _ _ _ _ _)
 unfold Zc4
 rw[Z3]
 conv=>arg 3;whnf
 refine Zd rfl ?_ ?_<;>conv=>arg 3;whnf
 ·refine Zm _ ZkX rfl fun x1 hx1=>?_;conv=>arg 3;whnf
  refine Zk (Zu _ _) ?_;conv=>arg 3;whnf
  exact Zf (ih _)
 ·exact Zc rfl
theorem Zed {t0:Bool}{t1:Bool}{t2:Bool}{t3:Bool}{a:Zi}{b:Int}:∀r,(Zcm a b)=some r→evD ctx 58 [(.d (D.agg (dA t0 t1 t2 t3 a))),(.d (Zb b))]=some (ZlS r):=by
 show ZH _ (fun r rhs=>rhs=some (ZlS r)) _
 unfold Zcm
 rw[Z8 ctx 58 ZD8 _ rfl rfl]
 conv=>arg 3;whnf
 refine Ze _ (Zns _) fun r2 hr2=>?_;conv=>arg 3;whnf
 exact Zc rfl
def Zl6 (r:Int):D:=(Zb r)
theorem Zgd {t0:Bool}{t1:Bool}{t2:Bool}{t3:Bool}{a:Zi}{b:Int}:∀r,(ZdV a b)=some r→evD ctx 32 [(.d (D.agg (dA t0 t1 t2 t3 a))),(.d (Zb b))]=some (Zl6 r):=by
 show ZH _ (fun r rhs=>rhs=some (Zl6 r)) _
 unfold ZdV
 rw[Z8 ctx 32 ZEd _ rfl rfl]
 conv=>arg 3;whnf
 refine Zm _ Zed rfl fun x0 hx0=>?_;conv=>arg 3;whnf
 exact Zc rfl
def ZlV (r:Int):D:=(Zb r)
def ZiR (t0:Bool) (t1:Bool) (t2:Bool) (t3:Bool) (a:Zi) (b:Zj) (x0:(List Int)):(Int⊕Unit)→Ex×List V×Zp
  | (.inl r)=>(.ret,[(.d (Zb r))],[])
  | (.inr r)=>(.exit 0,[.bad],[])
theorem Znv {t0:Bool}{t1:Bool}{t2:Bool}{t3:Bool}{a:Zi}{b:Zj}{x0:(List Int)}:∀(s1:Int) (r:(Int⊕Unit)),lp (Zec a b x0) s1=some r→lpW ctx 0 [2,3,5,6] [4] ZAJ [(.ptr 0 0),(.ptr 1 0),(.d (D.list true (List.map Zb x0))),(.d (Zb s1))] [(.cells (dV t0 t1 t2 t3 a)),(.cells [(.d (Zb b.maker)),(.d (Zb b.user)),(.d (Zb b.pos))])]=some ((ZiR t0 t1 t2 t3 a b x0) r):=by
 refine Z2 (ZiR t0 t1 t2 t3 a b x0) ?_
 intro s1 rcl ih
 show ZH _ _ (lpW _ _ _ _ _ _ _)
 unfold Zec
 rw[Z3]
 conv=>arg 3;whnf
 refine Zk (Zu _ _) ?_;conv=>arg 3;whnf
 refine Zd rfl ?_ ?_<;>conv=>arg 3;whnf
 ·refine Zl rfl rfl fun x2 hx2=>?_;conv=>arg 3;whnf
  refine Zl rfl rfl fun x3 hx3=>?_;conv=>arg 3;whnf
  refine Zd rfl ?_ ?_<;>conv=>arg 3;whnf
  ·refine Zm _ Zed rfl fun x4 hx4=>?_;conv=>arg 3;whnf
   exact Zc rfl
  ·exact Zf (ih _)
 ·exact Zc rfl
theorem Zqf {t0:Bool}{t1:Bool}{t2:Bool}{t3:Bool}{a:Zi}{b:Zj}:∀r,(ZgQ a b)=some r→evD ctx 66 [(.d (D.agg (dA t0 t1 t2 t3 a))),(.d (D.agg [(Zb b.maker),(Zb b.user),(Zb b.pos)]))]=some (ZlV r):=by
 show ZH _ (fun r rhs=>rhs=some (ZlV r)) _
 unfold ZgQ
 rw[Z8 ctx 66 ZEt _ rfl rfl]
 conv=>arg 3;whnf
 refine Zm _ ZgV rfl fun x0 hx0=>?_;conv=>arg 3;whnf
 refine Ze _ (Znv _) fun r5 hr5=>?_
 clear hr5
 rcases r5 with r5 | r5
 ·conv=>arg 3;whnf
  exact Zc rfl
 ·conv=>arg 3;whnf
  exact Zc rfl
def ZlZ (r:ZiA):D:=(D.agg [(D.list true (List.map Zb r.dag.work)),(D.list true (List.map Zx r.dag.edges)),(D.list true (List.map Zap r.pieces))])
def ZiX (t0:Bool) (t1:Bool) (t2:Bool) (t3:Bool) (a:Zi) (s0:Int×(List Zn)×(List Int)×(List Zh)) (x1:(List Int)):((List Zn)×(List Int)×(List Zh))→Ex×List V×Zp
  | r=>(.exit 2,[(.ptr 0 0),(.ptr 1 0),(.ptr 2 0),(.sl 3 2),(.d (Zb s0.1))],[(.cells (dV t0 t1 t2 t3 a)),(.cells [(.sl 4 1),(.sl 5 2),(.sl 6 2)]),(.cells [(.sl 7 1),(.sl 8 2),(.sl 9 2)]),(.arr 2 (List.map Zx r.1)),(.arr 1 []),(.arr 2 []),(.arr 2 []),(.arr 1 (List.map Zb r.2.1)),(.arr 2 []),(.arr 2 (List.map Zap r.2.2))])
theorem ZnL {t0:Bool}{t1:Bool}{t2:Bool}{t3:Bool}{a:Zi}{s0:Int×(List Zn)×(List Int)×(List Zh)}{x1:(List Int)}:∀(s2:Int×(List Zn)×(List Int)×(List Zh)) (r:((List Zn)×(List Int)×(List Zh))),lp (Zc5 a s0 x1) s2=some r→lpW ctx 0 [1,2,3,4,5,6,7] [1,2,3,4,5] ZzQ [(.ptr 0 0),(.ptr 1 0),(.ptr 2 0),(.sl 3 2),(.d (Zb s0.1)),(.d (D.list true (List.map Zb x1))),(.d (Zb s2.1))] [(.cells (dV t0 t1 t2 t3 a)),(.cells [(.sl 4 1),(.sl 5 2),(.sl 6 2)]),(.cells [(.sl 7 1),(.sl 8 2),(.sl 9 2)]),(.arr 2 (List.map Zx s2.2.1)),(.arr 1 []),(.arr 2 []),(.arr 2 []),(.arr 1 (List.map Zb s2.2.2.1)),(.arr 2 []),(.arr 2 (List.map Zap s2.2.2.2))]=some ((ZiX t0 t1 t2 t3 a s0 x1) r):=by
 refine Z2 (ZiX t0 t1 t2 t3 a s0 x1) ?_
 intro s2 rcl ih
 show ZH _ _ (lpW _ _ _ _ _ _ _)
 unfold Zc5
 rw[Z3]
 conv=>arg 3;whnf
 refine Zk (Zu _ _) ?_;conv=>arg 3;whnf
 refine Zd rfl ?_ ?_<;>conv=>arg 3;whnf
 ·refine ZaU rfl ?_;conv=>arg 3;whnf
  refine Zd (Zcd Zap s2.2.2.2 1) ?_ ?_
  ·conv=>arg 3;whnf
   refine Zk (Zca Zap s2.2.2.2 [(Zh.mk s0.1 s2.1)]) ?_;conv=>arg 3;whnf
   refine Zl rfl rfl fun x3 hx3=>?_;conv=>arg 3;whnf
   refine ZaU rfl ?_;conv=>arg 3;whnf
   refine Zd (Zcd Zb s2.2.2.1 1) ?_ ?_
   ·conv=>arg 3;whnf
    refine Zk (Zca Zb s2.2.2.1 [x3]) ?_;conv=>arg 3;whnf
    refine Zd rfl ?_ ?_<;>conv=>arg 3;whnf
    ·refine Zm _ Zed rfl fun x4 hx4=>?_;conv=>arg 3;whnf
     refine Zm _ Zed rfl fun x5 hx5=>?_;conv=>arg 3;whnf
     refine ZaU rfl ?_;conv=>arg 3;whnf
     refine Zd (Zcd Zx s2.2.1 1) ?_ ?_
     ·conv=>arg 3;whnf
      refine Zk (Zca Zx s2.2.1 [(Zn.mk (w64 ((w64 (x4+s2.1))-1)) (w64 (x5+s2.1)))]) ?_;conv=>arg 3;whnf
      exact Zf (ih _)
     ·exact ZO
    ·exact Zf (ih _)
   ·exact ZO
  ·exact ZO
 ·exact Zc rfl
def Zjn (t0:Bool) (t1:Bool) (t2:Bool) (t3:Bool) (a:Zi):((List Zn)×(List Int)×(List Zh))→Ex×List V×Zp
  | r=>(.exit 0,[(.ptr 0 0),(.ptr 1 0),(.ptr 2 0),(.sl 3 2)],[(.cells (dV t0 t1 t2 t3 a)),(.cells [(.sl 4 1),(.sl 5 2),(.sl 6 2)]),(.cells [(.sl 7 1),(.sl 8 2),(.sl 9 2)]),(.arr 2 (List.map Zx r.1)),(.arr 1 []),(.arr 2 []),(.arr 2 []),(.arr 1 (List.map Zb r.2.1)),(.arr 2 []),(.arr 2 (List.map Zap r.2.2))])
theorem ZnQ {t0:Bool}{t1:Bool}{t2:Bool}{t3:Bool}{a:Zi}:∀(s0:Int×(List Zn)×(List Int)×(List Zh)) (r:((List Zn)×(List Int)×(List Zh))),lp (Zdd a) s0=some r→lpW ctx 0 [1,2,3,4,5] [1,2,3,4] ZAs [(.ptr 0 0),(.ptr 1 0),(.ptr 2 0),(.sl 3 2),(.d (Zb s0.1))] [(.cells (dV t0 t1 t2 t3 a)),(.cells [(.sl 4 1),(.sl 5 2),(.sl 6 2)]),(.cells [(.sl 7 1),(.sl 8 2),(.sl 9 2)]),(.arr 2 (List.map Zx s0.2.1)),(.arr 1 []),(.arr 2 []),(.arr 2 []),(.arr 1 (List.map Zb s0.2.2.1)),(.arr 2 []),(.arr 2 (List.map Zap s0.2.2.2))]=some ((Zjn t0 t1 t2 t3 a) r):=by
 refine Z2 (Zjn t0 t1 t2 t3 a) ?_
 intro s0 rcl ih
 show ZH _ _ (lpW _ _ _ _ _ _ _)
 unfold Zdd
 rw[Z3]
 conv=>arg 3;whnf
 refine Zk (Zu _ _) ?_;conv=>arg 3;whnf
 refine Zd rfl ?_ ?_<;>conv=>arg 3;whnf
 ·refine Zm _ ZkX rfl fun x1 hx1=>?_;conv=>arg 3;whnf
  refine Ze _ (ZnL _) fun r6 hr6=>?_;conv=>arg 3;whnf
  exact Zf (ih _)
 ·exact Zc rfl
def ZiW (t0:Bool) (t1:Bool) (t2:Bool) (t3:Bool) (a:Zi) (r7:((List Zn)×(List Int)×(List Zh))):(List Zn)→Ex×List V×Zp
  | r=>(.exit 4,[(.ptr 0 0),(.ptr 1 0),(.ptr 2 0),(.sl 3 2)],[(.cells (dV t0 t1 t2 t3 a)),(.cells [(.sl 4 1),(.sl 5 2),(.sl 6 2)]),(.cells [(.sl 7 1),(.sl 8 2),(.sl 9 2)]),(.arr 2 (List.map Zx r)),(.arr 1 []),(.arr 2 []),(.arr 2 []),(.arr 1 (List.map Zb r7.2.1)),(.arr 2 []),(.arr 2 (List.map Zap r7.2.2))])
theorem ZnE {t0:Bool}{t1:Bool}{t2:Bool}{t3:Bool}{a:Zi}{r7:((List Zn)×(List Int)×(List Zh))}:∀(s8:Int×(List Zn)) (r:(List Zn)),lp (Zda a) s8=some r→lpW ctx 0 [1,2,3,4,8] [1,2,3,4] ZAZ [(.ptr 0 0),(.ptr 1 0),(.ptr 2 0),(.sl 3 2),(.d (Zb s8.1))] [(.cells (dV t0 t1 t2 t3 a)),(.cells [(.sl 4 1),(.sl 5 2),(.sl 6 2)]),(.cells [(.sl 7 1),(.sl 8 2),(.sl 9 2)]),(.arr 2 (List.map Zx s8.2)),(.arr 1 []),(.arr 2 []),(.arr 2 []),(.arr 1 (List.map Zb r7.2.1)),(.arr 2 []),(.arr 2 (List.map Zap r7.2.2))]=some ((ZiW t0 t1 t2 t3 a r7) r):=by
 refine Z2 (ZiW t0 t1 t2 t3 a r7) ?_
 intro s8 rcl ih
 show ZH _ _ (lpW _ _ _ _ _ _ _)
 unfold Zda
 rw[Z3]
 conv=>arg 3;whnf
 refine Zk (Zu _ _) ?_;conv=>arg 3;whnf
 refine Zd rfl ?_ ?_<;>conv=>arg 3;whnf
 ·refine Zl rfl rfl fun x9 hx9=>?_;conv=>arg 3;whnf
  refine Zm _ Zgd rfl fun x10 hx10=>?_;conv=>arg 3;whnf
  refine Zg (Za3 rfl hx9) ?_;conv=>arg 3;whnf
  refine Zm _ Zed rfl fun x11 hx11=>?_;conv=>arg 3;whnf
  refine ZaU rfl ?_;conv=>arg 3;whnf
  refine Zd (Zcd Zx s8.2 1) ?_ ?_
  ·conv=>arg 3;whnf
   refine Zk (Zca Zx s8.2 [(Zn.mk x10 x11)]) ?_;conv=>arg 3;whnf
   exact Zf (ih _)
  ·exact ZO
 ·exact Zc rfl
def Zjv (t0:Bool) (t1:Bool) (t2:Bool) (t3:Bool) (a:Zi) (r7:((List Zn)×(List Int)×(List Zh))):(List Zn)→Ex×List V×Zp
  | r=>(.exit 6,[(.ptr 0 0),(.ptr 1 0),(.ptr 2 0),(.sl 3 2)],[(.cells (dV t0 t1 t2 t3 a)),(.cells [(.sl 4 1),(.sl 5 2),(.sl 6 2)]),(.cells [(.sl 7 1),(.sl 8 2),(.sl 9 2)]),(.arr 2 (List.map Zx r)),(.arr 1 []),(.arr 2 []),(.arr 2 []),(.arr 1 (List.map Zb r7.2.1)),(.arr 2 []),(.arr 2 (List.map Zap r7.2.2))])
theorem ZnG {t0:Bool}{t1:Bool}{t2:Bool}{t3:Bool}{a:Zi}{r7:((List Zn)×(List Int)×(List Zh))}:∀(s13:Int×(List Zn)) (r:(List Zn)),lp (Zc2 a) s13=some r→lpW ctx 0 [1,2,3,4,9] [1,2,3,4] ZzY [(.ptr 0 0),(.ptr 1 0),(.ptr 2 0),(.sl 3 2),(.d (Zb s13.1))] [(.cells (dV t0 t1 t2 t3 a)),(.cells [(.sl 4 1),(.sl 5 2),(.sl 6 2)]),(.cells [(.sl 7 1),(.sl 8 2),(.sl 9 2)]),(.arr 2 (List.map Zx s13.2)),(.arr 1 []),(.arr 2 []),(.arr 2 []),(.arr 1 (List.map Zb r7.2.1)),(.arr 2 []),(.arr 2 (List.map Zap r7.2.2))]=some ((Zjv t0 t1 t2 t3 a r7) r):=by
 refine Z2 (Zjv t0 t1 t2 t3 a r7) ?_
 intro s13 rcl ih
 show ZH _ _ (lpW _ _ _ _ _ _ _)
 unfold Zc2
 rw[Z3]
 conv=>arg 3;whnf
 refine Zk (Zu _ _) ?_;conv=>arg 3;whnf
 refine Zd rfl ?_ ?_<;>conv=>arg 3;whnf
 ·refine Zl rfl rfl fun x14 hx14=>?_;conv=>arg 3;whnf
  refine Zm _ Zgd rfl fun x15 hx15=>?_;conv=>arg 3;whnf
  refine Zg (Za3 rfl hx14) ?_;conv=>arg 3;whnf
  refine Zm _ Zqf rfl fun x16 hx16=>?_;conv=>arg 3;whnf
  refine ZaU rfl ?_;conv=>arg 3;whnf
  refine Zd (Zcd Zx s13.2 1) ?_ ?_
  ·conv=>arg 3;whnf
   refine Zk (Zca Zx s13.2 [(Zn.mk x15 x16)]) ?_;conv=>arg 3;whnf
   exact Zf (ih _)
  ·exact ZO
 ·exact Zc rfl
def Zjz (t0:Bool) (t1:Bool) (t2:Bool) (t3:Bool) (a:Zi) (s18:Int×(List Zn)×(List Int)×(List Zh)) (x19:Zs):(List Zn)→Ex×List V×Zp
  | r=>(.exit 10,[(.ptr 0 0),(.ptr 1 0),(.ptr 2 0),(.sl 3 2),(.d (Zb s18.1)),(.d (Zb (s18.2.2.2.length:Int))),(.ptr 4 0)],[(.cells (dV t0 t1 t2 t3 a)),(.cells [(.sl 5 1),(.sl 6 2),(.sl 7 2)]),(.cells [(.sl 8 1),(.sl 9 2),(.sl 10 2)]),(.arr 2 (List.map Zx r)),(.cells [(.d (D.list true (List.map Zb x19.ins))),(.d (D.list true (List.map Zb x19.outs)))]),(.arr 1 []),(.arr 2 []),(.arr 2 []),(.arr 1 (List.map Zb (s18.2.2.1++[1]))),(.arr 2 []),(.arr 2 (List.map Zap (s18.2.2.2++[(Zh.mk (-1) s18.1)])))])
theorem ZnF {t0:Bool}{t1:Bool}{t2:Bool}{t3:Bool}{a:Zi}{s18:Int×(List Zn)×(List Int)×(List Zh)}{x19:Zs}:∀(s20:Int×(List Zn)) (r:(List Zn)),lp (Zej a s18 x19) s20=some r→lpW ctx 0 [1,2,3,4,10,11,12,13] [1,2,3,4,10,11,12] ZAB [(.ptr 0 0),(.ptr 1 0),(.ptr 2 0),(.sl 3 2),(.d (Zb s18.1)),(.d (Zb (s18.2.2.2.length:Int))),(.ptr 4 0),(.d (Zb s20.1))] [(.cells (dV t0 t1 t2 t3 a)),(.cells [(.sl 5 1),(.sl 6 2),(.sl 7 2)]),(.cells [(.sl 8 1),(.sl 9 2),(.sl 10 2)]),(.arr 2 (List.map Zx s20.2)),(.cells [(.d (D.list true (List.map Zb x19.ins))),(.d (D.list true (List.map Zb x19.outs)))]),(.arr 1 []),(.arr 2 []),(.arr 2 []),(.arr 1 (List.map Zb (s18.2.2.1++[1]))),(.arr 2 []),(.arr 2 (List.map Zap (s18.2.2.2++[(Zh.mk (-1) s18.1)])))]=some ((Zjz t0 t1 t2 t3 a s18 x19) r):=by
 refine Z2 (Zjz t0 t1 t2 t3 a s18 x19) ?_
 intro s20 rcl ih
 show ZH _ _ (lpW _ _ _ _ _ _ _)
 unfold Zej
 rw[Z3]
 conv=>arg 3;whnf
 refine Zk (Zu _ _) ?_;conv=>arg 3;whnf
 refine Zd rfl ?_ ?_<;>conv=>arg 3;whnf
 ·refine Zl rfl rfl fun x21 hx21=>?_;conv=>arg 3;whnf
  refine Zm _ Zgd rfl fun x22 hx22=>?_;conv=>arg 3;whnf
  refine ZaU rfl ?_;conv=>arg 3;whnf
  refine Zd (Zcd Zx s20.2 1) ?_ ?_
  ·conv=>arg 3;whnf
   refine Zk (Zca Zx s20.2 [(Zn.mk x22 (s18.2.2.2.length:Int))]) ?_;conv=>arg 3;whnf
   exact Zf (ih _)
  ·exact ZO
 ·exact Zc rfl
def Zi1 (t0:Bool) (t1:Bool) (t2:Bool) (t3:Bool) (a:Zi) (s18:Int×(List Zn)×(List Int)×(List Zh)) (x19:Zs):(List Zn)→Ex×List V×Zp
  | r=>(.exit 12,[(.ptr 0 0),(.ptr 1 0),(.ptr 2 0),(.sl 3 2),(.d (Zb s18.1))],[(.cells (dV t0 t1 t2 t3 a)),(.cells [(.sl 4 1),(.sl 5 2),(.sl 6 2)]),(.cells [(.sl 7 1),(.sl 8 2),(.sl 9 2)]),(.arr 2 (List.map Zx r)),(.arr 1 []),(.arr 2 []),(.arr 2 []),(.arr 1 (List.map Zb (s18.2.2.1++[1]))),(.arr 2 []),(.arr 2 (List.map Zap (s18.2.2.2++[(Zh.mk (-1) s18.1)])))])
theorem ZnS {t0:Bool}{t1:Bool}{t2:Bool}{t3:Bool}{a:Zi}{s18:Int×(List Zn)×(List Int)×(List Zh)}{x19:Zs}:∀(s24:Int×(List Zn)) (r:(List Zn)),lp (ZdW a s18 x19) s24=some r→lpW ctx 0 [1,2,3,4,10,11,12,14] [1,2,3,4,10] ZBv [(.ptr 0 0),(.ptr 1 0),(.ptr 2 0),(.sl 3 2),(.d (Zb s18.1)),(.d (Zb (s18.2.2.2.length:Int))),(.ptr 4 0),(.d (Zb s24.1))] [(.cells (dV t0 t1 t2 t3 a)),(.cells [(.sl 5 1),(.sl 6 2),(.sl 7 2)]),(.cells [(.sl 8 1),(.sl 9 2),(.sl 10 2)]),(.arr 2 (List.map Zx s24.2)),(.cells [(.d (D.list true (List.map Zb x19.ins))),(.d (D.list true (List.map Zb x19.outs)))]),(.arr 1 []),(.arr 2 []),(.arr 2 []),(.arr 1 (List.map Zb (s18.2.2.1++[1]))),(.arr 2 []),(.arr 2 (List.map Zap (s18.2.2.2++[(Zh.mk (-1) s18.1)])))]=some ((Zi1 t0 t1 t2 t3 a s18 x19) r):=by
 refine Z2 (Zi1 t0 t1 t2 t3 a s18 x19) ?_
 intro s24 rcl ih
 show ZH _ _ (lpW _ _ _ _ _ _ _)
 unfold ZdW
 rw[Z3]
 conv=>arg 3;whnf
 refine Zk (Zu _ _) ?_;conv=>arg 3;whnf
 refine Zd rfl ?_ ?_<;>conv=>arg 3;whnf
 ·refine Zl rfl rfl fun x25 hx25=>?_;conv=>arg 3;whnf
  refine Zm _ Zed rfl fun x26 hx26=>?_;conv=>arg 3;whnf
  refine ZaU rfl ?_;conv=>arg 3;whnf
  refine Zd (Zcd Zx s24.2 1) ?_ ?_
  ·conv=>arg 3;whnf
   refine Zk (Zca Zx s24.2 [(Zn.mk (s18.2.2.2.length:Int) x26)]) ?_;conv=>arg 3;whnf
   exact Zf (ih _)
  ·exact ZO
 ·exact Zc rfl
def Zjo (t0:Bool) (t1:Bool) (t2:Bool) (t3:Bool) (a:Zi):((List Zn)×(List Int)×(List Zh))→Ex×List V×Zp
  | r=>(.exit 8,[(.ptr 0 0),(.ptr 1 0),(.sl 2 2)],[(.cells [(.sl 3 1),(.sl 4 2),(.sl 5 2)]),(.cells [(.sl 6 1),(.sl 7 2),(.sl 8 2)]),(.arr 2 (List.map Zx r.1)),(.arr 1 []),(.arr 2 []),(.arr 2 []),(.arr 1 (List.map Zb r.2.1)),(.arr 2 []),(.arr 2 (List.map Zap r.2.2))])
theorem ZnM {t0:Bool}{t1:Bool}{t2:Bool}{t3:Bool}{a:Zi}:∀(s18:Int×(List Zn)×(List Int)×(List Zh)) (r:((List Zn)×(List Int)×(List Zh))),lp (Zc0 a) s18=some r→lpW ctx 0 [1,2,3,4,10] [2,3,4] ZzT [(.ptr 0 0),(.ptr 1 0),(.ptr 2 0),(.sl 3 2),(.d (Zb s18.1))] [(.cells (dV t0 t1 t2 t3 a)),(.cells [(.sl 4 1),(.sl 5 2),(.sl 6 2)]),(.cells [(.sl 7 1),(.sl 8 2),(.sl 9 2)]),(.arr 2 (List.map Zx s18.2.1)),(.arr 1 []),(.arr 2 []),(.arr 2 []),(.arr 1 (List.map Zb s18.2.2.1)),(.arr 2 []),(.arr 2 (List.map Zap s18.2.2.2))]=some ((Zjo t0 t1 t2 t3 a) r):=by
 refine Z2 (Zjo t0 t1 t2 t3 a) ?_
 intro s18 rcl ih
 show ZH _ _ (lpW _ _ _ _ _ _ _)
 unfold Zc0
 rw[Z3]
 conv=>arg 3;whnf
 refine Zk (Zu _ _) ?_;conv=>arg 3;whnf
 refine Zd rfl ?_ ?_<;>conv=>arg 3;whnf
 ·refine Zk (Zu _ _) ?_;conv=>arg 3;whnf
  refine ZaU rfl ?_;conv=>arg 3;whnf
  refine Zd (Zcd Zap s18.2.2.2 1) ?_ ?_
  ·conv=>arg 3;whnf
   refine Zk (Zca Zap s18.2.2.2 [(Zh.mk (-1) s18.1)]) ?_;conv=>arg 3;whnf
   refine ZaU rfl ?_;conv=>arg 3;whnf
   refine Zd (Zcd Zb s18.2.2.1 1) ?_ ?_
   ·conv=>arg 3;whnf
    refine Zk (Zca Zb s18.2.2.1 [1]) ?_;conv=>arg 3;whnf
    refine Zl rfl rfl fun x19 hx19=>?_;conv=>arg 3;whnf
    refine Ze _ (ZnF _) fun r23 hr23=>?_;conv=>arg 3;whnf
    refine Ze _ (ZnS _) fun r27 hr27=>?_;conv=>arg 3;whnf
    exact Zf (ih _)
   ·exact ZO
  ·exact ZO
 ·exact Zc rfl
theorem Zhw {t0:Bool}{t1:Bool}{t2:Bool}{t3:Bool}{a:Zi}:∀r,(ZeT a)=some r→evD ctx 40 [(.d (D.agg (dA t0 t1 t2 t3 a)))]=some (ZlZ r):=by
 show ZH _ (fun r rhs=>rhs=some (ZlZ r)) _
 unfold ZeT
 rw[Z8 ctx 40 ZDK _ rfl rfl]
 conv=>arg 3;whnf
 refine Ze _ (ZnQ _) fun r7 hr7=>?_;conv=>arg 3;whnf
 refine Ze _ (ZnE _) fun r12 hr12=>?_;conv=>arg 3;whnf
 refine Ze _ (ZnG _) fun r17 hr17=>?_;conv=>arg 3;whnf
 refine Ze _ (ZnM _) fun r28 hr28=>?_;conv=>arg 3;whnf
 exact Zc rfl
def Zmn (r:Bool):D:=(D.bool r)
theorem ZlE {t0:Bool}{t1:Bool}{a:Zal}{b:Int}:∀r,(Zgg a b)=some r→evD ctx 112 [(.d (D.agg [(D.list t0 (List.map Zb a.work)),(D.list t1 (List.map Zx a.edges))])),(.d (Zb b))]=some (Zmn r):=by
 show ZH _ (fun r rhs=>rhs=some (Zmn r)) _
 unfold Zgg
 rw[Z8 ctx 112 ZBN _ rfl rfl]
 conv=>arg 3;whnf
 refine Zd rfl ?_ ?_<;>conv=>arg 3;whnf
 ·refine Zk (Zu _ _) ?_;conv=>arg 3;whnf
  refine Zd rfl ?_ ?_<;>conv=>arg 3;whnf
  ·exact Zc rfl
  ·exact Zc rfl
 ·exact Zc rfl
def ZlW (r:Int):D:=(Zb r)
def Zjj (t0:Bool) (t1:Bool) (a:Zal):(Unit⊕Unit)→Ex×List V×Zp
  | (.inl r)=>(.ret,[(.ptr 0 0),(.d (Zb 41))],[(.cells [(.d (D.list t0 (List.map Zb a.work))),(.d (D.list t1 (List.map Zx a.edges)))])])
  | (.inr r)=>(.exit 0,[(.ptr 0 0),.bad],[(.cells [(.d (D.list t0 (List.map Zb a.work))),(.d (D.list t1 (List.map Zx a.edges)))])])
theorem ZnW {t0:Bool}{t1:Bool}{a:Zal}:∀(s0:Int) (r:(Unit⊕Unit)),lp (ZdY a) s0=some r→lpW ctx 0 [1,3] [1,2] Zzs [(.ptr 0 0),(.d (Zb s0))] [(.cells [(.d (D.list t0 (List.map Zb a.work))),(.d (D.list t1 (List.map Zx a.edges)))])]=some ((Zjj t0 t1 a) r):=by
 refine Z2 (Zjj t0 t1 a) ?_
 intro s0 rcl ih
 show ZH _ _ (lpW _ _ _ _ _ _ _)
 unfold ZdY
 rw[Z3]
 conv=>arg 3;whnf
 refine Zk (Zu _ _) ?_;conv=>arg 3;whnf
 refine Zd rfl ?_ ?_<;>conv=>arg 3;whnf
 ·refine Zl rfl rfl fun x1 hx1=>?_;conv=>arg 3;whnf
  refine Zd rfl ?_ ?_<;>conv=>arg 3;whnf
  ·exact Zc rfl
  ·refine Zg (Za3 rfl hx1) ?_;conv=>arg 3;whnf
   refine Zd rfl ?_ ?_<;>conv=>arg 3;whnf
   ·exact Zc rfl
   ·exact Zf (ih _)
 ·exact Zc rfl
def Zi6 (t0:Bool) (t1:Bool) (a:Zal) (s3:Int) (x4:Zn):(Unit⊕Unit)→Ex×List V×Zp
  | (.inl r)=>(.ret,[(.ptr 0 0),(.d (Zb 42)),(.d (Zb s3))],[(.cells [(.d (D.list t0 (List.map Zb a.work))),(.d (D.list t1 (List.map Zx a.edges)))])])
  | (.inr r)=>(.exit 4,[(.ptr 0 0),.bad,(.d (Zb s3))],[(.cells [(.d (D.list t0 (List.map Zb a.work))),(.d (D.list t1 (List.map Zx a.edges)))])])
theorem Znx {t0:Bool}{t1:Bool}{a:Zal}{s3:Int}{x4:Zn}:∀(s7:Int) (r:(Unit⊕Unit)),lp (Zee a s3 x4) s7=some r→lpW ctx 0 [1,4,5,6] [1,2,4] ZBe [(.ptr 0 0),(.d (Zb s3)),(.ptr 1 0),(.d (Zb s7))] [(.cells [(.d (D.list t0 (List.map Zb a.work))),(.d (D.list t1 (List.map Zx a.edges)))]),(.cells [(.d (Zb x4.src)),(.d (Zb x4.dst))])]=some ((Zi6 t0 t1 a s3 x4) r):=by
 refine Z2 (Zi6 t0 t1 a s3 x4) ?_
 intro s7 rcl ih
 show ZH _ _ (lpW _ _ _ _ _ _ _)
 unfold Zee
 rw[Z3]
 conv=>arg 3;whnf
 refine Zd rfl ?_ ?_<;>conv=>arg 3;whnf
 ·refine Zl rfl rfl fun x8 hx8=>?_;conv=>arg 3;whnf
  refine Zd rfl ?_ ?_<;>conv=>arg 3;whnf
  ·exact Zc rfl
  ·exact Zf (ih _)
 ·exact Zc rfl
def Zjf (t0:Bool) (t1:Bool) (a:Zal):(Unit⊕Unit)→Ex×List V×Zp
  | (.inl r)=>(.ret,[(.d (Zb 42))],[])
  | (.inr r)=>(.exit 2,[.bad],[])
theorem ZnN {t0:Bool}{t1:Bool}{a:Zal}:∀(s3:Int) (r:(Unit⊕Unit)),lp (Zd2 a) s3=some r→lpW ctx 0 [1,4] [2] ZA1 [(.ptr 0 0),(.d (Zb s3))] [(.cells [(.d (D.list t0 (List.map Zb a.work))),(.d (D.list t1 (List.map Zx a.edges)))])]=some ((Zjf t0 t1 a) r):=by
 refine Z2 (Zjf t0 t1 a) ?_
 intro s3 rcl ih
 show ZH _ _ (lpW _ _ _ _ _ _ _)
 unfold Zd2
 rw[Z3]
 conv=>arg 3;whnf
 refine Zk (Zu _ _) ?_;conv=>arg 3;whnf
 refine Zd rfl ?_ ?_<;>conv=>arg 3;whnf
 ·refine Zl rfl rfl fun x4 hx4=>?_;conv=>arg 3;whnf
  refine Zm _ ZlE rfl fun x5 hx5=>?_;conv=>arg 3;whnf
  refine Zd rfl ?_ ?_<;>conv=>arg 3;whnf
  ·refine Zm _ ZlE rfl fun x6 hx6=>?_;conv=>arg 3;whnf
   refine Zd rfl ?_ ?_<;>conv=>arg 3;whnf
   ·refine Zd rfl ?_ ?_<;>conv=>arg 3;whnf
    ·exact Zc rfl
    ·refine Ze _ (Znx _) fun r9 hr9=>?_
     clear hr9
     rcases r9 with r9 | r9
     ·conv=>arg 3;whnf
      exact Zc rfl
     ·conv=>arg 3;whnf
      exact Zf (ih _)
   ·exact Zc rfl
  ·exact Zc rfl
 ·exact Zc rfl
theorem Zqu {t0:Bool}{t1:Bool}{a:Zal}:∀r,(ZgH a)=some r→evD ctx 96 [(.d (D.agg [(D.list t0 (List.map Zb a.work)),(D.list t1 (List.map Zx a.edges))]))]=some (ZlW r):=by
 show ZH _ (fun r rhs=>rhs=some (ZlW r)) _
 unfold ZgH
 rw[Z8 ctx 96 ZD7 _ rfl rfl]
 conv=>arg 3;whnf
 refine Zk (Zu _ _) ?_;conv=>arg 3;whnf
 refine Zd rfl ?_ ?_<;>conv=>arg 3;whnf
 ·exact Zc rfl
 ·refine Zk (Zu _ _) ?_;conv=>arg 3;whnf
  refine Zd rfl ?_ ?_<;>conv=>arg 3;whnf
  ·exact Zc rfl
  ·refine Ze _ (ZnW _) fun r2 hr2=>?_
   clear hr2
   rcases r2 with r2 | r2
   ·conv=>arg 3;whnf
    exact Zc rfl
   ·conv=>arg 3;whnf
    refine Ze _ (ZnN _) fun r10 hr10=>?_
    clear hr10
    rcases r10 with r10 | r10
    ·conv=>arg 3;whnf
     exact Zc rfl
    ·conv=>arg 3;whnf
     exact Zc rfl
def ZlN (r:(List Bool)):D:=(D.list true (List.map D.bool r))
def ZjB (t0:Bool) (t1:Bool) (a:Zal) (b:Int) (s0:Int×(List Bool)):(List Bool)→Ex×List V×Zp
  | r=>(.exit 2,[(.d (Zb b)),(.ptr 0 0),(.sl 1 1),(.d (Zb s0.1))],[(.cells [(.d (D.list t0 (List.map Zb a.work))),(.d (D.list t1 (List.map Zx a.edges)))]),(.arr 1 (List.map D.bool r))])
theorem Znu {t0:Bool}{t1:Bool}{a:Zal}{b:Int}{s0:Int×(List Bool)}:∀(s1:Int×(List Bool)) (r:(List Bool)),lp (Zdf a b) s1=some r→lpW ctx 0 [1,2,5,6,7] [1,2,5,6] Zzj [(.d (Zb b)),(.ptr 0 0),(.sl 1 1),(.d (Zb s0.1)),(.d (Zb s1.1))] [(.cells [(.d (D.list t0 (List.map Zb a.work))),(.d (D.list t1 (List.map Zx a.edges)))]),(.arr 1 (List.map D.bool s1.2))]=some ((ZjB t0 t1 a b s0) r):=by
 refine Z2 (ZjB t0 t1 a b s0) ?_
 intro s1 rcl ih
 show ZH _ _ (lpW _ _ _ _ _ _ _)
 unfold Zdf
 rw[Z3]
 conv=>arg 3;whnf
 refine Zk (Zu _ _) ?_;conv=>arg 3;whnf
 refine Zd rfl ?_ ?_<;>conv=>arg 3;whnf
 ·refine Zl rfl rfl fun x2 hx2=>?_;conv=>arg 3;whnf
  refine Zd rfl ?_ ?_<;>conv=>arg 3;whnf
  ·refine Zl rfl rfl fun x3 hx3=>?_;conv=>arg 3;whnf
   refine Zg (ZB rfl hx3) ?_;conv=>arg 3;whnf
   refine Zk (ZaB D.bool s1.2 x2.dst.toNat true) ?_;conv=>arg 3;whnf
   exact Zf (ih _)
  ·refine Zl rfl rfl fun x4 hx4=>?_;conv=>arg 3;whnf
   refine Zg (ZB rfl hx4) ?_;conv=>arg 3;whnf
   refine Zd rfl ?_ ?_<;>conv=>arg 3;whnf
   ·refine Zl rfl rfl fun x5 hx5=>?_;conv=>arg 3;whnf
    refine Zg (ZB rfl hx5) ?_;conv=>arg 3;whnf
    refine Zk (ZaB D.bool s1.2 x2.dst.toNat true) ?_;conv=>arg 3;whnf
    exact Zf (ih _)
   ·exact Zf (ih _)
 ·exact Zc rfl
def Zjc (t0:Bool) (t1:Bool) (a:Zal) (b:Int):(List Bool)→Ex×List V×Zp
  | r=>(.exit 0,[(.sl 0 1)],[(.arr 1 (List.map D.bool r))])
theorem Znw {t0:Bool}{t1:Bool}{a:Zal}{b:Int}:∀(s0:Int×(List Bool)) (r:(List Bool)),lp (Zc3 a b) s0=some r→lpW ctx 0 [1,2,5,6] [5] ZBs [(.d (Zb b)),(.ptr 0 0),(.sl 1 1),(.d (Zb s0.1))] [(.cells [(.d (D.list t0 (List.map Zb a.work))),(.d (D.list t1 (List.map Zx a.edges)))]),(.arr 1 (List.map D.bool s0.2))]=some ((Zjc t0 t1 a b) r):=by
 refine Z2 (Zjc t0 t1 a b) ?_
 intro s0 rcl ih
 show ZH _ _ (lpW _ _ _ _ _ _ _)
 unfold Zc3
 rw[Z3]
 conv=>arg 3;whnf
 refine Zk (Zu _ _) ?_;conv=>arg 3;whnf
 refine Zd rfl ?_ ?_<;>conv=>arg 3;whnf
 ·refine Ze _ (Znu _) fun r6 hr6=>?_;conv=>arg 3;whnf
  exact Zf (ih _)
 ·exact Zc rfl
theorem Zqm {t0:Bool}{t1:Bool}{a:Zal}{b:Int}:∀r,(ZgP a b)=some r→evD ctx 97 [(.d (D.agg [(D.list t0 (List.map Zb a.work)),(D.list t1 (List.map Zx a.edges))])),(.d (Zb b))]=some (ZlN r):=by
 show ZH _ (fun r rhs=>rhs=some (ZlN r)) _
 unfold ZgP
 rw[Z8 ctx 97 ZEv _ rfl rfl]
 conv=>arg 3;whnf
 refine Zk (Zu _ _) ?_;conv=>arg 3;whnf
 refine Zd rfl ?_ ?_
 ·conv=>arg 3;whnf
  refine Zk (Znc D.bool (false:Bool) (a.work.length:Int)) ?_;conv=>arg 3;whnf
  refine Ze _ (Znw _) fun r7 hr7=>?_;conv=>arg 3;whnf
  exact Zc rfl
 ·exact ZO
def Zl5 (r:Int):D:=(Zb r)
def Zi4 (t0:Bool) (t1:Bool) (a:Zal):(Unit⊕Unit)→Ex×List V×Zp
  | (.inl r)=>(.ret,[(.d (Zb 43))],[])
  | (.inr r)=>(.exit 0,[.bad],[])
theorem ZnD {t0:Bool}{t1:Bool}{a:Zal}:∀(s1:Int) (r:(Unit⊕Unit)),lp (Zd6 a) s1=some r→lpW ctx 0 [1,4] [2] Zz3 [(.ptr 0 0),(.d (Zb s1))] [(.cells [(.d (D.list t0 (List.map Zb a.work))),(.d (D.list t1 (List.map Zx a.edges)))])]=some ((Zi4 t0 t1 a) r):=by
 refine Z2 (Zi4 t0 t1 a) ?_
 intro s1 rcl ih
 show ZH _ _ (lpW _ _ _ _ _ _ _)
 unfold Zd6
 rw[Z3]
 conv=>arg 3;whnf
 refine Zk (Zu _ _) ?_;conv=>arg 3;whnf
 refine Zd rfl ?_ ?_<;>conv=>arg 3;whnf
 ·refine Zm _ Zqm rfl fun x2 hx2=>?_;conv=>arg 3;whnf
  refine Zl rfl rfl fun x3 hx3=>?_;conv=>arg 3;whnf
  refine Zd rfl ?_ ?_<;>conv=>arg 3;whnf
  ·exact Zc rfl
  ·exact Zf (ih _)
 ·exact Zc rfl
theorem Zqc {t0:Bool}{t1:Bool}{a:Zal}:∀r,(Zgw a)=some r→evD ctx 63 [(.d (D.agg [(D.list t0 (List.map Zb a.work)),(D.list t1 (List.map Zx a.edges))]))]=some (Zl5 r):=by
 show ZH _ (fun r rhs=>rhs=some (Zl5 r)) _
 unfold Zgw
 rw[Z8 ctx 63 ZEB _ rfl rfl]
 conv=>arg 3;whnf
 refine Zm _ Zqu rfl fun x0 hx0=>?_;conv=>arg 3;whnf
 refine Zd rfl ?_ ?_<;>conv=>arg 3;whnf
 ·exact Zc rfl
 ·refine Ze _ (ZnD _) fun r4 hr4=>?_
  clear hr4
  rcases r4 with r4 | r4
  ·conv=>arg 3;whnf
   exact Zc rfl
  ·conv=>arg 3;whnf
   exact Zc rfl
def ZlF (r:(ZiA×Int)):D:=(D.tup [(D.agg [(D.list true (List.map Zb r.1.dag.work)),(D.list true (List.map Zx r.1.dag.edges)),(D.list true (List.map Zap r.1.pieces))]),(Zb r.2)])
theorem ZkI {t0:Bool}{t1:Bool}{t2:Bool}{t3:Bool}{a:Zi}:∀r,(ZfE a)=some r→evD ctx 35 [(.d (D.agg (dA t0 t1 t2 t3 a)))]=some (ZlF r):=by
 show ZH _ (fun r rhs=>rhs=some (ZlF r)) _
 unfold ZfE
 rw[Z8 ctx 35 ZEL _ rfl rfl]
 conv=>arg 3;whnf
 refine Zm _ Zqd rfl fun x0 hx0=>?_;conv=>arg 3;whnf
 refine Zd rfl ?_ ?_<;>conv=>arg 3;whnf
 ·exact Zc rfl
 ·refine Zm _ Zhw rfl fun x1 hx1=>?_;conv=>arg 3;whnf
  refine Zm _ Zqc rfl fun x2 hx2=>?_;conv=>arg 3;whnf
  refine Zd rfl ?_ ?_<;>conv=>arg 3;whnf
  ·exact Zc rfl
  ·exact Zc rfl
def ZnY (r:ZF):D:=(D.agg [(D.list true (List.map D.bool r.done)),(D.list true (List.map Zb r.vals))])
theorem ZmJ {t0:Bool}{t1:Bool}{t2:Bool}{t3:Bool}{a:Zi}:∀r,(Zg4 a)=some r→evD ctx 22 [(.d (D.agg (dA t0 t1 t2 t3 a)))]=some (ZnY r):=by
 show ZH _ (fun r rhs=>rhs=some (ZnY r)) _
 unfold Zg4
 rw[Z8 ctx 22 ZEz _ rfl rfl]
 conv=>arg 3;whnf
 refine Zm _ Zhw rfl fun x0 hx0=>?_;conv=>arg 3;whnf
 refine Zk (Zu _ _) ?_;conv=>arg 3;whnf
 refine Zd rfl ?_ ?_
 ·conv=>arg 3;whnf
  refine Zk (Znc D.bool (false:Bool) (x0.pieces.length:Int)) ?_;conv=>arg 3;whnf
  refine Zk (Zu _ _) ?_;conv=>arg 3;whnf
  refine Zd rfl ?_ ?_
  ·conv=>arg 3;whnf
   refine Zk (Znc Zb (0:Int) (a.parts.length:Int)) ?_;conv=>arg 3;whnf
   exact Zc rfl
  ·exact ZO
 ·exact ZO
def Zmo (r:Bool):D:=(D.bool r)
def Zj7 (t0:Bool) (t1:Bool) (a:Zal) (b:Int) (c:Int):(Unit⊕Unit)→Ex×List V×Zp
  | (.inl r)=>(.ret,[(.d (D.bool true))],[])
  | (.inr r)=>(.exit 0,[.bad],[])
theorem ZoR {t0:Bool}{t1:Bool}{a:Zal}{b:Int}{c:Int}:∀(s0:Int) (r:(Unit⊕Unit)),lp (ZeH a b c) s0=some r→lpW ctx 0 [1,2,3,7] [6] ZBK [(.d (Zb b)),(.d (Zb c)),(.ptr 0 0),(.d (Zb s0))] [(.cells [(.d (D.list t0 (List.map Zb a.work))),(.d (D.list t1 (List.map Zx a.edges)))])]=some ((Zj7 t0 t1 a b c) r):=by
 refine Z2 (Zj7 t0 t1 a b c) ?_
 intro s0 rcl ih
 show ZH _ _ (lpW _ _ _ _ _ _ _)
 unfold ZeH
 rw[Z3]
 conv=>arg 3;whnf
 refine Zk (Zu _ _) ?_;conv=>arg 3;whnf
 refine Zd rfl ?_ ?_<;>conv=>arg 3;whnf
 ·refine Zl rfl rfl fun x1 hx1=>?_;conv=>arg 3;whnf
  refine Zd rfl ?_ ?_<;>conv=>arg 3;whnf
  ·refine Zg (Za3 rfl hx1) ?_;conv=>arg 3;whnf
   refine Zd rfl ?_ ?_<;>conv=>arg 3;whnf
   ·exact Zc rfl
   ·exact Zf (ih _)
  ·exact Zf (ih _)
 ·exact Zc rfl
theorem Zq2 {t0:Bool}{t1:Bool}{a:Zal}{b:Int}{c:Int}:∀r,(Zhc a b c)=some r→evD ctx 90 [(.d (D.agg [(D.list t0 (List.map Zb a.work)),(D.list t1 (List.map Zx a.edges))])),(.d (Zb b)),(.d (Zb c))]=some (Zmo r):=by
 show ZH _ (fun r rhs=>rhs=some (Zmo r)) _
 unfold Zhc
 rw[Z8 ctx 90 ZEW _ rfl rfl]
 conv=>arg 3;whnf
 refine Ze _ (ZoR _) fun r2 hr2=>?_
 clear hr2
 rcases r2 with r2 | r2
 ·conv=>arg 3;whnf
  exact Zc rfl
 ·conv=>arg 3;whnf
  exact Zc rfl
def Zl4 (r:(List Int)):D:=(D.list true (List.map Zb r))
def Zjd (t0:Bool) (t1:Bool) (a:Zal) (b:Int):(List Int)→Ex×List V×Zp
  | r=>(.exit 0,[(.sl 0 1)],[(.arr 1 (List.map Zb r))])
theorem Znt {t0:Bool}{t1:Bool}{a:Zal}{b:Int}:∀(s0:Int×(List Int)) (r:(List Int)),lp (Zea a b) s0=some r→lpW ctx 0 [1,2,5,6] [5] ZAb [(.d (Zb b)),(.ptr 0 0),(.sl 1 1),(.d (Zb s0.1))] [(.cells [(.d (D.list t0 (List.map Zb a.work))),(.d (D.list t1 (List.map Zx a.edges)))]),(.arr 1 (List.map Zb s0.2))]=some ((Zjd t0 t1 a b) r):=by
 refine Z2 (Zjd t0 t1 a b) ?_
 intro s0 rcl ih
 show ZH _ _ (lpW _ _ _ _ _ _ _)
 unfold Zea
 rw[Z3]
 conv=>arg 3;whnf
 refine Zk (Zu _ _) ?_;conv=>arg 3;whnf
 refine Zd rfl ?_ ?_<;>conv=>arg 3;whnf
 ·refine Zm _ Zq2 rfl fun x1 hx1=>?_;conv=>arg 3;whnf
  refine Zd rfl ?_ ?_<;>conv=>arg 3;whnf
  ·refine ZaU rfl ?_;conv=>arg 3;whnf
   refine Zd (Zcd Zb s0.2 1) ?_ ?_
   ·conv=>arg 3;whnf
    refine Zk (Zca Zb s0.2 [s0.1]) ?_;conv=>arg 3;whnf
    exact Zf (ih _)
   ·exact ZO
  ·exact Zf (ih _)
 ·exact Zc rfl
theorem Zp4 {t0:Bool}{t1:Bool}{a:Zal}{b:Int}:∀r,(ZgF a b)=some r→evD ctx 57 [(.d (D.agg [(D.list t0 (List.map Zb a.work)),(D.list t1 (List.map Zx a.edges))])),(.d (Zb b))]=some (Zl4 r):=by
 show ZH _ (fun r rhs=>rhs=some (Zl4 r)) _
 unfold ZgF
 rw[Z8 ctx 57 ZE3 _ rfl rfl]
 conv=>arg 3;whnf
 refine Ze _ (Znt _) fun r2 hr2=>?_;conv=>arg 3;whnf
 exact Zc rfl
def Zpr (r:Bool):D:=(D.bool r)
def ZlM (t4:Bool) (t5:Bool) (b:ZF) (c:Int) (x1:(List Int)):(Unit⊕Unit)→Ex×List V×Zp
  | (.inl r)=>(.ret,[(.d (Zb c)),(.ptr 0 0),(.d (D.bool false))],[(.cells [(.d (D.list t4 (List.map D.bool b.done))),(.d (D.list t5 (List.map Zb b.vals)))])])
  | (.inr r)=>(.exit 0,[(.d (Zb c)),(.ptr 0 0),.bad],[(.cells [(.d (D.list t4 (List.map D.bool b.done))),(.d (D.list t5 (List.map Zb b.vals)))])])
theorem Zqx {t4:Bool}{t5:Bool}{b:ZF}{c:Int}{x1:(List Int)}:∀(s2:Int) (r:(Unit⊕Unit)),lp (ZfG b x1) s2=some r→lpW ctx 0 [2,4,7,8] [2,4,6] ZBO [(.d (Zb c)),(.ptr 0 0),(.d (D.list true (List.map Zb x1))),(.d (Zb s2))] [(.cells [(.d (D.list t4 (List.map D.bool b.done))),(.d (D.list t5 (List.map Zb b.vals)))])]=some ((ZlM t4 t5 b c x1) r):=by
 refine Z2 (ZlM t4 t5 b c x1) ?_
 intro s2 rcl ih
 show ZH _ _ (lpW _ _ _ _ _ _ _)
 unfold ZfG
 rw[Z3]
 conv=>arg 3;whnf
 refine Zk (Zu _ _) ?_;conv=>arg 3;whnf
 refine Zd rfl ?_ ?_<;>conv=>arg 3;whnf
 ·refine Zl rfl rfl fun x3 hx3=>?_;conv=>arg 3;whnf
  refine Zl rfl rfl fun x4 hx4=>?_;conv=>arg 3;whnf
  refine Zd rfl ?_ ?_<;>conv=>arg 3;whnf
  ·exact Zf (ih _)
  ·exact Zc rfl
 ·exact Zc rfl
theorem Zn4 {t0:Bool}{t1:Bool}{t2:Bool}{t3:Bool}{t4:Bool}{t5:Bool}{a:Zi}{b:ZF}{c:Int}:∀r,(ZhC a b c)=some r→evD ctx 31 [(.d (D.agg (dA t0 t1 t2 t3 a))),(.d (D.agg [(D.list t4 (List.map D.bool b.done)),(D.list t5 (List.map Zb b.vals))])),(.d (Zb c))]=some (Zpr r):=by
 show ZH _ (fun r rhs=>rhs=some (Zpr r)) _
 unfold ZhC
 rw[Z8 ctx 31 ZEk _ rfl rfl]
 conv=>arg 3;whnf
 refine Zm _ Zhw rfl fun x0 hx0=>?_;conv=>arg 3;whnf
 refine Zm _ Zp4 rfl fun x1 hx1=>?_;conv=>arg 3;whnf
 refine Ze _ (Zqx _) fun r5 hr5=>?_
 clear hr5
 rcases r5 with r5 | r5
 ·conv=>arg 3;whnf
  exact Zc rfl
 ·conv=>arg 3;whnf
  refine Zl rfl rfl fun x6 hx6=>?_;conv=>arg 3;whnf
  refine Zd rfl ?_ ?_<;>conv=>arg 3;whnf
  ·exact Zc rfl
  ·exact Zc rfl
def ZlY (r:(List Int)):D:=(D.list true (List.map Zb r))
def Zi3 (t0:Bool) (t1:Bool) (t2:Bool) (t3:Bool) (t4:Bool) (t5:Bool) (a:Zi) (b:ZF):(List Int)→Ex×List V×Zp
  | r=>(.exit 0,[(.sl 0 1)],[(.arr 1 (List.map Zb r))])
theorem Zny {t0:Bool}{t1:Bool}{t2:Bool}{t3:Bool}{t4:Bool}{t5:Bool}{a:Zi}{b:ZF}:∀(s0:Int×(List Int)) (r:(List Int)),lp (Zef a b) s0=some r→lpW ctx 0 [2,3,5,6] [5] ZAD [(.ptr 0 0),(.ptr 1 0),(.sl 2 1),(.d (Zb s0.1))] [(.cells (dV t0 t1 t2 t3 a)),(.cells [(.d (D.list t4 (List.map D.bool b.done))),(.d (D.list t5 (List.map Zb b.vals)))]),(.arr 1 (List.map Zb s0.2))]=some ((Zi3 t0 t1 t2 t3 t4 t5 a b) r):=by
 refine Z2 (Zi3 t0 t1 t2 t3 t4 t5 a b) ?_
 intro s0 rcl ih
 show ZH _ _ (lpW _ _ _ _ _ _ _)
 unfold Zef
 rw[Z3]
 conv=>arg 3;whnf
 refine Zk (Zu _ _) ?_;conv=>arg 3;whnf
 refine Zd rfl ?_ ?_<;>conv=>arg 3;whnf
 ·refine Zm _ Zn4 rfl fun x1 hx1=>?_;conv=>arg 3;whnf
  refine Zd rfl ?_ ?_<;>conv=>arg 3;whnf
  ·refine ZaU rfl ?_;conv=>arg 3;whnf
   refine Zd (Zcd Zb s0.2 1) ?_ ?_
   ·conv=>arg 3;whnf
    refine Zk (Zca Zb s0.2 [s0.1]) ?_;conv=>arg 3;whnf
    exact Zf (ih _)
   ·exact ZO
  ·exact Zf (ih _)
 ·exact Zc rfl
theorem Zqp {t0:Bool}{t1:Bool}{t2:Bool}{t3:Bool}{t4:Bool}{t5:Bool}{a:Zi}{b:ZF}:∀r,(ZfH a b)=some r→evD ctx 15 [(.d (D.agg (dA t0 t1 t2 t3 a))),(.d (D.agg [(D.list t4 (List.map D.bool b.done)),(D.list t5 (List.map Zb b.vals))]))]=some (ZlY r):=by
 show ZH _ (fun r rhs=>rhs=some (ZlY r)) _
 unfold ZfH
 rw[Z8 ctx 15 ZEY _ rfl rfl]
 conv=>arg 3;whnf
 refine Ze _ (Zny _) fun r2 hr2=>?_;conv=>arg 3;whnf
 exact Zc rfl
def ZlD (r:Int):D:=(Zb r)
def Zjm (t4:Bool) (t5:Bool) (b:ZF) (x0:(ZiA×Int)):(Unit⊕Unit)→Ex×List V×Zp
  | (.inl r)=>(.ret,[(.d (Zb 80))],[])
  | (.inr r)=>(.exit 0,[.bad],[])
theorem Zno {t4:Bool}{t5:Bool}{b:ZF}{x0:(ZiA×Int)}:∀(s1:Int) (r:(Unit⊕Unit)),lp (Zeh b x0) s1=some r→lpW ctx 0 [3,5,7] [4] Zzk [(.ptr 0 0),(.ptr 1 0),(.d (Zb s1))] [(.cells [(.d (D.list t4 (List.map D.bool b.done))),(.d (D.list t5 (List.map Zb b.vals)))]),(.cells [(.d (D.list true (List.map Zb x0.1.dag.work))),(.d (D.list true (List.map Zx x0.1.dag.edges))),(.d (D.list true (List.map Zap x0.1.pieces)))])]=some ((Zjm t4 t5 b x0) r):=by
 refine Z2 (Zjm t4 t5 b x0) ?_
 intro s1 rcl ih
 show ZH _ _ (lpW _ _ _ _ _ _ _)
 unfold Zeh
 rw[Z3]
 conv=>arg 3;whnf
 refine Zk (Zu _ _) ?_;conv=>arg 3;whnf
 refine Zd rfl ?_ ?_<;>conv=>arg 3;whnf
 ·refine Zl rfl rfl fun x2 hx2=>?_;conv=>arg 3;whnf
  refine Zl rfl rfl fun x3 hx3=>?_;conv=>arg 3;whnf
  refine Zd rfl ?_ ?_<;>conv=>arg 3;whnf
  ·refine Zg (Za3 rfl hx2) ?_;conv=>arg 3;whnf
   refine Zl rfl rfl fun x4 hx4=>?_;conv=>arg 3;whnf
   refine Zd rfl ?_ ?_<;>conv=>arg 3;whnf
   ·exact Zf (ih _)
   ·exact Zc rfl
  ·exact Zf (ih _)
 ·exact Zc rfl
theorem Zqi {t0:Bool}{t1:Bool}{t2:Bool}{t3:Bool}{t4:Bool}{t5:Bool}{a:Zi}{b:ZF}:∀r,(Zgu a b)=some r→evD ctx 12 [(.d (D.agg (dA t0 t1 t2 t3 a))),(.d (D.agg [(D.list t4 (List.map D.bool b.done)),(D.list t5 (List.map Zb b.vals))]))]=some (ZlD r):=by
 show ZH _ (fun r rhs=>rhs=some (ZlD r)) _
 unfold Zgu
 rw[Z8 ctx 12 ZEj _ rfl rfl]
 conv=>arg 3;whnf
 refine Zm _ ZkI rfl fun x0 hx0=>?_;conv=>arg 3;whnf
 refine Zd rfl ?_ ?_<;>conv=>arg 3;whnf
 ·exact Zc rfl
 ·refine Zk (Zu _ _) ?_;conv=>arg 3;whnf
  refine Zk (Zu _ _) ?_;conv=>arg 3;whnf
  refine Zd rfl ?_ ?_<;>conv=>arg 3;whnf
  ·exact Zc rfl
  ·refine Zk (Zu _ _) ?_;conv=>arg 3;whnf
   refine Zk (Zu _ _) ?_;conv=>arg 3;whnf
   refine Zd rfl ?_ ?_<;>conv=>arg 3;whnf
   ·exact Zc rfl
   ·refine Ze _ (Zno _) fun r5 hr5=>?_
    clear hr5
    rcases r5 with r5 | r5
    ·conv=>arg 3;whnf
     exact Zc rfl
    ·conv=>arg 3;whnf
     exact Zc rfl
def ZlU (r:(List Int)):D:=(D.list true (List.map Zb r))
def Zju (t0:Bool) (t1:Bool) (t2:Bool) (t3:Bool) (a:Zi) (b:Int):(List Int)→Ex×List V×Zp
  | r=>(.exit 0,[(.d (Zb b)),(.ptr 0 0),(.sl 1 1)],[(.cells (dV t0 t1 t2 t3 a)),(.arr 1 (List.map Zb r))])
theorem Znq {t0:Bool}{t1:Bool}{t2:Bool}{t3:Bool}{a:Zi}{b:Int}:∀(s0:Int×(List Int)) (r:(List Int)),lp (Zgb a b) s0=some r→lpW ctx 0 [1,2,5,6] [1,2,5] ZAz [(.d (Zb b)),(.ptr 0 0),(.sl 1 1),(.d (Zb s0.1))] [(.cells (dV t0 t1 t2 t3 a)),(.arr 1 (List.map Zb s0.2))]=some ((Zju t0 t1 t2 t3 a b) r):=by
 refine Z2 (Zju t0 t1 t2 t3 a b) ?_
 intro s0 rcl ih
 show ZH _ _ (lpW _ _ _ _ _ _ _)
 unfold Zgb
 rw[Z3]
 conv=>arg 3;whnf
 refine Zk (Zu _ _) ?_;conv=>arg 3;whnf
 refine Zd rfl ?_ ?_<;>conv=>arg 3;whnf
 ·refine Zl rfl rfl fun x1 hx1=>?_;conv=>arg 3;whnf
  refine Zd rfl ?_ ?_<;>conv=>arg 3;whnf
  ·refine Zg (Za3 rfl hx1) ?_;conv=>arg 3;whnf
   refine ZaU rfl ?_;conv=>arg 3;whnf
   refine Zd (Zcd Zb s0.2 1) ?_ ?_
   ·conv=>arg 3;whnf
    refine Zk (Zca Zb s0.2 [x1.src]) ?_;conv=>arg 3;whnf
    exact Zf (ih _)
   ·exact ZO
  ·exact Zf (ih _)
 ·exact Zc rfl
def ZjF (t0:Bool) (t1:Bool) (t2:Bool) (t3:Bool) (a:Zi) (x3:(List Int)):(List Int)→Ex×List V×Zp
  | r=>(.exit 2,[(.sl 0 1)],[(.arr 1 (List.map Zb r))])
theorem ZnT {t0:Bool}{t1:Bool}{t2:Bool}{t3:Bool}{a:Zi}{x3:(List Int)}:∀(s4:Int×(List Int)) (r:(List Int)),lp (Zga a x3) s4=some r→lpW ctx 0 [2,5,7,8] [5] Zzt [(.ptr 0 0),(.sl 1 1),(.d (D.list true (List.map Zb x3))),(.d (Zb s4.1))] [(.cells (dV t0 t1 t2 t3 a)),(.arr 1 (List.map Zb s4.2))]=some ((ZjF t0 t1 t2 t3 a x3) r):=by
 refine Z2 (ZjF t0 t1 t2 t3 a x3) ?_
 intro s4 rcl ih
 show ZH _ _ (lpW _ _ _ _ _ _ _)
 unfold Zga
 rw[Z3]
 conv=>arg 3;whnf
 refine Zk (Zu _ _) ?_;conv=>arg 3;whnf
 refine Zd rfl ?_ ?_<;>conv=>arg 3;whnf
 ·refine Zl rfl rfl fun x5 hx5=>?_;conv=>arg 3;whnf
  refine Zl rfl rfl fun x6 hx6=>?_;conv=>arg 3;whnf
  refine ZaU rfl ?_;conv=>arg 3;whnf
  refine Zd (Zcd Zb s4.2 1) ?_ ?_
  ·conv=>arg 3;whnf
   refine Zk (Zca Zb s4.2 [x6.maker]) ?_;conv=>arg 3;whnf
   exact Zf (ih _)
  ·exact ZO
 ·exact Zc rfl
theorem Zqb {t0:Bool}{t1:Bool}{t2:Bool}{t3:Bool}{a:Zi}{b:Int}:∀r,(ZfF a b)=some r→evD ctx 33 [(.d (D.agg (dA t0 t1 t2 t3 a))),(.d (Zb b))]=some (ZlU r):=by
 show ZH _ (fun r rhs=>rhs=some (ZlU r)) _
 unfold ZfF
 rw[Z8 ctx 33 ZE1 _ rfl rfl]
 conv=>arg 3;whnf
 refine Ze _ (Znq _) fun r2 hr2=>?_;conv=>arg 3;whnf
 refine Zm _ ZgV rfl fun x3 hx3=>?_;conv=>arg 3;whnf
 refine Ze _ (ZnT _) fun r7 hr7=>?_;conv=>arg 3;whnf
 exact Zc rfl
def ZlJ (r:Int):D:=(Zb r)
theorem ZcW {a:Int}:∀r,(ZbT a)=some r→evD ctx 60 [(.d (Zb a))]=some (ZlJ r):=by
 show ZH _ (fun r rhs=>rhs=some (ZlJ r)) _
 unfold ZbT
 rw[Z8 ctx 60 ZDH _ rfl rfl]
 conv=>arg 3;whnf
 refine Zaf rfl ?_;conv=>arg 3;whnf
 refine Zd rfl ?_ ?_<;>conv=>arg 3;whnf
 ·exact Zc rfl
 ·exact Zc rfl
def ZlB (r:Int):D:=(Zb r)
theorem ZpU {a:Int}{b:Int}:∀r,(Zgy a b)=some r→evD ctx 61 [(.d (Zb a)),(.d (Zb b))]=some (ZlB r):=by
 show ZH _ (fun r rhs=>rhs=some (ZlB r)) _
 unfold Zgy
 rw[Z8 ctx 61 ZEq _ rfl rfl]
 conv=>arg 3;whnf
 refine Zaf rfl ?_;conv=>arg 3;whnf
 refine Zaf rfl ?_;conv=>arg 3;whnf
 refine Zm _ ZcW rfl fun x0 hx0=>?_;conv=>arg 3;whnf
 refine Zaf rfl ?_;conv=>arg 3;whnf
 refine Zm _ ZcW rfl fun x1 hx1=>?_;conv=>arg 3;whnf
 exact Zc rfl
def Zo2 (r:Int):D:=(Zb r)
def Zl3 (t1:Bool) (a:ZU) (c:(List Int)):Int→Ex×List V×Zp
  | r=>(.exit 1,[(.d (Zb r))],[])
theorem Zgm {t1:Bool}{a:ZU}{c:(List Int)}:∀(s3:Int×Int) (r:Int),lp (Zag a c) s3=some r→lpW ctx 0 [2,3,7,8] [7] ZAh [(.d (D.list t1 (List.map Zb c))),(.ptr 0 0),(.d (Zb s3.1)),(.d (Zb s3.2))] [(.cells [(.d (Zb a.op)),(.d (Zb a.arg)),(.d (Zb a.work))])]=some ((Zl3 t1 a c) r):=by
 refine Z2 (Zl3 t1 a c) ?_
 intro s3 rcl ih
 show ZH _ _ (lpW _ _ _ _ _ _ _)
 unfold Zag
 rw[Z3]
 conv=>arg 3;whnf
 refine Zk (Zu _ _) ?_;conv=>arg 3;whnf
 refine Zd rfl ?_ ?_<;>conv=>arg 3;whnf
 ·refine Zl rfl rfl fun x4 hx4=>?_;conv=>arg 3;whnf
  refine Zm _ ZcW rfl fun x5 hx5=>?_;conv=>arg 3;whnf
  refine Zd rfl ?_ ?_<;>conv=>arg 3;whnf
  ·refine Zm _ ZcW rfl fun x6 hx6=>?_;conv=>arg 3;whnf
   exact Zf (ih _)
  ·refine Zd rfl ?_ ?_<;>conv=>arg 3;whnf
   ·refine Zm _ ZpU rfl fun x7 hx7=>?_;conv=>arg 3;whnf
    exact Zf (ih _)
   ·refine Zd rfl ?_ ?_<;>conv=>arg 3;whnf
    ·exact Zf (ih _)
    ·refine Zd rfl ?_ ?_<;>conv=>arg 3;whnf
     ·refine Zm _ ZcW rfl fun x8 hx8=>?_;conv=>arg 3;whnf
      exact Zf (ih _)
     ·exact Zf (ih _)
 ·exact Zc rfl
theorem ZsW {t0:Bool}{t1:Bool}{a:ZU}{b:(List Int)}{c:(List Int)}:∀r,(ZiV a b c)=some r→evD ctx 34 [(.d (D.agg [(Zb a.op),(Zb a.arg),(Zb a.work)])),(.d (D.list t0 (List.map Zb b))),(.d (D.list t1 (List.map Zb c)))]=some (Zo2 r):=by
 show ZH _ (fun r rhs=>rhs=some (Zo2 r)) _
 unfold ZiV
 rw[Z8 ctx 34 ZEa _ rfl rfl]
 conv=>arg 3;whnf
 refine Zd rfl ?_ ?_<;>conv=>arg 3;whnf
 ·refine Zd rfl ?_ ?_<;>conv=>arg 3;whnf
  ·exact Zc rfl
  ·refine Zk (Zu _ _) ?_;conv=>arg 3;whnf
   refine Zd rfl ?_ ?_<;>conv=>arg 3;whnf
   ·exact Zc rfl
   ·refine Zl rfl rfl fun x0 hx0=>?_;conv=>arg 3;whnf
    refine Zm _ ZcW rfl fun x1 hx1=>?_;conv=>arg 3;whnf
    exact Zc rfl
 ·refine Zd rfl ?_ ?_<;>conv=>arg 3;whnf
  ·refine Zm _ ZcW rfl fun x2 hx2=>?_;conv=>arg 3;whnf
   exact Zc rfl
  ·refine Zd rfl ?_ ?_<;>conv=>arg 3;whnf
   ·exact Zc rfl
   ·refine Zd rfl ?_ ?_<;>conv=>arg 3;whnf
    ·exact Zc rfl
    ·refine Zd rfl ?_ ?_<;>conv=>arg 3;whnf
     ·refine Zd rfl ?_ ?_<;>conv=>arg 3;whnf
      ·refine Ze _ (Zgm _) fun r9 hr9=>?_;conv=>arg 3;whnf
       exact Zc rfl
      ·refine Ze _ (Zgm _) fun r16 hr16=>?_;conv=>arg 3;whnf
       exact Zc rfl
     ·refine Zd rfl ?_ ?_<;>conv=>arg 3;whnf
      ·refine Ze _ (Zgm _) fun r23 hr23=>?_;conv=>arg 3;whnf
       exact Zc rfl
      ·refine Ze _ (Zgm _) fun r30 hr30=>?_;conv=>arg 3;whnf
       exact Zc rfl
def ZkS (r:(ZF×Int)):D:=(D.tup [(D.agg [(D.list true (List.map D.bool r.1.done)),(D.list true (List.map Zb r.1.vals))]),(Zb r.2)])
def Zip (t0:Bool) (t1:Bool) (t2:Bool) (t3:Bool) (t4:Bool) (t5:Bool) (t6:Bool) (a:Zi) (b:(List Int)) (c:ZF) (d:Int) (s4:Int×(List Int)) (x6:(List Int)):(List Int)→Ex×List V×Zp
  | r=>(.exit 2,[(.d (D.list t4 (List.map Zb b))),(.d (Zb d)),(.ptr 0 0),(.ptr 1 0),(.ptr 2 0),(.ptr 3 0),(.d (Zb s4.1)),(.sl 4 1)],[(.cells (dV t0 t1 t2 t3 a)),(.cells [(.d (D.list t5 (List.map D.bool c.done))),(.d (D.list t6 (List.map Zb c.vals)))]),(.cells [(.sl 5 1),(.sl 6 1)]),(.cells [(.sl 7 1),(.sl 8 1)]),(.arr 1 (List.map Zb r)),(.arr 1 []),(.arr 1 []),(.arr 1 (List.map D.bool (List.set c.done d.toNat true))),(.arr 1 (List.map Zb s4.2))])
theorem ZmF {t0:Bool}{t1:Bool}{t2:Bool}{t3:Bool}{t4:Bool}{t5:Bool}{t6:Bool}{a:Zi}{b:(List Int)}{c:ZF}{d:Int}{s4:Int×(List Int)}{x6:(List Int)}:∀(s7:Int×(List Int)) (r:(List Int)),lp (Zdy c x6) s7=some r→lpW ctx 0 [1,3,4,6,8,11,12,13,14,15] [1,3,4,6,8,11,12,13] ZBI [(.d (D.list t4 (List.map Zb b))),(.d (Zb d)),(.ptr 0 0),(.ptr 1 0),(.ptr 2 0),(.ptr 3 0),(.d (Zb s4.1)),(.sl 4 1),(.d (D.list true (List.map Zb x6))),(.d (Zb s7.1))] [(.cells (dV t0 t1 t2 t3 a)),(.cells [(.d (D.list t5 (List.map D.bool c.done))),(.d (D.list t6 (List.map Zb c.vals)))]),(.cells [(.sl 5 1),(.sl 6 1)]),(.cells [(.sl 7 1),(.sl 8 1)]),(.arr 1 (List.map Zb s7.2)),(.arr 1 []),(.arr 1 []),(.arr 1 (List.map D.bool (List.set c.done d.toNat true))),(.arr 1 (List.map Zb s4.2))]=some ((Zip t0 t1 t2 t3 t4 t5 t6 a b c d s4 x6) r):=by
 refine Z2 (Zip t0 t1 t2 t3 t4 t5 t6 a b c d s4 x6) ?_
 intro s7 rcl ih
 show ZH _ _ (lpW _ _ _ _ _ _ _)
 unfold Zdy
 rw[Z3]
 conv=>arg 3;whnf
 refine Zk (Zu _ _) ?_;conv=>arg 3;whnf
 refine Zd rfl ?_ ?_<;>conv=>arg 3;whnf
 ·refine Zl rfl rfl fun x8 hx8=>?_;conv=>arg 3;whnf
  refine Zl rfl rfl fun x9 hx9=>?_;conv=>arg 3;whnf
  refine ZaU rfl ?_;conv=>arg 3;whnf
  refine Zd (Zcd Zb s7.2 1) ?_ ?_
  ·conv=>arg 3;whnf
   refine Zk (Zca Zb s7.2 [x9]) ?_;conv=>arg 3;whnf
   exact Zf (ih _)
  ·exact ZO
 ·exact Zc rfl
def Zio (t0:Bool) (t1:Bool) (t2:Bool) (t3:Bool) (t4:Bool) (t5:Bool) (t6:Bool) (a:Zi) (b:(List Int)) (c:ZF) (d:Int):(List Int)→Ex×List V×Zp
  | r=>(.exit 0,[(.ptr 0 0),(.ptr 1 0)],[(.cells [(.sl 2 1),(.sl 3 1)]),(.cells [(.sl 4 1),(.sl 5 1)]),(.arr 1 []),(.arr 1 []),(.arr 1 (List.map D.bool (List.set c.done d.toNat true))),(.arr 1 (List.map Zb r))])
theorem ZmS {t0:Bool}{t1:Bool}{t2:Bool}{t3:Bool}{t4:Bool}{t5:Bool}{t6:Bool}{a:Zi}{b:(List Int)}{c:ZF}{d:Int}:∀(s4:Int×(List Int)) (r:(List Int)),lp (Zb8 a b c d) s4=some r→lpW ctx 0 [1,3,4,6,8,11,12] [8,11] ZAx [(.d (D.list t4 (List.map Zb b))),(.d (Zb d)),(.ptr 0 0),(.ptr 1 0),(.ptr 2 0),(.ptr 3 0),(.d (Zb s4.1))] [(.cells (dV t0 t1 t2 t3 a)),(.cells [(.d (D.list t5 (List.map D.bool c.done))),(.d (D.list t6 (List.map Zb c.vals)))]),(.cells [(.sl 4 1),(.sl 5 1)]),(.cells [(.sl 6 1),(.sl 7 1)]),(.arr 1 []),(.arr 1 []),(.arr 1 (List.map D.bool (List.set c.done d.toNat true))),(.arr 1 (List.map Zb s4.2))]=some ((Zio t0 t1 t2 t3 t4 t5 t6 a b c d) r):=by
 refine Z2 (Zio t0 t1 t2 t3 t4 t5 t6 a b c d) ?_
 intro s4 rcl ih
 show ZH _ _ (lpW _ _ _ _ _ _ _)
 unfold Zb8
 rw[Z3]
 conv=>arg 3;whnf
 refine Zk (Zu _ _) ?_;conv=>arg 3;whnf
 refine Zd rfl ?_ ?_<;>conv=>arg 3;whnf
 ·refine Zm _ Zgd rfl fun x5 hx5=>?_;conv=>arg 3;whnf
  refine Zd rfl ?_ ?_<;>conv=>arg 3;whnf
  ·exact Zf (ih _)
  ·refine Zm _ Zqb rfl fun x6 hx6=>?_;conv=>arg 3;whnf
   refine Ze _ (ZmF _) fun r10 hr10=>?_;conv=>arg 3;whnf
   refine Zl rfl rfl fun x11 hx11=>?_;conv=>arg 3;whnf
   refine Zm _ ZsW rfl fun x12 hx12=>?_;conv=>arg 3;whnf
   refine Zl rfl rfl fun x13 hx13=>?_;conv=>arg 3;whnf
   refine Zg (ZB rfl hx13) ?_;conv=>arg 3;whnf
   refine Zk (ZaB Zb s4.2 s4.1.toNat x12) ?_;conv=>arg 3;whnf
   exact Zf (ih _)
 ·exact Zc rfl
theorem Zpz {t0:Bool}{t1:Bool}{t2:Bool}{t3:Bool}{t4:Bool}{t5:Bool}{t6:Bool}{a:Zi}{b:(List Int)}{c:ZF}{d:Int}:∀r,(Zfc a b c d)=some r→evD ctx 11 [(.d (D.agg (dA t0 t1 t2 t3 a))),(.d (D.list t4 (List.map Zb b))),(.d (D.agg [(D.list t5 (List.map D.bool c.done)),(D.list t6 (List.map Zb c.vals))])),(.d (Zb d))]=some (ZkS r):=by
 show ZH _ (fun r rhs=>rhs=some (ZkS r)) _
 unfold Zfc
 rw[Z8 ctx 11 ZE4 _ rfl rfl]
 conv=>arg 3;whnf
 refine Zm _ Zqi rfl fun x0 hx0=>?_;conv=>arg 3;whnf
 refine Zd rfl ?_ ?_<;>conv=>arg 3;whnf
 ·exact Zc rfl
 ·refine Zd rfl ?_ ?_<;>conv=>arg 3;whnf
  ·exact Zc rfl
  ·refine Zk (Zu _ _) ?_;conv=>arg 3;whnf
   refine Zd rfl ?_ ?_<;>conv=>arg 3;whnf
   ·exact Zc rfl
   ·refine Zl rfl rfl fun x1 hx1=>?_;conv=>arg 3;whnf
    refine Zd rfl ?_ ?_<;>conv=>arg 3;whnf
    ·exact Zc rfl
    ·refine Zm _ Zn4 rfl fun x2 hx2=>?_;conv=>arg 3;whnf
     refine Zd rfl ?_ ?_<;>conv=>arg 3;whnf
     ·refine ZaU (ZgK (f:=D.bool) (fun _=>⟨rfl,rfl⟩) c.done 0) ?_;conv=>arg 3;whnf
      refine Zd (ZgI D.bool c.done) ?_ ?_
      ·conv=>arg 3;whnf
       refine Zk (rfl:_=List.map D.bool c.done) ?_;conv=>arg 3;whnf
       refine ZaU (ZgK (f:=Zb) (fun _=>⟨rfl,rfl⟩) c.vals 0) ?_;conv=>arg 3;whnf
       refine Zd (ZgI Zb c.vals) ?_ ?_
       ·conv=>arg 3;whnf
        refine Zk (rfl:_=List.map Zb c.vals) ?_;conv=>arg 3;whnf
        refine Zg (Za3 rfl hx1) ?_;conv=>arg 3;whnf
        refine ZC5 rfl rfl fun x3 hx3=>?_;conv=>arg 3;whnf
        refine Zk (ZaB D.bool c.done d.toNat true) ?_;conv=>arg 3;whnf
        refine Ze _ (ZmS _) fun r14 hr14=>?_;conv=>arg 3;whnf
        exact Zc rfl
       ·exact ZO
      ·exact ZO
     ·exact Zc rfl
def Zok (r:((List Int)×Int)):D:=(D.tup [(D.list true (List.map Zb r.1)),(Zb r.2)])
def ZkT (t0:Bool) (t1:Bool) (t2:Bool) (t3:Bool) (t4:Bool) (a:Zi) (b:(List Int)):((List Bool)×(List Int))→Ex×List V×Zp
  | r=>(.exit 0,[(.ptr 0 0)],[(.cells [(.d (D.list true (List.map D.bool r.1))),(.d (D.list true (List.map Zb r.2)))])])
theorem ZoY {t0:Bool}{t1:Bool}{t2:Bool}{t3:Bool}{t4:Bool}{a:Zi}{b:(List Int)}:∀(s2:Int×(List Bool)×(List Int)) (r:((List Bool)×(List Int))),lp (Zex a b) s2=some r→lpW ctx 0 [1,2,8,9] [8] ZBr [(.d (D.list t4 (List.map Zb b))),(.ptr 0 0),(.ptr 1 0),(.d (Zb s2.1))] [(.cells (dV t0 t1 t2 t3 a)),(.cells [(.d (D.list true (List.map D.bool s2.2.1))),(.d (D.list true (List.map Zb s2.2.2)))])]=some ((ZkT t0 t1 t2 t3 t4 a b) r):=by
 refine Z2 (ZkT t0 t1 t2 t3 t4 a b) ?_
 intro s2 rcl ih
 show ZH _ _ (lpW _ _ _ _ _ _ _)
 unfold Zex
 rw[Z3]
 conv=>arg 3;whnf
 refine Zk (Zu _ _) ?_;conv=>arg 3;whnf
 refine Zd rfl ?_ ?_<;>conv=>arg 3;whnf
 ·refine Zm _ Zqp rfl fun x3 hx3=>?_;conv=>arg 3;whnf
  refine Zk (Zu _ _) ?_;conv=>arg 3;whnf
  refine Zd rfl ?_ ?_<;>conv=>arg 3;whnf
  ·refine Zk (Zu _ _) ?_;conv=>arg 3;whnf
   refine Zl rfl rfl fun x4 hx4=>?_;conv=>arg 3;whnf
   refine Zm _ Zpz rfl fun x5 hx5=>?_;conv=>arg 3;whnf
   exact Zf (ih _)
  ·exact Zf (ih _)
 ·exact Zc rfl
theorem Zrv {t0:Bool}{t1:Bool}{t2:Bool}{t3:Bool}{t4:Bool}{a:Zi}{b:(List Int)}:∀r,(Zf0 a b)=some r→evD ctx 20 [(.d (D.agg (dA t0 t1 t2 t3 a))),(.d (D.list t4 (List.map Zb b)))]=some (Zok r):=by
 show ZH _ (fun r rhs=>rhs=some (Zok r)) _
 unfold Zf0
 rw[Z8 ctx 20 ZEo _ rfl rfl]
 conv=>arg 3;whnf
 refine Zm _ ZkI rfl fun x0 hx0=>?_;conv=>arg 3;whnf
 refine Zd rfl ?_ ?_<;>conv=>arg 3;whnf
 ·exact Zc rfl
 ·refine Zm _ ZmJ rfl fun x1 hx1=>?_;conv=>arg 3;whnf
  refine Ze _ (ZoY _) fun r6 hr6=>?_;conv=>arg 3;whnf
  exact Zc rfl
def Zlz (r:Bool):D:=(D.bool r)
def Zjg (t0:Bool) (t1:Bool) (a:(List Bool)) (b:(List Bool)):(Unit⊕Unit)→Ex×List V×Zp
  | (.inl r)=>(.ret,[(.d (D.bool false))],[])
  | (.inr r)=>(.exit 0,[.bad],[])
theorem ZnP {t0:Bool}{t1:Bool}{a:(List Bool)}{b:(List Bool)}:∀(s0:Int) (r:(Unit⊕Unit)),lp (Zd1 a b) s0=some r→lpW ctx 0 [0,1,5] [4] ZzN [(.d (D.list t0 (List.map D.bool a))),(.d (D.list t1 (List.map D.bool b))),(.d (Zb s0))] []=some ((Zjg t0 t1 a b) r):=by
 refine Z2 (Zjg t0 t1 a b) ?_
 intro s0 rcl ih
 show ZH _ _ (lpW _ _ _ _ _ _ _)
 unfold Zd1
 rw[Z3]
 conv=>arg 3;whnf
 refine Zk (Zu _ _) ?_;conv=>arg 3;whnf
 refine Zd rfl ?_ ?_<;>conv=>arg 3;whnf
 ·refine Zl rfl rfl fun x1 hx1=>?_;conv=>arg 3;whnf
  refine Zd rfl ?_ ?_<;>conv=>arg 3;whnf
  ·refine Zl rfl rfl fun x2 hx2=>?_;conv=>arg 3;whnf
   refine Zd rfl ?_ ?_<;>conv=>arg 3;whnf
   ·refine Zaf rfl ?_;conv=>arg 3;whnf
    exact Zf (ih _)
   ·refine ZaU rfl ?_;conv=>arg 3;whnf
    exact Zc rfl
  ·refine Zl rfl rfl fun x3 hx3=>?_;conv=>arg 3;whnf
   refine Zd rfl ?_ ?_<;>conv=>arg 3;whnf
   ·refine ZaU rfl ?_;conv=>arg 3;whnf
    exact Zc rfl
   ·refine Zaf rfl ?_;conv=>arg 3;whnf
    exact Zf (ih _)
 ·exact Zc rfl
theorem Zp7 {t0:Bool}{t1:Bool}{a:(List Bool)}{b:(List Bool)}:∀r,(ZgB a b)=some r→evD ctx 36 [(.d (D.list t0 (List.map D.bool a))),(.d (D.list t1 (List.map D.bool b)))]=some (Zlz r):=by
 show ZH _ (fun r rhs=>rhs=some (Zlz r)) _
 unfold ZgB
 rw[Z8 ctx 36 ZE5 _ rfl rfl]
 conv=>arg 3;whnf
 refine Zk (Zu _ _) ?_;conv=>arg 3;whnf
 refine Zk (Zu _ _) ?_;conv=>arg 3;whnf
 refine Zd rfl ?_ ?_<;>conv=>arg 3;whnf
 ·exact Zc rfl
 ·refine Ze _ (ZnP _) fun r4 hr4=>?_
  clear hr4
  rcases r4 with r4 | r4
  ·conv=>arg 3;whnf
   exact Zc rfl
  ·conv=>arg 3;whnf
   exact Zc rfl
def Zm1 (r:Bool):D:=(D.bool r)
def ZjQ (t0:Bool) (t1:Bool) (a:(List Int)) (b:(List Int)):(Unit⊕Unit)→Ex×List V×Zp
  | (.inl r)=>(.ret,[(.d (D.bool false))],[])
  | (.inr r)=>(.exit 0,[.bad],[])
theorem ZoP {t0:Bool}{t1:Bool}{a:(List Int)}{b:(List Int)}:∀(s0:Int) (r:(Unit⊕Unit)),lp (ZeE a b) s0=some r→lpW ctx 0 [0,1,5] [4] ZAL [(.d (D.list t0 (List.map Zb a))),(.d (D.list t1 (List.map Zb b))),(.d (Zb s0))] []=some ((ZjQ t0 t1 a b) r):=by
 refine Z2 (ZjQ t0 t1 a b) ?_
 intro s0 rcl ih
 show ZH _ _ (lpW _ _ _ _ _ _ _)
 unfold ZeE
 rw[Z3]
 conv=>arg 3;whnf
 refine Zk (Zu _ _) ?_;conv=>arg 3;whnf
 refine Zd rfl ?_ ?_<;>conv=>arg 3;whnf
 ·refine Zl rfl rfl fun x1 hx1=>?_;conv=>arg 3;whnf
  refine Zl rfl rfl fun x2 hx2=>?_;conv=>arg 3;whnf
  refine Zd rfl ?_ ?_<;>conv=>arg 3;whnf
  ·exact Zc rfl
  ·exact Zf (ih _)
 ·exact Zc rfl
theorem Zly {t0:Bool}{t1:Bool}{a:(List Int)}{b:(List Int)}:∀r,(Zgj a b)=some r→evD ctx 14 [(.d (D.list t0 (List.map Zb a))),(.d (D.list t1 (List.map Zb b)))]=some (Zm1 r):=by
 show ZH _ (fun r rhs=>rhs=some (Zm1 r)) _
 unfold Zgj
 rw[Z8 ctx 14 ZFh _ rfl rfl]
 conv=>arg 3;whnf
 refine Zk (Zu _ _) ?_;conv=>arg 3;whnf
 refine Zk (Zu _ _) ?_;conv=>arg 3;whnf
 refine Zd rfl ?_ ?_<;>conv=>arg 3;whnf
 ·exact Zc rfl
 ·refine Ze _ (ZoP _) fun r3 hr3=>?_
  clear hr3
  rcases r3 with r3 | r3
  ·conv=>arg 3;whnf
   exact Zc rfl
  ·conv=>arg 3;whnf
   exact Zc rfl
def Zmk (r:Bool):D:=(D.bool r)
theorem Zl2 {t0:Bool}{t1:Bool}{t2:Bool}{t3:Bool}{a:ZF}{b:ZF}:∀r,(Zgl a b)=some r→evD ctx 16 [(.d (D.agg [(D.list t0 (List.map D.bool a.done)),(D.list t1 (List.map Zb a.vals))])),(.d (D.agg [(D.list t2 (List.map D.bool b.done)),(D.list t3 (List.map Zb b.vals))]))]=some (Zmk r):=by
 show ZH _ (fun r rhs=>rhs=some (Zmk r)) _
 unfold Zgl
 rw[Z8 ctx 16 ZFe _ rfl rfl]
 conv=>arg 3;whnf
 refine Zm _ Zp7 rfl fun x0 hx0=>?_;conv=>arg 3;whnf
 refine Zd rfl ?_ ?_<;>conv=>arg 3;whnf
 ·refine Zm _ Zly rfl fun x1 hx1=>?_;conv=>arg 3;whnf
  refine Zd rfl ?_ ?_<;>conv=>arg 3;whnf
  ·exact Zc rfl
  ·exact Zc rfl
 ·exact Zc rfl
def Zjy (r:Bool):D:=(D.bool r)
theorem ZnX {t0:Bool}{t1:Bool}{t2:Bool}{t3:Bool}{t4:Bool}{a:Zi}{b:(List Int)}:∀r,(Zgh a b)=some r→evD ctx 4 [(.d (D.agg (dA t0 t1 t2 t3 a))),(.d (D.list t4 (List.map Zb b)))]=some (Zjy r):=by
 show ZH _ (fun r rhs=>rhs=some (Zjy r)) _
 unfold Zgh
 rw[Z8 ctx 4 fn4 _ rfl rfl]
 conv=>arg 3;whnf
 refine Zm _ ZhG rfl fun x0 hx0=>?_;conv=>arg 3;whnf
 refine Zd rfl ?_ ?_<;>conv=>arg 3;whnf
 ·refine Zm _ Zss rfl fun x1 hx1=>?_;conv=>arg 3;whnf
  refine Zd rfl ?_ ?_<;>conv=>arg 3;whnf
  ·refine Ze _ Zmq fun x2 hx2=>?_;conv=>arg 3;whnf
   refine ZaU (ZgK (f:=Zb) (fun _=>⟨rfl,rfl⟩) b 0) ?_;conv=>arg 3;whnf
   refine Zd (ZgI Zb b) ?_ ?_
   ·conv=>arg 3;whnf
    refine Zk (rfl:_=List.map Zb b) ?_;conv=>arg 3;whnf
    refine Zm _ ZsX rfl fun x3 hx3=>?_;conv=>arg 3;whnf
    refine Zm _ Zrv rfl fun x4 hx4=>?_;conv=>arg 3;whnf
    refine Ze _ Zmq fun x5 hx5=>?_;conv=>arg 3;whnf
    refine Zm _ Zn8 rfl fun x6 hx6=>?_;conv=>arg 3;whnf
    refine Zd rfl ?_ ?_<;>conv=>arg 3;whnf
    ·refine Zk (Zu _ _) ?_;conv=>arg 3;whnf
     refine Zd rfl ?_ ?_<;>conv=>arg 3;whnf
     ·refine Zd rfl ?_ ?_<;>conv=>arg 3;whnf
      ·refine Zd rfl ?_ ?_<;>conv=>arg 3;whnf
       ·refine Zm _ Zl2 rfl fun x7 hx7=>?_;conv=>arg 3;whnf
        refine Zd rfl ?_ ?_<;>conv=>arg 3;whnf
        ·exact Zc rfl
        ·exact Zc rfl
       ·exact Zc rfl
      ·exact Zc rfl
     ·exact Zc rfl
    ·refine Zm _ Zly rfl fun x8 hx8=>?_;conv=>arg 3;whnf
     refine Zd rfl ?_ ?_<;>conv=>arg 3;whnf
     ·refine Zd rfl ?_ ?_<;>conv=>arg 3;whnf
      ·refine Zd rfl ?_ ?_<;>conv=>arg 3;whnf
       ·refine Zm _ ZmJ rfl fun x9 hx9=>?_;conv=>arg 3;whnf
        refine Zm _ Zl2 rfl fun x10 hx10=>?_;conv=>arg 3;whnf
        refine Zd rfl ?_ ?_<;>conv=>arg 3;whnf
        ·exact Zc rfl
        ·exact Zc rfl
       ·exact Zc rfl
      ·exact Zc rfl
     ·exact Zc rfl
   ·exact ZO
  ·refine Zm _ ZhG rfl fun x11 hx11=>?_;conv=>arg 3;whnf
   refine Zd rfl ?_ ?_<;>conv=>arg 3;whnf
   ·exact Zc rfl
   ·exact Zc rfl
 ·refine Zm _ ZhG rfl fun x12 hx12=>?_;conv=>arg 3;whnf
  refine Zd rfl ?_ ?_<;>conv=>arg 3;whnf
  ·exact Zc rfl
  ·exact Zc rfl
end Go.Proofs.YtnmbdjkbaihicaaGreatDoor
namespace Go.Proofs.YtnmbdjkbaihicaaGreatDoor
open Go Go.Proofs.YtnmbdjkbaihicaaGreatDoorE
abbrev Zvr:List Lf×Bool:=([.int .i64,.int .i64,.sl true [.int .i64,.int .i64,.int .i64],.sl true [.int .i64,.int .i64],.sl true [.int .i64,.int .i64,.int .i64],.sl true [.sl false [.int .i64],.sl false [.int .i64]]],true)
abbrev Zu5:List Lf×Bool:=([.sl false [.int .i64]],false)
end Go.Proofs.YtnmbdjkbaihicaaGreatDoor
namespace Go.Proofs.YtnmbdjkbaihicaaGreatDoor
open Go Go.Proofs.YtnmbdjkbaihicaaGreatDoorE
set_option linter.unusedVariables false
set_option linter.unusedSimpArgs false
theorem Zt3 (d:Zi) (input:List Int) (wi:Zkh input):Zgh d input=some true:=by
 have aw:ZgA=some true:=rfl
 unfold Zgh
 simp only[aw,Option.bind_some,cond_true,ZE8]
 cases hf:(few d&&(decide ((input.length:Int)≤60)&&(decide (((ZF.mk [] []).done.length:Int)≤70)&&decide (((ZF.mk [] []).vals.length:Int)≤70)))) with
 | false=>rfl
 | true=>
  obtain⟨hz,hi,_,_⟩:=ZC0 hf
  simp only[cond_true,ZG4 d hz,Option.bind_some,Zfn (show input.length≤1073741824 by omega),show Zi.mk d.period d.deadline d.parts d.edges d.futures d.barriers=d from rfl,ZtZ hz]
  by_cases hl:ZfW d
  ·obtain⟨l,T,hrun⟩:=(Zyd hz input (by omega)).2 hl
   obtain⟨v1,a1⟩:=ZCq hz.short hl input T
   obtain⟨m,v2,a2,hr⟩:=ZAR hz hl input (by omega) wi
   have same:(ZtX d input (Zji d) l).vals=m.vals:=Zyv hz.short hl v1 v2 a1 a2
   have hp:=(Ze9 hl.1).pl
   have hn64:ZcD d≤64:=(Zdx hl.2).1.wl
   have hlen:(ZtX d input (Zji d) l).vals.length<9223372036854775808:=by rw[v1.o.v];omega
   rw[hrun,hr,if_pos hl]
   simp only[Option.bind_some,bne_self_eq_false,cond_false,Zs8 _ _ hlen,decide_eq_true same,cond_true,beq_self_eq_true,Zu6 hz hl]
   rw[Zsh _ _ (by simp;omega) (by simp;omega)]
   simp[Zji]
  ·have hne:=(Znk hl).2
   rw[(Zyd hz input (by omega)).1 hl,Zxc hz hl,if_neg hl]
   simp only[Option.bind_some]
   rw[show((Zmb d).2 != 0)=true by simpa using hne]
   simp only[cond_true,List.length_nil,beq_self_eq_true]
   rw[Zsh _ _ (by simp) (by simp)]
   rfl
theorem ZvZ (xs:List D) (h:ZhQ Zvr.1 xs) (ys:List D) (k:ZhQ Zu5.1 ys) :
  ∃H',evW ctx 4 (ZcZ [ZvG Zvr.2 xs,ZvG Zu5.2 ys]) []=some (.d (.bool true),H'):=by
 obtain⟨d,hd,_⟩:=ZCd h
 obtain⟨a,ha,oka⟩:=ZCG k
 show ∃H',evW ctx 4 [.d (D.agg xs),.d (ZvG false ys)] []=_
 rw[hd,ha]
 exact ZB2 (ZnX true (Zt3 d a oka.2))
end Go.Proofs.YtnmbdjkbaihicaaGreatDoor
namespace Go.Proofs.YtnmbdjkbaihicaaGreatDoor.LawEvalRuns
open Go.ChangeShapes Go.WideShapes Go.ChangeAt Go.RowKit Go.Proofs.YtnmbdjkbaihicaaGreatDoorE
set_option linter.unusedVariables false
theorem own:ownKnob Tryz.prog.godebug=none:=by kernel_rfl
theorem ZxY:laidOutB Tryz.prog=true:=by kernel_rfl
def ZsQ : List (String × DataW Unit) := [("math/bits.deBruijn32tab", Rows.laid_math_bits_deBruijn32tab), ("math/bits.deBruijn64tab", Rows.laid_math_bits_deBruijn64tab)]
theorem ZBz (os:Os) (args:Array Value):laidMetH Tryz.prog ZsQ ((World.doorLaid Tryz.prog 19 os).forCall (fun _ _=>0) ⟨#[],args,[]⟩).memory:=
 laidMetH_of_parts3 (fuel:=8) (laidMet_of_run' 8 (by kernel_rfl) (by kernel_rfl)) (by kernel_rfl) (by kernel_rfl)
theorem ZzW {W:World} (h:laidMetH Tryz.prog ZsQ W):GOK Zq R0 W:=by
 intro g l hg
 unfold Zq at hg
 split at hg
 ·cases hg
  exact Zsr (t := 145) (N := 32) (e := 5) (k := .u8) h (by kernel_rfl) (n := "math/bits.deBruijn32tab") (by rw [show DataW.agg (ZoH ZDu) = Rows.laid_math_bits_deBruijn32tab by kernel_rfl]; simp [ZsQ]) (by kernel_rfl) (by kernel_rfl) (by kernel_rfl) (by kernel_rfl) (by kernel_rfl) (by kernel_rfl) (by decide)
 ·cases hg
  exact Zsr (t := 146) (N := 64) (e := 5) (k := .u8) h (by kernel_rfl) (n := "math/bits.deBruijn64tab") (by rw [show DataW.agg (ZoH ZDl) = Rows.laid_math_bits_deBruijn64tab by kernel_rfl]; simp [ZsQ]) (by kernel_rfl) (by kernel_rfl) (by kernel_rfl) (by kernel_rfl) (by kernel_rfl) (by kernel_rfl) (by decide)
 ·cases hg
theorem ZEJ (os:Os) (started:os.Started) (H:Type) (enc:TypeId×Value→H) :
  ReturnsInHanded {} Tryz.checked os 4 .any (fun w args=>(Rows.evalRunsSpec.pre enc Tryz.prog Tryz.f4 [] false w args∧laidMetH Tryz.prog ZsQ w)∧sizedMet enc Tryz.prog Tryz.f4 (OpenSpec.ofChange Rows.evalRunsSpec) false w args) (Rows.evalRunsSpec.post enc Tryz.prog Tryz.f4 false true false false):=by
 refine returnsInHanded_of_change_and (C:=Tryz.checked) (X:=fun w _=>laidMetH Tryz.prog ZsQ w) (fun _ _ _ hh h=>h.of_heap hh) own started (by kernel_rfl) Tryz.func4
  (ChangeSpec.witness_shaped (enc:=enc) (C:=Tryz.checked) (os:=os) (X:=fun w _=>laidMetH Tryz.prog ZsQ w) false (World.doorLaid Tryz.prog 19 os) #[.agg #[.int .i64 0,.int .i64 0,.slice none 0 0,.slice none 0 0,.slice none 0 0,.slice none 0 0],.slice none 0 0] 8 rfl (World.shaped_of_RefB (by kernel_rfl) (by kernel_rfl)) (by kernel_rfl) (by kernel_rfl) (by kernel_rfl) (ZBz os _)) ?_
 intro W base args ds gs before hval0 hW _ _ hL _
 have hval:∀(j:Nat) t v,Tryz.f4.params[j]? = some t→args[j]? = some v→Value.okWide Tryz.prog W .any base t v:=hval0
 have hW':=hW
 obtain⟨p,q,hA0,hV,rfl,hfz,hnd⟩:=hW
 have hA:DataW.TrodAll enc Tryz.prog W 0 (fun _=>true) true Tryz.f4.params.toList args.toList ds p:=hA0
 rw[Tryz.params4] at hA hval
 obtain⟨v0,vs0,d0,ds0,p0,q0,hargs,rfl,rfl,h0,r0⟩:=trodAll_cons hA
 obtain⟨v1,vs1,d1,ds1,p1,q1,rfl,rfl,rfl,h1,r1⟩:=trodAll_cons r0
 obtain⟨rfl,rfl,rfl⟩:=trodAll_nil r1
 obtain rfl:args = #[v0,v1]:=by cases args;simp_all
 obtain⟨rfl,rfl⟩:=trodVars_none hV
 have lt0:∀x∈p0,x.block<W.heap.size:=by obtain⟨m,hm⟩:=h0;exact DataW.trod_lt m _ _ _ hm
 obtain⟨x0,ok0,den0⟩:=ZzP (P:=Tryz.prog) (n:=8) (t:=27) (l:=Zvr.1) (ag:=Zvr.2) (by kernel_rfl) (hval 0 27 v0 rfl rfl) h0
 have lt1:∀x∈p1,x.block<W.heap.size:=by obtain⟨m,hm⟩:=h1;exact DataW.trod_lt m _ _ _ hm
 obtain⟨x1,ok1,den1⟩:=ZzP (P:=Tryz.prog) (n:=8) (t:=28) (l:=Zu5.1) (ag:=Zu5.2) (by kernel_rfl) (hval 1 28 v1 rfl rfl) h1
 obtain⟨H1,ev⟩:=ZvZ x0 ok0 x1 ok1
 have den:Za6 All All All W [ZvG Zvr.2 x0,ZvG Zu5.2 x1] [v0,v1]:=⟨_,_,rfl,den0,⟨_,_,rfl,den1,rfl⟩⟩
 refine(Zy4 ZGn (ZzW hL) den ev).mono fun e W' ⟨he,bel⟩=>?_
 subst he
 exact⟨_,rfl,_,_,_,[],_,[],hW',trodAll_mk1 (shut_bool Tryz.underlying4 _),(trodAll_cons_mk (Below.trod ZxY (by kernel_rfl) (of_decide_eq_true (by kernel_rfl)) h0 bel lt0) (trodAll_cons_mk (Below.trod ZxY (by kernel_rfl) (of_decide_eq_true (by kernel_rfl)) h1 bel lt1) trodAll_mk0)),rfl,bel.frame _,fun h=>by cases h⟩
theorem over:Rows.evalRunsRow.holds Tryz.pinned (OpenSpec.ofChange Rows.evalRunsSpec):=
 OpenClaim.holds_of_wide 4 Tryz.f4 rfl rfl rfl rfl rfl rfl rfl ⟨rfl,rfl,rfl,rfl,rfl⟩ rfl rfl rfl rfl rfl (by kernel_rfl) Tryz.func4 (by kernel_rfl)
  (of_decide_eq_true (by kernel_rfl)) (by unfold Func.isWrapper;first | (rw[if_pos (by decide +kernel)];kernel_rfl) | (rw[if_neg (by decide +kernel)];exact⟨rfl,rfl⟩))
  (fun os started H enc _=>ZEJ os started H enc)
theorem proved:Rows.EvalRunsSaid:=over
theorem carded:Rows.EvalRunsCardSaid:=
 Claim7.holds_tied_plain_at .later [] [.data, .data] true (true, "9d4c3a98efcc6f35452df6eff8f6fff9e7c70124e2ba0835c5e94d365ee12256") false
  proved (fun _ h=>by cases h) (by kernel_rfl) (fun _ h=>by cases h) evalRuns_row_tie rfl ⟨rfl,rfl⟩ (by kernel_rfl) rfl
  (fun f fn hf hfn=>by
   obtain rfl : f = 4 := Option.some.inj ((show Tryz.prog.funcNamed "trefoil/trefoillaw08.EvalRuns" = some 4 by kernel_rfl).symm.trans hf) |>.symm
   obtain rfl:fn=Tryz.f4:=(Option.some.inj (Tryz.func4.symm.trans hfn)).symm
   exact⟨by kernel_rfl,fun j t ht=>by
    rw[Tryz.params4] at ht
    have hm:t∈[27,28]:=by simpa using Array.mem_of_getElem? ht
    have hall:([27,28].all fun u=>!Tryz.prog.wantsStandIn u)=true:=by kernel_rfl
    exact(show Tryz.prog.wantsStandIn t=false by simpa using List.all_eq_true.1 hall t hm)⟩)
  (by kernel_rfl)
end Go.Proofs.YtnmbdjkbaihicaaGreatDoor.LawEvalRuns
namespace Go.Proofs.YtnmbdjkbaihicaaGreatDoor
theorem evalRuns_holds:Rows.EvalRunsCardSaid:=LawEvalRuns.carded
#print axioms evalRuns_holds
end Go.Proofs.YtnmbdjkbaihicaaGreatDoor
