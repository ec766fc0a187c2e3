/- EvalInputs: part 6 of 6 of the proof: the row and the card of the law, out of what the evaluator says of it; without conditions. -/
import Derived.Test.YtnmbdjkbaihicaaDoorZEvalInputse
import Derived.KernelRfl
import Derived.Test.YtnmbdjkbaihicaaDoorRows
import Derived.Test.YtnmbdjkbaihicaaDoorCards
import Derived.Test.YtnmbdjkbaihicaaDoorTie
import Derived.WalkKit
import Derived.ProofKit
import Derived.OpenShut
import Derived.ShutString
import Derived.ChangeOld
import Derived.Below
import Derived.SizedLaws
import Derived.Handed
import Derived.LaidMore
import Derived.Stop.Joined
import Derived.ChangeShapes
import Derived.Carry
import Derived.SevenTiedAt
set_option maxRecDepth 100000
set_option maxHeartbeats 40000000
namespace Go.Proofs.YtnmbdjkbaihicaaDoor
open Go Go.Proofs.YtnmbdjkbaihicaaDoorE
set_option linter.unusedVariables false
set_option linter.unusedSimpArgs false
def ZfV (b:Int) (c:Int) (m1_0:(List Int)) (m2_0:(List Zn)) (m3_0:(List Zh)) (m4_0:(List (Int×Int))) (m5_0:(List (Int×Int))) (m6_0:(List (Zi×Int))):Unit→V×Zm
  | r=>((.d (D.tup [])),[(.cells [(.sl 1 1),(.sl 7 2),(.sl 3 2),(.mp 4),(.mp 5),(.mp 6)]),(.arr 1 (List.map Zb m1_0)),.dead,(.arr 2 (List.map Zbc m3_0)),(.mp (mpD Zb Zb m4_0)),(.mp (mpD Zb Zb m5_0)),(.mp (mpD Zp Zb m6_0)),(.arr 2 (List.map ZC (m2_0++[(Zn.mk b c)])))])
theorem Zap {b:Int}{c:Int}{m1_0:(List Int)}{m2_0:(List Zn)}{m3_0:(List Zh)}{m4_0:(List (Int×Int))}{m5_0:(List (Int×Int))}{m6_0:(List (Zi×Int))}:∀r,(ZG b c m2_0)=some r→evW ctx 67 [(.ptr 0 0),(.d (Zb b)),(.d (Zb c))] [(.cells [(.sl 1 1),(.sl 2 2),(.sl 3 2),(.mp 4),(.mp 5),(.mp 6)]),(.arr 1 (List.map Zb m1_0)),(.arr 2 (List.map ZC m2_0)),(.arr 2 (List.map Zbc m3_0)),(.mp (mpD Zb Zb m4_0)),(.mp (mpD Zb Zb m5_0)),(.mp (mpD Zp Zb m6_0))]=some ((ZfV b c m1_0 m2_0 m3_0 m4_0 m5_0 m6_0) r):=by
 show ZQ _ (fun r rhs=>rhs=some ((ZfV b c m1_0 m2_0 m3_0 m4_0 m5_0 m6_0) r)) _
 unfold ZG
 rw[Ze4 ctx 67 ZyG _ _ rfl rfl]
 conv=>arg 3;whnf
 refine ZbP rfl ?_;conv=>arg 3;whnf
 refine Ze (ZgT ZC m2_0 1) ?_ ?_
 ·conv=>arg 3;whnf
  refine Zo (Zgb ZC m2_0 [(Zn.mk b c)]) ?_;conv=>arg 3;whnf
  exact Zf rfl
 ·exact Z7
def ZfU (t0:Bool) (t1:Bool) (t2:Bool) (t3:Bool) (b:Zk) (c:Int) (m1_0:(List Int)) (m2_0:(List Zn)) (m3_0:(List Zh)) (m4_0:(List (Int×Int))) (m5_0:(List (Int×Int))) (m6_0:(List (Zi×Int))):(((List (Int×Int))×(List (Zi×Int))×(List Int)×(List Zn)×(List Zh))⊕((List Int)⊕Unit))→V×Zm
  | (.inl r)=>((.d (D.tup [])),[(.cells [(.sl 7 1),(.sl 8 2),(.sl 9 2),(.mp 4),(.mp 5),(.mp 6)]),.dead,.dead,.dead,(.mp (mpD Zb Zb (Zu (fun ka kb:Int=>(ka==kb)) m4_0 c (m3_0.length:Int)))),(.mp (mpD Zb Zb r.1)),(.mp (mpD Zp Zb r.2.1)),(.arr 1 (List.map Zb r.2.2.1)),(.arr 2 (List.map ZC r.2.2.2.1)),(.arr 2 (List.map Zbc r.2.2.2.2))])
  | (.inr (.inl r))=>((.d (D.tup [])),[(.cells [(.sl 7 1),(.sl 2 2),(.sl 8 2),(.mp 4),(.mp 5),(.mp 6)]),.dead,(.arr 2 (List.map ZC m2_0)),.dead,(.mp (mpD Zb Zb (Zu (fun ka kb:Int=>(ka==kb)) m4_0 c (m3_0.length:Int)))),(.mp (mpD Zb Zb (Zu (fun ka kb:Int=>(ka==kb)) m5_0 c (w64 ((List.length (m3_0++[(Zh.mk c 0)]):Int)-1))))),(.mp (mpD Zp Zb m6_0)),(.arr 1 (List.map Zb r)),(.arr 2 (List.map Zbc (m3_0++[(Zh.mk c 0)])))])
  | (.inr (.inr r))=>((.d (D.tup [])),[(.cells [(.sl 1 1),(.sl 2 2),(.sl 3 2),(.mp 4),(.mp 5),(.mp 6)]),(.arr 1 (List.map Zb m1_0)),(.arr 2 (List.map ZC m2_0)),(.arr 2 (List.map Zbc m3_0)),(.mp (mpD Zb Zb (Zu (fun ka kb:Int=>(ka==kb)) m4_0 c (m3_0.length:Int)))),(.mp (mpD Zb Zb m5_0)),(.mp (mpD Zp Zb m6_0))])
def Zff (t0:Bool) (t1:Bool) (t2:Bool) (t3:Bool) (b:Zk) (c:Int) (m3_0:(List Zh)) (m4_0:(List (Int×Int))) (x0:(List Int)):((List (Int×Int))×(List (Zi×Int))×(List Int)×(List Zn)×(List Zh))→Ex×List V×Zm
  | r=>(.exit 0,[],[(.cells [(.sl 7 1),(.sl 8 2),(.sl 9 2),(.mp 4),(.mp 5),(.mp 6)]),.dead,.dead,.dead,(.mp (mpD Zb Zb (Zu (fun ka kb:Int=>(ka==kb)) m4_0 c (m3_0.length:Int)))),(.mp (mpD Zb Zb r.1)),(.mp (mpD Zp Zb r.2.1)),(.arr 1 (List.map Zb r.2.2.1)),(.arr 2 (List.map ZC r.2.2.2.1)),(.arr 2 (List.map Zbc r.2.2.2.2))])
theorem Zcw {t0:Bool}{t1:Bool}{t2:Bool}{t3:Bool}{b:Zk}{c:Int}{m3_0:(List Zh)}{m4_0:(List (Int×Int))}{x0:(List Int)}:∀(s14:Int×Int×(List (Int×Int))×(List (Zi×Int))×(List Int)×(List Zn)×(List Zh)) (r:((List (Int×Int))×(List (Zi×Int))×(List Int)×(List Zn)×(List Zh))),lp (ZA b c x0) s14=some r→lpW ctx 7 [0,2,4,6,7,26,27] [] Zn0 [(.ptr 0 0),(.d (Zb c)),(.ptr 7 0),(.d (Zb s14.1)),(.d (D.list true (List.map Zb x0))),(.d (Zb (w64 ((x0.length:Int)+1)))),(.d (Zb s14.2.1))] [(.cells [(.sl 8 1),(.sl 9 2),(.sl 10 2),(.mp 4),(.mp 5),(.mp 6)]),.dead,.dead,.dead,(.mp (mpD Zb Zb (Zu (fun ka kb:Int=>(ka==kb)) m4_0 c (m3_0.length:Int)))),(.mp (mpD Zb Zb s14.2.2.1)),(.mp (mpD Zp Zb s14.2.2.2.1)),(.cells (dV t0 t1 t2 t3 b)),(.arr 1 (List.map Zb s14.2.2.2.2.1)),(.arr 2 (List.map ZC s14.2.2.2.2.2.1)),(.arr 2 (List.map Zbc s14.2.2.2.2.2.2))]=some ((Zff t0 t1 t2 t3 b c m3_0 m4_0 x0) r):=by
 refine ZaU (Zff t0 t1 t2 t3 b c m3_0 m4_0 x0) ?_
 intro s14 rcl ih
 show ZQ _ _ (lpW _ _ _ _ _ _ _)
 unfold ZA
 rw[ZaV]
 conv=>arg 3;whnf
 refine Ze rfl ?_ ?_<;>conv=>arg 3;whnf
 ·refine Zl rfl rfl fun x15 hx15=>?_;conv=>arg 3;whnf
  refine Zo (ZL _ _) ?_;conv=>arg 3;whnf
  refine Ze rfl ?_ ?_<;>conv=>arg 3;whnf
  ·refine Zl rfl rfl fun x16 hx16=>?_;conv=>arg 3;whnf
   refine Zl rfl rfl fun x17 hx17=>?_;conv=>arg 3;whnf
   refine Zc _ ZaI fun x18 hx18=>?_;conv=>arg 3;whnf
   refine Zg (Zc8 (f:=Zb) (g:=Zb) (fun ka kb:Int=>(ka==kb)) (fun _ _=>rfl) s14.2.2.1 c (w64 ((List.length (s14.2.2.2.2.2.2++[(Zh.mk c s14.2.1)]):Int)-1))) ?_;conv=>arg 3;whnf
   refine Ze rfl ?_ ?_<;>conv=>arg 3;whnf
   ·refine Zg (Zbl (f:=Zb) (g:=Zb) (fun ka kb:Int=>(ka==kb)) (fun _ _=>rfl) (Zu (fun ka kb:Int=>(ka==kb)) s14.2.2.1 c (w64 ((List.length (s14.2.2.2.2.2.2++[(Zh.mk c s14.2.1)]):Int)-1))) c 0) ?_;conv=>arg 3;whnf
    refine Zg (Zbl (f:=Zb) (g:=Zb) (fun ka kb:Int=>(ka==kb)) (fun _ _=>rfl) (Zu (fun ka kb:Int=>(ka==kb)) s14.2.2.1 c (w64 ((List.length (s14.2.2.2.2.2.2++[(Zh.mk c s14.2.1)]):Int)-1))) c 0) ?_;conv=>arg 3;whnf
    refine Zc _ Zap fun x19 hx19=>?_;conv=>arg 3;whnf
    refine Zl rfl rfl fun x20 hx20=>?_;conv=>arg 3;whnf
    refine Zl rfl rfl fun x21 hx21=>?_;conv=>arg 3;whnf
    refine Zg (Zbl (f:=Zb) (g:=Zb) (fun ka kb:Int=>(ka==kb)) (fun _ _=>rfl) (Zu (fun ka kb:Int=>(ka==kb)) s14.2.2.1 c (w64 ((List.length (s14.2.2.2.2.2.2++[(Zh.mk c s14.2.1)]):Int)-1))) c 0) ?_;conv=>arg 3;whnf
    refine Zg (Zc8 (f:=Zp) (g:=Zb) (fun ka kb:Zi=>((ka.maker==kb.maker)&&((ka.user==kb.user)&&((ka.pos==kb.pos)&&true)))) (fun _ _=>rfl) s14.2.2.2.1 x21 (Z1 (fun ka kb:Int=>(ka==kb)) (Zu (fun ka kb:Int=>(ka==kb)) s14.2.2.1 c (w64 ((List.length (s14.2.2.2.2.2.2++[(Zh.mk c s14.2.1)]):Int)-1))) c 0)) ?_;conv=>arg 3;whnf
    exact Zd (ih _)
   ·exact Zd (ih _)
  ·refine Zc _ ZaI fun x22 hx22=>?_;conv=>arg 3;whnf
   refine Zg (Zc8 (f:=Zb) (g:=Zb) (fun ka kb:Int=>(ka==kb)) (fun _ _=>rfl) s14.2.2.1 c (w64 ((List.length (s14.2.2.2.2.2.2++[(Zh.mk c s14.2.1)]):Int)-1))) ?_;conv=>arg 3;whnf
   refine Ze rfl ?_ ?_<;>conv=>arg 3;whnf
   ·refine Zg (Zbl (f:=Zb) (g:=Zb) (fun ka kb:Int=>(ka==kb)) (fun _ _=>rfl) (Zu (fun ka kb:Int=>(ka==kb)) s14.2.2.1 c (w64 ((List.length (s14.2.2.2.2.2.2++[(Zh.mk c s14.2.1)]):Int)-1))) c 0) ?_;conv=>arg 3;whnf
    refine Zg (Zbl (f:=Zb) (g:=Zb) (fun ka kb:Int=>(ka==kb)) (fun _ _=>rfl) (Zu (fun ka kb:Int=>(ka==kb)) s14.2.2.1 c (w64 ((List.length (s14.2.2.2.2.2.2++[(Zh.mk c s14.2.1)]):Int)-1))) c 0) ?_;conv=>arg 3;whnf
    refine Zc _ Zap fun x23 hx23=>?_;conv=>arg 3;whnf
    refine Zl rfl rfl fun x24 hx24=>?_;conv=>arg 3;whnf
    refine Zl rfl rfl fun x25 hx25=>?_;conv=>arg 3;whnf
    refine Zg (Zbl (f:=Zb) (g:=Zb) (fun ka kb:Int=>(ka==kb)) (fun _ _=>rfl) (Zu (fun ka kb:Int=>(ka==kb)) s14.2.2.1 c (w64 ((List.length (s14.2.2.2.2.2.2++[(Zh.mk c s14.2.1)]):Int)-1))) c 0) ?_;conv=>arg 3;whnf
    refine Zg (Zc8 (f:=Zp) (g:=Zb) (fun ka kb:Zi=>((ka.maker==kb.maker)&&((ka.user==kb.user)&&((ka.pos==kb.pos)&&true)))) (fun _ _=>rfl) s14.2.2.2.1 x25 (Z1 (fun ka kb:Int=>(ka==kb)) (Zu (fun ka kb:Int=>(ka==kb)) s14.2.2.1 c (w64 ((List.length (s14.2.2.2.2.2.2++[(Zh.mk c s14.2.1)]):Int)-1))) c 0)) ?_;conv=>arg 3;whnf
    exact Zd (ih _)
   ·exact Zd (ih _)
 ·exact Zf rfl
def ZeM (t0:Bool) (t1:Bool) (t2:Bool) (t3:Bool) (b:Zk) (c:Int) (m1_0:(List Int)) (m2_0:(List Zn)) (m3_0:(List Zh)) (m4_0:(List (Int×Int))) (m5_0:(List (Int×Int))) (m6_0:(List (Zi×Int))) (x0:(List Int)) (x4:Zi):(((List (Int×Int))×(List (Zi×Int))×(List Int)×(List Zn)×(List Zh))⊕Unit)→Ex×List V×Zm
  | (.inl r)=>(.exit 0,[],[(.cells [(.sl 7 1),(.sl 8 2),(.sl 9 2),(.mp 4),(.mp 5),(.mp 6)]),.dead,.dead,.dead,(.mp (mpD Zb Zb (Zu (fun ka kb:Int=>(ka==kb)) m4_0 c (m3_0.length:Int)))),(.mp (mpD Zb Zb r.1)),(.mp (mpD Zp Zb r.2.1)),(.arr 1 (List.map Zb r.2.2.1)),(.arr 2 (List.map ZC r.2.2.2.1)),(.arr 2 (List.map Zbc r.2.2.2.2))])
  | (.inr r)=>(.exit 0,[],[(.cells [(.sl 7 1),(.sl 2 2),(.sl 8 2),(.mp 4),(.mp 5),(.mp 6)]),.dead,(.arr 2 (List.map ZC m2_0)),.dead,(.mp (mpD Zb Zb (Zu (fun ka kb:Int=>(ka==kb)) m4_0 c (m3_0.length:Int)))),(.mp (mpD Zb Zb (Zu (fun ka kb:Int=>(ka==kb)) m5_0 c (w64 ((List.length (m3_0++[(Zh.mk c 0)]):Int)-1))))),(.mp (mpD Zp Zb m6_0)),(.arr 1 (List.map Zb (m1_0++[(w64 (x4.pos-0))]))),(.arr 2 (List.map Zbc (m3_0++[(Zh.mk c 0)])))])
theorem ZgJ {t0:Bool}{t1:Bool}{t2:Bool}{t3:Bool}{b:Zk}{c:Int}{m1_0:(List Int)}{m2_0:(List Zn)}{m3_0:(List Zh)}{m4_0:(List (Int×Int))}{m5_0:(List (Int×Int))}{m6_0:(List (Zi×Int))}{x0:(List Int)}{x4:Zi}:∀(s6:Unit) (r:(((List (Int×Int))×(List (Zi×Int))×(List Int)×(List Zn)×(List Zh))⊕Unit)),lp (Zbo b c m1_0 m2_0 m3_0 m5_0 m6_0 x0 x4) s6=some r→lpW ctx 7 [0,2,4,6,7,26,27] [] Zn0 [(.ptr 0 0),(.d (Zb c)),(.ptr 7 0),(.d (Zb x4.pos)),(.d (D.list true (List.map Zb x0))),(.d (Zb (w64 ((x0.length:Int)+1)))),(.d (Zb 1))] [(.cells [(.sl 8 1),(.sl 2 2),(.sl 9 2),(.mp 4),(.mp 5),(.mp 6)]),.dead,(.arr 2 (List.map ZC m2_0)),.dead,(.mp (mpD Zb Zb (Zu (fun ka kb:Int=>(ka==kb)) m4_0 c (m3_0.length:Int)))),(.mp (mpD Zb Zb (Zu (fun ka kb:Int=>(ka==kb)) m5_0 c (w64 ((List.length (m3_0++[(Zh.mk c 0)]):Int)-1))))),(.mp (mpD Zp Zb m6_0)),(.cells (dV t0 t1 t2 t3 b)),(.arr 1 (List.map Zb (m1_0++[(w64 (x4.pos-0))]))),(.arr 2 (List.map Zbc (m3_0++[(Zh.mk c 0)])))]=some ((ZeM t0 t1 t2 t3 b c m1_0 m2_0 m3_0 m4_0 m5_0 m6_0 x0 x4) r):=by
 refine ZaU (ZeM t0 t1 t2 t3 b c m1_0 m2_0 m3_0 m4_0 m5_0 m6_0 x0 x4) ?_
 intro s6 rcl ih
 show ZQ _ _ (lpW _ _ _ _ _ _ _)
 unfold Zbo
 rw[ZaV]
 conv=>arg 3;whnf
 refine Ze rfl ?_ ?_<;>conv=>arg 3;whnf
 ·refine Zl rfl rfl fun x7 hx7=>?_;conv=>arg 3;whnf
  refine Zo (ZL _ _) ?_;conv=>arg 3;whnf
  refine Ze rfl ?_ ?_<;>conv=>arg 3;whnf
  ·refine Zl rfl rfl fun x8 hx8=>?_;conv=>arg 3;whnf
   refine Zl rfl rfl fun x9 hx9=>?_;conv=>arg 3;whnf
   refine Zc _ ZaI fun x10 hx10=>?_;conv=>arg 3;whnf
   refine Zg (Zc8 (f:=Zb) (g:=Zb) (fun ka kb:Int=>(ka==kb)) (fun _ _=>rfl) (Zu (fun ka kb:Int=>(ka==kb)) m5_0 c (w64 ((List.length (m3_0++[(Zh.mk c 0)]):Int)-1))) c (w64 ((List.length ((m3_0++[(Zh.mk c 0)])++[(Zh.mk c 1)]):Int)-1))) ?_;conv=>arg 3;whnf
   refine ZbP rfl ?_;conv=>arg 3;whnf
   refine Zg (Zbl (f:=Zb) (g:=Zb) (fun ka kb:Int=>(ka==kb)) (fun _ _=>rfl) (Zu (fun ka kb:Int=>(ka==kb)) (Zu (fun ka kb:Int=>(ka==kb)) m5_0 c (w64 ((List.length (m3_0++[(Zh.mk c 0)]):Int)-1))) c (w64 ((List.length ((m3_0++[(Zh.mk c 0)])++[(Zh.mk c 1)]):Int)-1))) c 0) ?_;conv=>arg 3;whnf
   refine Zg (Zbl (f:=Zb) (g:=Zb) (fun ka kb:Int=>(ka==kb)) (fun _ _=>rfl) (Zu (fun ka kb:Int=>(ka==kb)) (Zu (fun ka kb:Int=>(ka==kb)) m5_0 c (w64 ((List.length (m3_0++[(Zh.mk c 0)]):Int)-1))) c (w64 ((List.length ((m3_0++[(Zh.mk c 0)])++[(Zh.mk c 1)]):Int)-1))) c 0) ?_;conv=>arg 3;whnf
   refine Zc _ Zap fun x11 hx11=>?_;conv=>arg 3;whnf
   refine Zl rfl rfl fun x12 hx12=>?_;conv=>arg 3;whnf
   refine Zl rfl rfl fun x13 hx13=>?_;conv=>arg 3;whnf
   refine Zg (Zbl (f:=Zb) (g:=Zb) (fun ka kb:Int=>(ka==kb)) (fun _ _=>rfl) (Zu (fun ka kb:Int=>(ka==kb)) (Zu (fun ka kb:Int=>(ka==kb)) m5_0 c (w64 ((List.length (m3_0++[(Zh.mk c 0)]):Int)-1))) c (w64 ((List.length ((m3_0++[(Zh.mk c 0)])++[(Zh.mk c 1)]):Int)-1))) c 0) ?_;conv=>arg 3;whnf
   refine Zg (Zc8 (f:=Zp) (g:=Zb) (fun ka kb:Zi=>((ka.maker==kb.maker)&&((ka.user==kb.user)&&((ka.pos==kb.pos)&&true)))) (fun _ _=>rfl) m6_0 x13 (Z1 (fun ka kb:Int=>(ka==kb)) (Zu (fun ka kb:Int=>(ka==kb)) (Zu (fun ka kb:Int=>(ka==kb)) m5_0 c (w64 ((List.length (m3_0++[(Zh.mk c 0)]):Int)-1))) c (w64 ((List.length ((m3_0++[(Zh.mk c 0)])++[(Zh.mk c 1)]):Int)-1))) c 0)) ?_;conv=>arg 3;whnf
   refine Zc _ (Zcw _) fun r26 hr26=>?_;conv=>arg 3;whnf
   exact Zf rfl
  ·refine Zc _ ZaI fun x27 hx27=>?_;conv=>arg 3;whnf
   refine Zg (Zc8 (f:=Zb) (g:=Zb) (fun ka kb:Int=>(ka==kb)) (fun _ _=>rfl) (Zu (fun ka kb:Int=>(ka==kb)) m5_0 c (w64 ((List.length (m3_0++[(Zh.mk c 0)]):Int)-1))) c (w64 ((List.length ((m3_0++[(Zh.mk c 0)])++[(Zh.mk c 1)]):Int)-1))) ?_;conv=>arg 3;whnf
   refine ZbP rfl ?_;conv=>arg 3;whnf
   refine Zg (Zbl (f:=Zb) (g:=Zb) (fun ka kb:Int=>(ka==kb)) (fun _ _=>rfl) (Zu (fun ka kb:Int=>(ka==kb)) (Zu (fun ka kb:Int=>(ka==kb)) m5_0 c (w64 ((List.length (m3_0++[(Zh.mk c 0)]):Int)-1))) c (w64 ((List.length ((m3_0++[(Zh.mk c 0)])++[(Zh.mk c 1)]):Int)-1))) c 0) ?_;conv=>arg 3;whnf
   refine Zg (Zbl (f:=Zb) (g:=Zb) (fun ka kb:Int=>(ka==kb)) (fun _ _=>rfl) (Zu (fun ka kb:Int=>(ka==kb)) (Zu (fun ka kb:Int=>(ka==kb)) m5_0 c (w64 ((List.length (m3_0++[(Zh.mk c 0)]):Int)-1))) c (w64 ((List.length ((m3_0++[(Zh.mk c 0)])++[(Zh.mk c 1)]):Int)-1))) c 0) ?_;conv=>arg 3;whnf
   refine Zc _ Zap fun x28 hx28=>?_;conv=>arg 3;whnf
   refine Zl rfl rfl fun x29 hx29=>?_;conv=>arg 3;whnf
   refine Zl rfl rfl fun x30 hx30=>?_;conv=>arg 3;whnf
   refine Zg (Zbl (f:=Zb) (g:=Zb) (fun ka kb:Int=>(ka==kb)) (fun _ _=>rfl) (Zu (fun ka kb:Int=>(ka==kb)) (Zu (fun ka kb:Int=>(ka==kb)) m5_0 c (w64 ((List.length (m3_0++[(Zh.mk c 0)]):Int)-1))) c (w64 ((List.length ((m3_0++[(Zh.mk c 0)])++[(Zh.mk c 1)]):Int)-1))) c 0) ?_;conv=>arg 3;whnf
   refine Zg (Zc8 (f:=Zp) (g:=Zb) (fun ka kb:Zi=>((ka.maker==kb.maker)&&((ka.user==kb.user)&&((ka.pos==kb.pos)&&true)))) (fun _ _=>rfl) m6_0 x30 (Z1 (fun ka kb:Int=>(ka==kb)) (Zu (fun ka kb:Int=>(ka==kb)) (Zu (fun ka kb:Int=>(ka==kb)) m5_0 c (w64 ((List.length (m3_0++[(Zh.mk c 0)]):Int)-1))) c (w64 ((List.length ((m3_0++[(Zh.mk c 0)])++[(Zh.mk c 1)]):Int)-1))) c 0)) ?_;conv=>arg 3;whnf
   refine Zc _ (Zcw _) fun r43 hr43=>?_;conv=>arg 3;whnf
   exact Zf rfl
 ·exact Zf rfl
def ZeR (t0:Bool) (t1:Bool) (t2:Bool) (t3:Bool) (b:Zk) (c:Int) (m1_0:(List Int)) (m2_0:(List Zn)) (m3_0:(List Zh)) (m4_0:(List (Int×Int))) (m5_0:(List (Int×Int))) (m6_0:(List (Zi×Int))) (x0:(List Int)) (x2:ZU):(((List (Int×Int))×(List (Zi×Int))×(List Int)×(List Zn)×(List Zh))⊕Unit)→Ex×List V×Zm
  | (.inl r)=>(.exit 0,[],[(.cells [(.sl 7 1),(.sl 8 2),(.sl 9 2),(.mp 4),(.mp 5),(.mp 6)]),.dead,.dead,.dead,(.mp (mpD Zb Zb (Zu (fun ka kb:Int=>(ka==kb)) m4_0 c (m3_0.length:Int)))),(.mp (mpD Zb Zb r.1)),(.mp (mpD Zp Zb r.2.1)),(.arr 1 (List.map Zb r.2.2.1)),(.arr 2 (List.map ZC r.2.2.2.1)),(.arr 2 (List.map Zbc r.2.2.2.2))])
  | (.inr r)=>(.exit 0,[],[(.cells [(.sl 7 1),(.sl 2 2),(.sl 8 2),(.mp 4),(.mp 5),(.mp 6)]),.dead,(.arr 2 (List.map ZC m2_0)),.dead,(.mp (mpD Zb Zb (Zu (fun ka kb:Int=>(ka==kb)) m4_0 c (m3_0.length:Int)))),(.mp (mpD Zb Zb (Zu (fun ka kb:Int=>(ka==kb)) m5_0 c (w64 ((List.length (m3_0++[(Zh.mk c 0)]):Int)-1))))),(.mp (mpD Zp Zb m6_0)),(.arr 1 (List.map Zb (m1_0++[(w64 (x2.work-0))]))),(.arr 2 (List.map Zbc (m3_0++[(Zh.mk c 0)])))])
theorem ZgS {t0:Bool}{t1:Bool}{t2:Bool}{t3:Bool}{b:Zk}{c:Int}{m1_0:(List Int)}{m2_0:(List Zn)}{m3_0:(List Zh)}{m4_0:(List (Int×Int))}{m5_0:(List (Int×Int))}{m6_0:(List (Zi×Int))}{x0:(List Int)}{x2:ZU}:∀(s46:Unit) (r:(((List (Int×Int))×(List (Zi×Int))×(List Int)×(List Zn)×(List Zh))⊕Unit)),lp (Zb7 b c m1_0 m2_0 m3_0 m5_0 m6_0 x0 x2) s46=some r→lpW ctx 7 [0,2,4,6,7,26,27] [] Zn0 [(.ptr 0 0),(.d (Zb c)),(.ptr 7 0),(.d (Zb x2.work)),(.d (D.list true (List.map Zb x0))),(.d (Zb (w64 ((x0.length:Int)+1)))),(.d (Zb 1))] [(.cells [(.sl 8 1),(.sl 2 2),(.sl 9 2),(.mp 4),(.mp 5),(.mp 6)]),.dead,(.arr 2 (List.map ZC m2_0)),.dead,(.mp (mpD Zb Zb (Zu (fun ka kb:Int=>(ka==kb)) m4_0 c (m3_0.length:Int)))),(.mp (mpD Zb Zb (Zu (fun ka kb:Int=>(ka==kb)) m5_0 c (w64 ((List.length (m3_0++[(Zh.mk c 0)]):Int)-1))))),(.mp (mpD Zp Zb m6_0)),(.cells (dV t0 t1 t2 t3 b)),(.arr 1 (List.map Zb (m1_0++[(w64 (x2.work-0))]))),(.arr 2 (List.map Zbc (m3_0++[(Zh.mk c 0)])))]=some ((ZeR t0 t1 t2 t3 b c m1_0 m2_0 m3_0 m4_0 m5_0 m6_0 x0 x2) r):=by
 refine ZaU (ZeR t0 t1 t2 t3 b c m1_0 m2_0 m3_0 m4_0 m5_0 m6_0 x0 x2) ?_
 intro s46 rcl ih
 show ZQ _ _ (lpW _ _ _ _ _ _ _)
 unfold Zb7
 rw[ZaV]
 conv=>arg 3;whnf
 refine Ze rfl ?_ ?_<;>conv=>arg 3;whnf
 ·refine Zl rfl rfl fun x47 hx47=>?_;conv=>arg 3;whnf
  refine Zo (ZL _ _) ?_;conv=>arg 3;whnf
  refine Ze rfl ?_ ?_<;>conv=>arg 3;whnf
  ·refine Zl rfl rfl fun x48 hx48=>?_;conv=>arg 3;whnf
   refine Zl rfl rfl fun x49 hx49=>?_;conv=>arg 3;whnf
   refine Zc _ ZaI fun x50 hx50=>?_;conv=>arg 3;whnf
   refine Zg (Zc8 (f:=Zb) (g:=Zb) (fun ka kb:Int=>(ka==kb)) (fun _ _=>rfl) (Zu (fun ka kb:Int=>(ka==kb)) m5_0 c (w64 ((List.length (m3_0++[(Zh.mk c 0)]):Int)-1))) c (w64 ((List.length ((m3_0++[(Zh.mk c 0)])++[(Zh.mk c 1)]):Int)-1))) ?_;conv=>arg 3;whnf
   refine ZbP rfl ?_;conv=>arg 3;whnf
   refine Zg (Zbl (f:=Zb) (g:=Zb) (fun ka kb:Int=>(ka==kb)) (fun _ _=>rfl) (Zu (fun ka kb:Int=>(ka==kb)) (Zu (fun ka kb:Int=>(ka==kb)) m5_0 c (w64 ((List.length (m3_0++[(Zh.mk c 0)]):Int)-1))) c (w64 ((List.length ((m3_0++[(Zh.mk c 0)])++[(Zh.mk c 1)]):Int)-1))) c 0) ?_;conv=>arg 3;whnf
   refine Zg (Zbl (f:=Zb) (g:=Zb) (fun ka kb:Int=>(ka==kb)) (fun _ _=>rfl) (Zu (fun ka kb:Int=>(ka==kb)) (Zu (fun ka kb:Int=>(ka==kb)) m5_0 c (w64 ((List.length (m3_0++[(Zh.mk c 0)]):Int)-1))) c (w64 ((List.length ((m3_0++[(Zh.mk c 0)])++[(Zh.mk c 1)]):Int)-1))) c 0) ?_;conv=>arg 3;whnf
   refine Zc _ Zap fun x51 hx51=>?_;conv=>arg 3;whnf
   refine Zl rfl rfl fun x52 hx52=>?_;conv=>arg 3;whnf
   refine Zl rfl rfl fun x53 hx53=>?_;conv=>arg 3;whnf
   refine Zg (Zbl (f:=Zb) (g:=Zb) (fun ka kb:Int=>(ka==kb)) (fun _ _=>rfl) (Zu (fun ka kb:Int=>(ka==kb)) (Zu (fun ka kb:Int=>(ka==kb)) m5_0 c (w64 ((List.length (m3_0++[(Zh.mk c 0)]):Int)-1))) c (w64 ((List.length ((m3_0++[(Zh.mk c 0)])++[(Zh.mk c 1)]):Int)-1))) c 0) ?_;conv=>arg 3;whnf
   refine Zg (Zc8 (f:=Zp) (g:=Zb) (fun ka kb:Zi=>((ka.maker==kb.maker)&&((ka.user==kb.user)&&((ka.pos==kb.pos)&&true)))) (fun _ _=>rfl) m6_0 x53 (Z1 (fun ka kb:Int=>(ka==kb)) (Zu (fun ka kb:Int=>(ka==kb)) (Zu (fun ka kb:Int=>(ka==kb)) m5_0 c (w64 ((List.length (m3_0++[(Zh.mk c 0)]):Int)-1))) c (w64 ((List.length ((m3_0++[(Zh.mk c 0)])++[(Zh.mk c 1)]):Int)-1))) c 0)) ?_;conv=>arg 3;whnf
   refine Zc _ (Zcw _) fun r66 hr66=>?_;conv=>arg 3;whnf
   exact Zf rfl
  ·refine Zc _ ZaI fun x67 hx67=>?_;conv=>arg 3;whnf
   refine Zg (Zc8 (f:=Zb) (g:=Zb) (fun ka kb:Int=>(ka==kb)) (fun _ _=>rfl) (Zu (fun ka kb:Int=>(ka==kb)) m5_0 c (w64 ((List.length (m3_0++[(Zh.mk c 0)]):Int)-1))) c (w64 ((List.length ((m3_0++[(Zh.mk c 0)])++[(Zh.mk c 1)]):Int)-1))) ?_;conv=>arg 3;whnf
   refine ZbP rfl ?_;conv=>arg 3;whnf
   refine Zg (Zbl (f:=Zb) (g:=Zb) (fun ka kb:Int=>(ka==kb)) (fun _ _=>rfl) (Zu (fun ka kb:Int=>(ka==kb)) (Zu (fun ka kb:Int=>(ka==kb)) m5_0 c (w64 ((List.length (m3_0++[(Zh.mk c 0)]):Int)-1))) c (w64 ((List.length ((m3_0++[(Zh.mk c 0)])++[(Zh.mk c 1)]):Int)-1))) c 0) ?_;conv=>arg 3;whnf
   refine Zg (Zbl (f:=Zb) (g:=Zb) (fun ka kb:Int=>(ka==kb)) (fun _ _=>rfl) (Zu (fun ka kb:Int=>(ka==kb)) (Zu (fun ka kb:Int=>(ka==kb)) m5_0 c (w64 ((List.length (m3_0++[(Zh.mk c 0)]):Int)-1))) c (w64 ((List.length ((m3_0++[(Zh.mk c 0)])++[(Zh.mk c 1)]):Int)-1))) c 0) ?_;conv=>arg 3;whnf
   refine Zc _ Zap fun x68 hx68=>?_;conv=>arg 3;whnf
   refine Zl rfl rfl fun x69 hx69=>?_;conv=>arg 3;whnf
   refine Zl rfl rfl fun x70 hx70=>?_;conv=>arg 3;whnf
   refine Zg (Zbl (f:=Zb) (g:=Zb) (fun ka kb:Int=>(ka==kb)) (fun _ _=>rfl) (Zu (fun ka kb:Int=>(ka==kb)) (Zu (fun ka kb:Int=>(ka==kb)) m5_0 c (w64 ((List.length (m3_0++[(Zh.mk c 0)]):Int)-1))) c (w64 ((List.length ((m3_0++[(Zh.mk c 0)])++[(Zh.mk c 1)]):Int)-1))) c 0) ?_;conv=>arg 3;whnf
   refine Zg (Zc8 (f:=Zp) (g:=Zb) (fun ka kb:Zi=>((ka.maker==kb.maker)&&((ka.user==kb.user)&&((ka.pos==kb.pos)&&true)))) (fun _ _=>rfl) m6_0 x70 (Z1 (fun ka kb:Int=>(ka==kb)) (Zu (fun ka kb:Int=>(ka==kb)) (Zu (fun ka kb:Int=>(ka==kb)) m5_0 c (w64 ((List.length (m3_0++[(Zh.mk c 0)]):Int)-1))) c (w64 ((List.length ((m3_0++[(Zh.mk c 0)])++[(Zh.mk c 1)]):Int)-1))) c 0)) ?_;conv=>arg 3;whnf
   refine Zc _ (Zcw _) fun r83 hr83=>?_;conv=>arg 3;whnf
   exact Zf rfl
 ·exact Zf rfl
def ZeG (t0:Bool) (t1:Bool) (t2:Bool) (t3:Bool) (b:Zk) (c:Int) (m1_0:(List Int)) (m2_0:(List Zn)) (m3_0:(List Zh)) (m4_0:(List (Int×Int))) (m5_0:(List (Int×Int))) (m6_0:(List (Zi×Int))) (x0:(List Int)):(((List (Int×Int))×(List (Zi×Int))×(List Int)×(List Zn)×(List Zh))⊕((List Int)⊕Unit))→Ex×List V×Zm
  | (.inl r)=>(.exit 0,[],[(.cells [(.sl 7 1),(.sl 8 2),(.sl 9 2),(.mp 4),(.mp 5),(.mp 6)]),.dead,.dead,.dead,(.mp (mpD Zb Zb (Zu (fun ka kb:Int=>(ka==kb)) m4_0 c (m3_0.length:Int)))),(.mp (mpD Zb Zb r.1)),(.mp (mpD Zp Zb r.2.1)),(.arr 1 (List.map Zb r.2.2.1)),(.arr 2 (List.map ZC r.2.2.2.1)),(.arr 2 (List.map Zbc r.2.2.2.2))])
  | (.inr (.inl r))=>(.exit 0,[],[(.cells [(.sl 7 1),(.sl 2 2),(.sl 8 2),(.mp 4),(.mp 5),(.mp 6)]),.dead,(.arr 2 (List.map ZC m2_0)),.dead,(.mp (mpD Zb Zb (Zu (fun ka kb:Int=>(ka==kb)) m4_0 c (m3_0.length:Int)))),(.mp (mpD Zb Zb (Zu (fun ka kb:Int=>(ka==kb)) m5_0 c (w64 ((List.length (m3_0++[(Zh.mk c 0)]):Int)-1))))),(.mp (mpD Zp Zb m6_0)),(.arr 1 (List.map Zb r)),(.arr 2 (List.map Zbc (m3_0++[(Zh.mk c 0)])))])
  | (.inr (.inr r))=>(.exit 0,[],[(.cells [(.sl 1 1),(.sl 2 2),(.sl 3 2),(.mp 4),(.mp 5),(.mp 6)]),(.arr 1 (List.map Zb m1_0)),(.arr 2 (List.map ZC m2_0)),(.arr 2 (List.map Zbc m3_0)),(.mp (mpD Zb Zb (Zu (fun ka kb:Int=>(ka==kb)) m4_0 c (m3_0.length:Int)))),(.mp (mpD Zb Zb m5_0)),(.mp (mpD Zp Zb m6_0))])
theorem ZgU {t0:Bool}{t1:Bool}{t2:Bool}{t3:Bool}{b:Zk}{c:Int}{m1_0:(List Int)}{m2_0:(List Zn)}{m3_0:(List Zh)}{m4_0:(List (Int×Int))}{m5_0:(List (Int×Int))}{m6_0:(List (Zi×Int))}{x0:(List Int)}:∀(s1:Unit) (r:(((List (Int×Int))×(List (Zi×Int))×(List Int)×(List Zn)×(List Zh))⊕((List Int)⊕Unit))),lp (Zbp b c m1_0 m2_0 m3_0 m5_0 m6_0 x0) s1=some r→lpW ctx 7 [0,2,4,6,7,26,27] [] Zn0 [(.ptr 0 0),(.d (Zb c)),(.ptr 7 0),(.d (Zb 0)),(.d (D.list true (List.map Zb x0))),(.d (Zb (w64 ((x0.length:Int)+1)))),(.d (Zb 0))] [(.cells [(.sl 1 1),(.sl 2 2),(.sl 3 2),(.mp 4),(.mp 5),(.mp 6)]),(.arr 1 (List.map Zb m1_0)),(.arr 2 (List.map ZC m2_0)),(.arr 2 (List.map Zbc m3_0)),(.mp (mpD Zb Zb (Zu (fun ka kb:Int=>(ka==kb)) m4_0 c (m3_0.length:Int)))),(.mp (mpD Zb Zb m5_0)),(.mp (mpD Zp Zb m6_0)),(.cells (dV t0 t1 t2 t3 b))]=some ((ZeG t0 t1 t2 t3 b c m1_0 m2_0 m3_0 m4_0 m5_0 m6_0 x0) r):=by
 refine ZaU (ZeG t0 t1 t2 t3 b c m1_0 m2_0 m3_0 m4_0 m5_0 m6_0 x0) ?_
 intro s1 rcl ih
 show ZQ _ _ (lpW _ _ _ _ _ _ _)
 unfold Zbp
 rw[ZaV]
 conv=>arg 3;whnf
 refine Ze rfl ?_ ?_<;>conv=>arg 3;whnf
 ·refine Zl rfl rfl fun x2 hx2=>?_;conv=>arg 3;whnf
  refine Zo (ZL _ _) ?_;conv=>arg 3;whnf
  refine Ze rfl ?_ ?_<;>conv=>arg 3;whnf
  ·refine Zl rfl rfl fun x3 hx3=>?_;conv=>arg 3;whnf
   refine Zl rfl rfl fun x4 hx4=>?_;conv=>arg 3;whnf
   refine Zc _ ZaI fun x5 hx5=>?_;conv=>arg 3;whnf
   refine Zg (Zc8 (f:=Zb) (g:=Zb) (fun ka kb:Int=>(ka==kb)) (fun _ _=>rfl) m5_0 c (w64 ((List.length (m3_0++[(Zh.mk c 0)]):Int)-1))) ?_;conv=>arg 3;whnf
   refine Zaj rfl ?_;conv=>arg 3;whnf
   refine Zc _ (ZgJ _) fun r44 hr44=>?_
   clear hr44
   rcases r44 with r44 | r44
   ·conv=>arg 3;whnf
    exact Zf rfl
   ·conv=>arg 3;whnf
    exact Zf rfl
  ·refine Zc _ ZaI fun x45 hx45=>?_;conv=>arg 3;whnf
   refine Zg (Zc8 (f:=Zb) (g:=Zb) (fun ka kb:Int=>(ka==kb)) (fun _ _=>rfl) m5_0 c (w64 ((List.length (m3_0++[(Zh.mk c 0)]):Int)-1))) ?_;conv=>arg 3;whnf
   refine Zaj rfl ?_;conv=>arg 3;whnf
   refine Zc _ (ZgS _) fun r84 hr84=>?_
   clear hr84
   rcases r84 with r84 | r84
   ·conv=>arg 3;whnf
    exact Zf rfl
   ·conv=>arg 3;whnf
    exact Zf rfl
 ·exact Zf rfl
theorem ZiY {t0:Bool}{t1:Bool}{t2:Bool}{t3:Bool}{b:Zk}{c:Int}{m1_0:(List Int)}{m2_0:(List Zn)}{m3_0:(List Zh)}{m4_0:(List (Int×Int))}{m5_0:(List (Int×Int))}{m6_0:(List (Zi×Int))}:∀r,(Zc9 b c m1_0 m2_0 m3_0 m5_0 m6_0)=some r→evW ctx 66 [(.ptr 0 0),(.d (D.agg (dA t0 t1 t2 t3 b))),(.d (Zb c))] [(.cells [(.sl 1 1),(.sl 2 2),(.sl 3 2),(.mp 4),(.mp 5),(.mp 6)]),(.arr 1 (List.map Zb m1_0)),(.arr 2 (List.map ZC m2_0)),(.arr 2 (List.map Zbc m3_0)),(.mp (mpD Zb Zb m4_0)),(.mp (mpD Zb Zb m5_0)),(.mp (mpD Zp Zb m6_0))]=some ((ZfU t0 t1 t2 t3 b c m1_0 m2_0 m3_0 m4_0 m5_0 m6_0) r):=by
 show ZQ _ (fun r rhs=>rhs=some ((ZfU t0 t1 t2 t3 b c m1_0 m2_0 m3_0 m4_0 m5_0 m6_0) r)) _
 unfold Zc9
 rw[Ze4 ctx 66 ZyP _ _ rfl rfl]
 conv=>arg 3;whnf
 refine Zo (ZL _ _) ?_;conv=>arg 3;whnf
 refine Zg (Zc8 (f:=Zb) (g:=Zb) (fun ka kb:Int=>(ka==kb)) (fun _ _=>rfl) m4_0 c (m3_0.length:Int)) ?_;conv=>arg 3;whnf
 refine Zr _ ZhF rfl fun x0 hx0=>?_;conv=>arg 3;whnf
 refine Zo (ZL _ _) ?_;conv=>arg 3;whnf
 refine Zc _ (ZgU _) fun r85 hr85=>?_
 clear hr85
 rcases r85 with r85 | (r85 | r85)
 ·conv=>arg 3;whnf
  exact Zf rfl
 ·conv=>arg 3;whnf
  exact Zf rfl
 ·conv=>arg 3;whnf
  exact Zf rfl
def Zja (r:Bool):D:=(D.bool r)
theorem Zl1 {a:Int}:∀r,(ZcL a)=some r→evD ctx 102 [(.d (Zb a))]=some (Zja r):=by
 show ZQ _ (fun r rhs=>rhs=some (Zja r)) _
 unfold ZcL
 rw[Zbe ctx 102 Zva _ rfl rfl]
 conv=>arg 3;whnf
 refine Ze rfl ?_ ?_<;>conv=>arg 3;whnf
 ·exact Zf rfl
 ·refine Ze rfl ?_ ?_<;>conv=>arg 3;whnf
  ·exact Zf rfl
  ·exact Zf rfl
def Zcm (r:Int):D:=(Zb r)
def Zb5 (t0:Bool) (a:(List Int)):(Int⊕Unit)→Ex×List V×Zm
  | (.inl r)=>(.ret,[(.d (Zb r))],[])
  | (.inr r)=>(.exit 0,[.bad],[])
theorem ZdQ {t0:Bool}{a:(List Int)}:∀(s0:Int) (r:(Int⊕Unit)),lp (Zal a (fun z0=>ZcL z0)) s0=some r→lpW ctx 0 [0,1,7,8] [4] ZpR [(.d (D.list t0 (List.map Zb a))),(.d (D.fn 102 [])),(.d (Zb (a.length:Int))),(.d (Zb s0))] []=some ((Zb5 t0 a) r):=by
 refine ZaU (Zb5 t0 a) ?_
 intro s0 rcl ih
 show ZQ _ _ (lpW _ _ _ _ _ _ _)
 unfold Zal
 rw[ZaV]
 conv=>arg 3;whnf
 refine Ze rfl ?_ ?_<;>conv=>arg 3;whnf
 ·refine Zl rfl rfl fun x1 hx1=>?_;conv=>arg 3;whnf
  refine Zr _ Zl1 rfl fun x2 hx2=>?_;conv=>arg 3;whnf
  refine Ze rfl ?_ ?_<;>conv=>arg 3;whnf
  ·exact Zf rfl
  ·exact Zd (ih _)
 ·exact Zf rfl
theorem Zec {t0:Bool}{a:(List Int)}:∀r,(ZaS a (fun z0=>ZcL z0))=some r→evD ctx 116 [(.d (D.list t0 (List.map Zb a))),(.d (D.fn 102 []))]=some (Zcm r):=by
 show ZQ _ (fun r rhs=>rhs=some (Zcm r)) _
 unfold ZaS
 rw[Zbe ctx 116 Ztz _ rfl rfl]
 conv=>arg 3;whnf
 refine Zo (ZL _ _) ?_;conv=>arg 3;whnf
 refine Zc _ (ZdQ _) fun r3 hr3=>?_
 clear hr3
 rcases r3 with r3 | r3
 ·conv=>arg 3;whnf
  exact Zf rfl
 ·conv=>arg 3;whnf
  exact Zf rfl
def Zb8 (r:Bool):D:=(D.bool r)
theorem ZdS {t0:Bool}{a:(List Int)}:∀r,(Z4 a (fun z0=>ZcL z0))=some r→evD ctx 93 [(.d (D.list t0 (List.map Zb a))),(.d (D.fn 102 []))]=some (Zb8 r):=by
 show ZQ _ (fun r rhs=>rhs=some (Zb8 r)) _
 unfold Z4
 rw[Zbe ctx 93 Zxh _ rfl rfl]
 conv=>arg 3;whnf
 refine Zr _ Zec rfl fun x0 hx0=>?_;conv=>arg 3;whnf
 refine Ze rfl ?_ ?_<;>conv=>arg 3;whnf
 ·exact Zf rfl
 ·exact Zf rfl
def Zjc (r:Bool):D:=(D.bool r)
theorem Zie {t0:Bool}{t1:Bool}{a:Int}{b0:(List Int)}{b1:(List Zn)}:∀r,(Zew a b0)=some r→evD ctx 103 [(.d (Zb a)),(.d (D.rptr [(D.list t0 (List.map Zb b0)),(D.list t1 (List.map ZC b1))]))]=some (Zjc r):=by
 show ZQ _ (fun r rhs=>rhs=some (Zjc r)) _
 unfold Zew
 rw[Zbe ctx 103 Zvl _ rfl rfl]
 conv=>arg 3;whnf
 refine Ze rfl ?_ ?_<;>conv=>arg 3;whnf
 ·refine Zo (ZL _ _) ?_;conv=>arg 3;whnf
  refine Ze rfl ?_ ?_<;>conv=>arg 3;whnf
  ·exact Zf rfl
  ·exact Zf rfl
 ·exact Zf rfl
def Zkk (r:((List Int)×Bool)):D:=(D.tup [(D.list true (List.map Zb r.1)),(D.bool r.2)])
def Ziy (t0:Bool) (t1:Bool) (a:Zcc) (s0:(List Int)×(List Bool)) (s1:Int):(Unit⊕Unit)→Ex×List V×Zm
  | (.inl r)=>(.exit 3,[(.ptr 0 0),(.sl 1 1),(.sl 2 1),(.d (Zb s1)),(.d (Zb (a.work.length:Int))),(.d (Zb s1))],[(.cells [(.d (D.list t0 (List.map Zb a.work))),(.d (D.list t1 (List.map ZC a.edges)))]),(.arr 1 (List.map Zb s0.1)),(.arr 1 (List.map D.bool s0.2))])
  | (.inr r)=>(.exit 4,[(.ptr 0 0),(.sl 1 1),(.sl 2 1),(.d (Zb s1)),(.d (Zb (a.work.length:Int))),(.d (Zb s1))],[(.cells [(.d (D.list t0 (List.map Zb a.work))),(.d (D.list t1 (List.map ZC a.edges)))]),(.arr 1 (List.map Zb s0.1)),(.arr 1 (List.map D.bool s0.2))])
theorem Zlp {t0:Bool}{t1:Bool}{a:Zcc}{s0:(List Int)×(List Bool)}{s1:Int}:∀(s3:Int) (r:(Unit⊕Unit)),lp (Zeb a s0 s1) s3=some r→lpW ctx 0 [1,4,5,6,21,22,30,31,32] [1,4,5,6,21,22] Zv1 [(.ptr 0 0),(.sl 1 1),(.sl 2 1),(.d (Zb s1)),(.d (Zb (a.work.length:Int))),(.d (Zb s1)),(.d (D.list t1 (List.map ZC a.edges))),(.d (Zb (a.edges.length:Int))),(.d (Zb s3))] [(.cells [(.d (D.list t0 (List.map Zb a.work))),(.d (D.list t1 (List.map ZC a.edges)))]),(.arr 1 (List.map Zb s0.1)),(.arr 1 (List.map D.bool s0.2))]=some ((Ziy t0 t1 a s0 s1) r):=by
 refine ZaU (Ziy t0 t1 a s0 s1) ?_
 intro s3 rcl ih
 show ZQ _ _ (lpW _ _ _ _ _ _ _)
 unfold Zeb
 rw[ZaV]
 conv=>arg 3;whnf
 refine Ze rfl ?_ ?_<;>conv=>arg 3;whnf
 ·refine Zl rfl rfl fun x4 hx4=>?_;conv=>arg 3;whnf
  refine Ze rfl ?_ ?_<;>conv=>arg 3;whnf
  ·refine Zl rfl rfl fun x5 hx5=>?_;conv=>arg 3;whnf
   refine Zg (Zy rfl hx5) ?_;conv=>arg 3;whnf
   refine Ze rfl ?_ ?_<;>conv=>arg 3;whnf
   ·exact Zd (ih _)
   ·exact Zf rfl
  ·exact Zd (ih _)
 ·exact Zf rfl
def Zir (t0:Bool) (t1:Bool) (a:Zcc) (s0:(List Int)×(List Bool)):(((List Int)×(List Bool))⊕Unit)→Ex×List V×Zm
  | (.inl r)=>(.exit 1,[(.ptr 0 0),(.sl 1 1),(.sl 2 1)],[(.cells [(.d (D.list t0 (List.map Zb a.work))),(.d (D.list t1 (List.map ZC a.edges)))]),(.arr 1 (List.map Zb r.1)),(.arr 1 (List.map D.bool r.2))])
  | (.inr r)=>(.exit 2,[(.ptr 0 0),(.sl 1 1),(.sl 2 1)],[(.cells [(.d (D.list t0 (List.map Zb a.work))),(.d (D.list t1 (List.map ZC a.edges)))]),(.arr 1 (List.map Zb s0.1)),(.arr 1 (List.map D.bool s0.2))])
theorem Zlx {t0:Bool}{t1:Bool}{a:Zcc}{s0:(List Int)×(List Bool)}:∀(s1:Int) (r:(((List Int)×(List Bool))⊕Unit)),lp (Zdr a s0) s1=some r→lpW ctx 0 [1,4,5,21,22] [1,4,5] ZvI [(.ptr 0 0),(.sl 1 1),(.sl 2 1),(.d (Zb (a.work.length:Int))),(.d (Zb s1))] [(.cells [(.d (D.list t0 (List.map Zb a.work))),(.d (D.list t1 (List.map ZC a.edges)))]),(.arr 1 (List.map Zb s0.1)),(.arr 1 (List.map D.bool s0.2))]=some ((Zir t0 t1 a s0) r):=by
 refine ZaU (Zir t0 t1 a s0) ?_
 intro s1 rcl ih
 show ZQ _ _ (lpW _ _ _ _ _ _ _)
 unfold Zdr
 rw[ZaV]
 conv=>arg 3;whnf
 refine Ze rfl ?_ ?_<;>conv=>arg 3;whnf
 ·refine Zl rfl rfl fun x2 hx2=>?_;conv=>arg 3;whnf
  refine Zg (Zy rfl hx2) ?_;conv=>arg 3;whnf
  refine Ze rfl ?_ ?_<;>conv=>arg 3;whnf
  ·exact Zd (ih _)
  ·refine Zo (ZL _ _) ?_;conv=>arg 3;whnf
   refine Zc _ (Zlp _) fun r6 hr6=>?_
   clear hr6
   rcases r6 with r6 | r6
   ·conv=>arg 3;whnf
    exact Zd (ih _)
   ·conv=>arg 3;whnf
    refine Zg (Zbm rfl hx2) ?_;conv=>arg 3;whnf
    refine Zg (Zy rfl hx2) ?_;conv=>arg 3;whnf
    refine Zo (ZaB D.bool s0.2 s1.toNat true) ?_;conv=>arg 3;whnf
    refine ZbP rfl ?_;conv=>arg 3;whnf
    refine Ze (ZgT Zb s0.1 1) ?_ ?_
    ·conv=>arg 3;whnf
     refine Zo (Zgb Zb s0.1 [s1]) ?_;conv=>arg 3;whnf
     exact Zf rfl
    ·exact Z7
 ·exact Zf rfl
def Zia (t0:Bool) (t1:Bool) (a:Zcc):((List Int)⊕(List Int))→Ex×List V×Zm
  | (.inl r)=>(.ret,[(.nilsl 1),(.d (D.bool false)),(.sl 0 1)],[(.arr 1 (List.map Zb r))])
  | (.inr r)=>(.exit 0,[.bad,.bad,(.sl 0 1)],[(.arr 1 (List.map Zb r))])
theorem ZlJ {t0:Bool}{t1:Bool}{a:Zcc}:∀(s0:(List Int)×(List Bool)) (r:((List Int)⊕(List Int))),lp (Zed a) s0=some r→lpW ctx 0 [1,4,5] [2,3,4] Zus [(.ptr 0 0),(.sl 1 1),(.sl 2 1)] [(.cells [(.d (D.list t0 (List.map Zb a.work))),(.d (D.list t1 (List.map ZC a.edges)))]),(.arr 1 (List.map Zb s0.1)),(.arr 1 (List.map D.bool s0.2))]=some ((Zia t0 t1 a) r):=by
 refine ZaU (Zia t0 t1 a) ?_
 intro s0 rcl ih
 show ZQ _ _ (lpW _ _ _ _ _ _ _)
 unfold Zed
 rw[ZaV]
 conv=>arg 3;whnf
 refine Zo (ZL _ _) ?_;conv=>arg 3;whnf
 refine Zo (ZL _ _) ?_;conv=>arg 3;whnf
 refine Ze rfl ?_ ?_<;>conv=>arg 3;whnf
 ·refine Zo (ZL _ _) ?_;conv=>arg 3;whnf
  refine Zc _ (Zlx _) fun r7 hr7=>?_
  clear hr7
  rcases r7 with r7 | r7
  ·conv=>arg 3;whnf
   exact Zd (ih _)
  ·conv=>arg 3;whnf
   exact Zf rfl
 ·exact Zf rfl
theorem Zju {t0:Bool}{t1:Bool}{a:Zcc}:∀r,(Zef a)=some r→evD ctx 77 [(.d (D.agg [(D.list t0 (List.map Zb a.work)),(D.list t1 (List.map ZC a.edges))]))]=some (Zkk r):=by
 show ZQ _ (fun r rhs=>rhs=some (Zkk r)) _
 unfold Zef
 rw[Zbe ctx 77 Zym _ rfl rfl]
 conv=>arg 3;whnf
 refine Zo (ZL _ _) ?_;conv=>arg 3;whnf
 refine Ze rfl ?_ ?_
 ·conv=>arg 3;whnf
  refine Zo (Zqd D.bool (false:Bool) (a.work.length:Int)) ?_;conv=>arg 3;whnf
  refine Zc _ (ZlJ _) fun r8 hr8=>?_
  clear hr8
  rcases r8 with r8 | r8
  ·conv=>arg 3;whnf
   exact Zf rfl
  ·conv=>arg 3;whnf
   exact Zf rfl
 ·exact Z7
def Zkp (r:Int):D:=(Zb r)
def Zig (t0:Bool) (t1:Bool) (a:Zcc):(Unit⊕Unit)→Ex×List V×Zm
  | (.inl r)=>(.ret,[(.ptr 0 0),(.d (Zb 42))],[(.cells [(.d (D.list t0 (List.map Zb a.work))),(.d (D.list t1 (List.map ZC a.edges)))])])
  | (.inr r)=>(.exit 0,[(.ptr 0 0),.bad],[(.cells [(.d (D.list t0 (List.map Zb a.work))),(.d (D.list t1 (List.map ZC a.edges)))])])
theorem ZlK {t0:Bool}{t1:Bool}{a:Zcc}:∀(s1:Int) (r:(Unit⊕Unit)),lp (ZdB a) s1=some r→lpW ctx 0 [1,3,23,24,25] [1,2] ZuU [(.ptr 0 0),(.fn 103 [(.ptr 0 0)]),(.d (D.list t1 (List.map ZC a.edges))),(.d (Zb (a.edges.length:Int))),(.d (Zb s1))] [(.cells [(.d (D.list t0 (List.map Zb a.work))),(.d (D.list t1 (List.map ZC a.edges)))])]=some ((Zig t0 t1 a) r):=by
 refine ZaU (Zig t0 t1 a) ?_
 intro s1 rcl ih
 show ZQ _ _ (lpW _ _ _ _ _ _ _)
 unfold ZdB
 rw[ZaV]
 conv=>arg 3;whnf
 refine Ze rfl ?_ ?_<;>conv=>arg 3;whnf
 ·refine Zl rfl rfl fun x2 hx2=>?_;conv=>arg 3;whnf
  refine Zr _ Zie rfl fun x3 hx3=>?_;conv=>arg 3;whnf
  refine Ze rfl ?_ ?_<;>conv=>arg 3;whnf
  ·refine Zr _ Zie rfl fun x4 hx4=>?_;conv=>arg 3;whnf
   refine Ze rfl ?_ ?_<;>conv=>arg 3;whnf
   ·refine Ze rfl ?_ ?_<;>conv=>arg 3;whnf
    ·exact Zf rfl
    ·refine Ze rfl ?_ ?_
     ·conv=>arg 3;whnf
      refine Ze (Zvi ZC a.edges s1.toNat) ?_ ?_
      ·conv=>arg 3;whnf
       refine ZbP rfl ?_;conv=>arg 3;whnf
       refine Zo (Zqr ZC a.edges s1.toNat) ?_;conv=>arg 3;whnf
       refine Zr _ ZdT rfl fun x5 hx5=>?_;conv=>arg 3;whnf
       refine Ze rfl ?_ ?_<;>conv=>arg 3;whnf
       ·exact Zf rfl
       ·exact Zd (ih _)
      ·exact Z7
     ·exact Z7
   ·exact Zf rfl
  ·exact Zf rfl
 ·exact Zf rfl
theorem ZjH {t0:Bool}{t1:Bool}{a:Zcc}:∀r,(Zfw a)=some r→evD ctx 69 [(.d (D.agg [(D.list t0 (List.map Zb a.work)),(D.list t1 (List.map ZC a.edges))]))]=some (Zkp r):=by
 show ZQ _ (fun r rhs=>rhs=some (Zkp r)) _
 unfold Zfw
 rw[Zbe ctx 69 Zzd _ rfl rfl]
 conv=>arg 3;whnf
 refine Zo (ZL _ _) ?_;conv=>arg 3;whnf
 refine Ze rfl ?_ ?_<;>conv=>arg 3;whnf
 ·exact Zf rfl
 ·refine Zo (ZL _ _) ?_;conv=>arg 3;whnf
  refine Ze rfl ?_ ?_<;>conv=>arg 3;whnf
  ·exact Zf rfl
  ·refine Zr _ ZdS rfl fun x0 hx0=>?_;conv=>arg 3;whnf
   refine Ze rfl ?_ ?_<;>conv=>arg 3;whnf
   ·exact Zf rfl
   ·refine Zo (ZL _ _) ?_;conv=>arg 3;whnf
    refine Zc _ (ZlK _) fun r6 hr6=>?_
    clear hr6
    rcases r6 with r6 | r6
    ·conv=>arg 3;whnf
     exact Zf rfl
    ·conv=>arg 3;whnf
     refine Zr _ Zju rfl fun x7 hx7=>?_;conv=>arg 3;whnf
     refine Ze rfl ?_ ?_<;>conv=>arg 3;whnf
     ·exact Zf rfl
     ·exact Zf rfl
def Zi4 (r:(Zk8×Int)):D:=(D.tup [(D.agg [(D.list true (List.map Zb r.1.dag.work)),(D.list true (List.map ZC r.1.dag.edges)),(D.list true (List.map Zbc r.1.pieces))]),(Zb r.2)])
def Zhb (t0:Bool) (t1:Bool) (t2:Bool) (t3:Bool) (a:Zk):((List Int)×(List Zn)×(List Zh)×(List (Int×Int))×(List (Int×Int))×(List (Zi×Int)))→Ex×List V×Zm
  | r=>(.exit 0,[(.ptr 0 0),(.ptr 1 0),(.ptr 2 0)],[(.cells (dV t0 t1 t2 t3 a)),(.cells [(.sl 3 1),(.sl 4 2),(.sl 5 2)]),(.cells [(.sl 6 1),(.sl 7 2),(.sl 8 2),(.mp 9),(.mp 10),(.mp 11)]),(.arr 1 []),(.arr 2 []),(.arr 2 []),(.arr 1 (List.map Zb r.1)),(.arr 2 (List.map ZC r.2.1)),(.arr 2 (List.map Zbc r.2.2.1)),(.mp (mpD Zb Zb r.2.2.2.1)),(.mp (mpD Zb Zb r.2.2.2.2.1)),(.mp (mpD Zp Zb r.2.2.2.2.2))])
theorem Zkc {t0:Bool}{t1:Bool}{t2:Bool}{t3:Bool}{a:Zk}:∀(s1:Int×(List Int)×(List Zn)×(List Zh)×(List (Int×Int))×(List (Int×Int))×(List (Zi×Int))) (r:((List Int)×(List Zn)×(List Zh)×(List (Int×Int))×(List (Int×Int))×(List (Zi×Int)))),lp (Zci a) s1=some r→lpW ctx 0 [1,2,5,31,32] [1,2,5] Zvo [(.ptr 0 0),(.ptr 1 0),(.ptr 2 0),(.d (Zb (a.parts.length:Int))),(.d (Zb s1.1))] [(.cells (dV t0 t1 t2 t3 a)),(.cells [(.sl 3 1),(.sl 4 2),(.sl 5 2)]),(.cells [(.sl 6 1),(.sl 7 2),(.sl 8 2),(.mp 9),(.mp 10),(.mp 11)]),(.arr 1 []),(.arr 2 []),(.arr 2 []),(.arr 1 (List.map Zb s1.2.1)),(.arr 2 (List.map ZC s1.2.2.1)),(.arr 2 (List.map Zbc s1.2.2.2.1)),(.mp (mpD Zb Zb s1.2.2.2.2.1)),(.mp (mpD Zb Zb s1.2.2.2.2.2.1)),(.mp (mpD Zp Zb s1.2.2.2.2.2.2))]=some ((Zhb t0 t1 t2 t3 a) r):=by
 refine ZaU (Zhb t0 t1 t2 t3 a) ?_
 intro s1 rcl ih
 show ZQ _ _ (lpW _ _ _ _ _ _ _)
 unfold Zci
 rw[ZaV]
 conv=>arg 3;whnf
 refine Ze rfl ?_ ?_<;>conv=>arg 3;whnf
 ·refine Zc _ ZiY fun x2 hx2=>?_
  clear hx2
  rcases x2 with x2 | (x2 | x2)
  ·conv=>arg 3;whnf
   exact Zd (ih _)
  ·conv=>arg 3;whnf
   exact Zd (ih _)
  ·conv=>arg 3;whnf
   exact Zd (ih _)
 ·exact Zf rfl
def Zha (t0:Bool) (t1:Bool) (t2:Bool) (t3:Bool) (a:Zk) (r3:((List Int)×(List Zn)×(List Zh)×(List (Int×Int))×(List (Int×Int))×(List (Zi×Int)))):(List Zn)→Ex×List V×Zm
  | r=>(.exit 2,[(.ptr 0 0),(.ptr 1 0),(.ptr 2 0)],[(.cells (dV t0 t1 t2 t3 a)),(.cells [(.sl 3 1),(.sl 4 2),(.sl 5 2)]),(.cells [(.sl 6 1),(.sl 7 2),(.sl 8 2),(.mp 9),(.mp 10),(.mp 11)]),(.arr 1 []),(.arr 2 []),(.arr 2 []),(.arr 1 (List.map Zb r3.1)),(.arr 2 (List.map ZC r)),(.arr 2 (List.map Zbc r3.2.2.1)),(.mp (mpD Zb Zb r3.2.2.2.1)),(.mp (mpD Zb Zb r3.2.2.2.2.1)),(.mp (mpD Zp Zb r3.2.2.2.2.2))])
theorem Zka {t0:Bool}{t1:Bool}{t2:Bool}{t3:Bool}{a:Zk}{r3:((List Int)×(List Zn)×(List Zh)×(List (Int×Int))×(List (Int×Int))×(List (Zi×Int)))}:∀(s4:Int×(List Zn)) (r:(List Zn)),lp (ZcD a r3) s4=some r→lpW ctx 0 [1,2,5,41,42,43] [1,2,5] ZuA [(.ptr 0 0),(.ptr 1 0),(.ptr 2 0),(.d (D.list t1 (List.map ZC a.edges))),(.d (Zb (a.edges.length:Int))),(.d (Zb s4.1))] [(.cells (dV t0 t1 t2 t3 a)),(.cells [(.sl 3 1),(.sl 4 2),(.sl 5 2)]),(.cells [(.sl 6 1),(.sl 7 2),(.sl 8 2),(.mp 9),(.mp 10),(.mp 11)]),(.arr 1 []),(.arr 2 []),(.arr 2 []),(.arr 1 (List.map Zb r3.1)),(.arr 2 (List.map ZC s4.2)),(.arr 2 (List.map Zbc r3.2.2.1)),(.mp (mpD Zb Zb r3.2.2.2.1)),(.mp (mpD Zb Zb r3.2.2.2.2.1)),(.mp (mpD Zp Zb r3.2.2.2.2.2))]=some ((Zha t0 t1 t2 t3 a r3) r):=by
 refine ZaU (Zha t0 t1 t2 t3 a r3) ?_
 intro s4 rcl ih
 show ZQ _ _ (lpW _ _ _ _ _ _ _)
 unfold ZcD
 rw[ZaV]
 conv=>arg 3;whnf
 refine Ze rfl ?_ ?_<;>conv=>arg 3;whnf
 ·refine Zl rfl rfl fun x5 hx5=>?_;conv=>arg 3;whnf
  refine Zg (Zbl (f:=Zb) (g:=Zb) (fun ka kb:Int=>(ka==kb)) (fun _ _=>rfl) r3.2.2.2.2.1 x5.src 0) ?_;conv=>arg 3;whnf
  refine Zg (Zbl (f:=Zb) (g:=Zb) (fun ka kb:Int=>(ka==kb)) (fun _ _=>rfl) r3.2.2.2.1 x5.dst 0) ?_;conv=>arg 3;whnf
  refine Zc _ Zap fun x6 hx6=>?_;conv=>arg 3;whnf
  exact Zd (ih _)
 ·exact Zf rfl
def Zhm (t0:Bool) (t1:Bool) (t2:Bool) (t3:Bool) (a:Zk) (r3:((List Int)×(List Zn)×(List Zh)×(List (Int×Int))×(List (Int×Int))×(List (Zi×Int)))):(List Zn)→Ex×List V×Zm
  | r=>(.exit 4,[(.ptr 0 0),(.ptr 1 0),(.ptr 2 0)],[(.cells (dV t0 t1 t2 t3 a)),(.cells [(.sl 3 1),(.sl 4 2),(.sl 5 2)]),(.cells [(.sl 6 1),(.sl 7 2),(.sl 8 2),(.mp 9),(.mp 10),(.mp 11)]),(.arr 1 []),(.arr 2 []),(.arr 2 []),(.arr 1 (List.map Zb r3.1)),(.arr 2 (List.map ZC r)),(.arr 2 (List.map Zbc r3.2.2.1)),(.mp (mpD Zb Zb r3.2.2.2.1)),(.mp (mpD Zb Zb r3.2.2.2.2.1)),(.mp (mpD Zp Zb r3.2.2.2.2.2))])
theorem Zj7 {t0:Bool}{t1:Bool}{t2:Bool}{t3:Bool}{a:Zk}{r3:((List Int)×(List Zn)×(List Zh)×(List (Int×Int))×(List (Int×Int))×(List (Zi×Int)))}:∀(s8:Int×(List Zn)) (r:(List Zn)),lp (ZcG a r3) s8=some r→lpW ctx 0 [1,2,5,65,66,67] [1,2,5] Zv3 [(.ptr 0 0),(.ptr 1 0),(.ptr 2 0),(.d (D.list t2 (List.map Zp a.futures))),(.d (Zb (a.futures.length:Int))),(.d (Zb s8.1))] [(.cells (dV t0 t1 t2 t3 a)),(.cells [(.sl 3 1),(.sl 4 2),(.sl 5 2)]),(.cells [(.sl 6 1),(.sl 7 2),(.sl 8 2),(.mp 9),(.mp 10),(.mp 11)]),(.arr 1 []),(.arr 2 []),(.arr 2 []),(.arr 1 (List.map Zb r3.1)),(.arr 2 (List.map ZC s8.2)),(.arr 2 (List.map Zbc r3.2.2.1)),(.mp (mpD Zb Zb r3.2.2.2.1)),(.mp (mpD Zb Zb r3.2.2.2.2.1)),(.mp (mpD Zp Zb r3.2.2.2.2.2))]=some ((Zhm t0 t1 t2 t3 a r3) r):=by
 refine ZaU (Zhm t0 t1 t2 t3 a r3) ?_
 intro s8 rcl ih
 show ZQ _ _ (lpW _ _ _ _ _ _ _)
 unfold ZcG
 rw[ZaV]
 conv=>arg 3;whnf
 refine Ze rfl ?_ ?_<;>conv=>arg 3;whnf
 ·refine Zl rfl rfl fun x9 hx9=>?_;conv=>arg 3;whnf
  refine Zg (Zbl (f:=Zb) (g:=Zb) (fun ka kb:Int=>(ka==kb)) (fun _ _=>rfl) r3.2.2.2.2.1 x9.maker 0) ?_;conv=>arg 3;whnf
  refine Zg (Zbl (f:=Zp) (g:=Zb) (fun ka kb:Zi=>((ka.maker==kb.maker)&&((ka.user==kb.user)&&((ka.pos==kb.pos)&&true)))) (fun _ _=>rfl) r3.2.2.2.2.2 x9 0) ?_;conv=>arg 3;whnf
  refine Zc _ Zap fun x10 hx10=>?_;conv=>arg 3;whnf
  exact Zd (ih _)
 ·exact Zf rfl
def Zhn (t3:Bool) (a:Zk) (r3:((List Int)×(List Zn)×(List Zh)×(List (Int×Int))×(List (Int×Int))×(List (Zi×Int)))) (s12:Int×(List Int)×(List Zn)×(List Zh)) (x13:Zs):(List Zn)→Ex×List V×Zm
  | r=>(.exit 8,[(.ptr 0 0),(.ptr 1 0),(.ptr 2 0),(.d (Zb (w64 ((List.length (s12.2.2.2++[(Zh.mk (-1) s12.1)]):Int)-1)))),(.d (D.list t3 (List.map Zv a.barriers))),(.d (Zb (a.barriers.length:Int))),(.d (Zb s12.1))],[(.cells [(.sl 3 1),(.sl 4 2),(.sl 5 2)]),(.cells [(.sl 6 1),(.sl 7 2),(.sl 8 2),(.mp 9),(.mp 10),(.mp 11)]),(.cells [(.d (D.list true (List.map Zb x13.ins))),(.d (D.list true (List.map Zb x13.outs)))]),(.arr 1 []),(.arr 2 []),(.arr 2 []),(.arr 1 (List.map Zb (s12.2.1++[1]))),(.arr 2 (List.map ZC r)),(.arr 2 (List.map Zbc (s12.2.2.2++[(Zh.mk (-1) s12.1)]))),(.mp (mpD Zb Zb r3.2.2.2.1)),(.mp (mpD Zb Zb r3.2.2.2.2.1)),(.mp (mpD Zp Zb r3.2.2.2.2.2))])
theorem Zj8 {t3:Bool}{a:Zk}{r3:((List Int)×(List Zn)×(List Zh)×(List (Int×Int))×(List (Int×Int))×(List (Zi×Int)))}{s12:Int×(List Int)×(List Zn)×(List Zh)}{x13:Zs}:∀(s15:Int×(List Zn)) (r:(List Zn)),lp (Zdk r3 s12 x13) s15=some r→lpW ctx 0 [2,5,12,13,88,89,90,100,101,102] [2,5,12,13,88,89,90] Zv2 [(.ptr 0 0),(.ptr 1 0),(.ptr 2 0),(.d (Zb (w64 ((List.length (s12.2.2.2++[(Zh.mk (-1) s12.1)]):Int)-1)))),(.d (D.list t3 (List.map Zv a.barriers))),(.d (Zb (a.barriers.length:Int))),(.d (Zb s12.1)),(.d (D.list true (List.map Zb x13.ins))),(.d (Zb (x13.ins.length:Int))),(.d (Zb s15.1))] [(.cells [(.sl 3 1),(.sl 4 2),(.sl 5 2)]),(.cells [(.sl 6 1),(.sl 7 2),(.sl 8 2),(.mp 9),(.mp 10),(.mp 11)]),(.cells [(.d (D.list true (List.map Zb x13.ins))),(.d (D.list true (List.map Zb x13.outs)))]),(.arr 1 []),(.arr 2 []),(.arr 2 []),(.arr 1 (List.map Zb (s12.2.1++[1]))),(.arr 2 (List.map ZC s15.2)),(.arr 2 (List.map Zbc (s12.2.2.2++[(Zh.mk (-1) s12.1)]))),(.mp (mpD Zb Zb r3.2.2.2.1)),(.mp (mpD Zb Zb r3.2.2.2.2.1)),(.mp (mpD Zp Zb r3.2.2.2.2.2))]=some ((Zhn t3 a r3 s12 x13) r):=by
 refine ZaU (Zhn t3 a r3 s12 x13) ?_
 intro s15 rcl ih
 show ZQ _ _ (lpW _ _ _ _ _ _ _)
 unfold Zdk
 rw[ZaV]
 conv=>arg 3;whnf
 refine Ze rfl ?_ ?_<;>conv=>arg 3;whnf
 ·refine Zl rfl rfl fun x16 hx16=>?_;conv=>arg 3;whnf
  refine Zg (Zbl (f:=Zb) (g:=Zb) (fun ka kb:Int=>(ka==kb)) (fun _ _=>rfl) r3.2.2.2.2.1 x16 0) ?_;conv=>arg 3;whnf
  refine Zc _ Zap fun x17 hx17=>?_;conv=>arg 3;whnf
  exact Zd (ih _)
 ·exact Zf rfl
def Zhj (t3:Bool) (a:Zk) (r3:((List Int)×(List Zn)×(List Zh)×(List (Int×Int))×(List (Int×Int))×(List (Zi×Int)))) (s12:Int×(List Int)×(List Zn)×(List Zh)) (x13:Zs):(List Zn)→Ex×List V×Zm
  | r=>(.exit 10,[(.ptr 0 0),(.ptr 1 0),(.d (D.list t3 (List.map Zv a.barriers))),(.d (Zb (a.barriers.length:Int))),(.d (Zb s12.1))],[(.cells [(.sl 2 1),(.sl 3 2),(.sl 4 2)]),(.cells [(.sl 5 1),(.sl 6 2),(.sl 7 2),(.mp 8),(.mp 9),(.mp 10)]),(.arr 1 []),(.arr 2 []),(.arr 2 []),(.arr 1 (List.map Zb (s12.2.1++[1]))),(.arr 2 (List.map ZC r)),(.arr 2 (List.map Zbc (s12.2.2.2++[(Zh.mk (-1) s12.1)]))),(.mp (mpD Zb Zb r3.2.2.2.1)),(.mp (mpD Zb Zb r3.2.2.2.2.1)),(.mp (mpD Zp Zb r3.2.2.2.2.2))])
theorem Zkd {t3:Bool}{a:Zk}{r3:((List Int)×(List Zn)×(List Zh)×(List (Int×Int))×(List (Int×Int))×(List (Zi×Int)))}{s12:Int×(List Int)×(List Zn)×(List Zh)}{x13:Zs}:∀(s19:Int×(List Zn)) (r:(List Zn)),lp (Zdl r3 s12 x13) s19=some r→lpW ctx 0 [2,5,13,88,89,90,117,118,119] [2,5,88,89,90] Zu1 [(.ptr 0 0),(.ptr 1 0),(.d (Zb (w64 ((List.length (s12.2.2.2++[(Zh.mk (-1) s12.1)]):Int)-1)))),(.d (D.list t3 (List.map Zv a.barriers))),(.d (Zb (a.barriers.length:Int))),(.d (Zb s12.1)),(.d (D.list true (List.map Zb x13.outs))),(.d (Zb (x13.outs.length:Int))),(.d (Zb s19.1))] [(.cells [(.sl 2 1),(.sl 3 2),(.sl 4 2)]),(.cells [(.sl 5 1),(.sl 6 2),(.sl 7 2),(.mp 8),(.mp 9),(.mp 10)]),(.arr 1 []),(.arr 2 []),(.arr 2 []),(.arr 1 (List.map Zb (s12.2.1++[1]))),(.arr 2 (List.map ZC s19.2)),(.arr 2 (List.map Zbc (s12.2.2.2++[(Zh.mk (-1) s12.1)]))),(.mp (mpD Zb Zb r3.2.2.2.1)),(.mp (mpD Zb Zb r3.2.2.2.2.1)),(.mp (mpD Zp Zb r3.2.2.2.2.2))]=some ((Zhj t3 a r3 s12 x13) r):=by
 refine ZaU (Zhj t3 a r3 s12 x13) ?_
 intro s19 rcl ih
 show ZQ _ _ (lpW _ _ _ _ _ _ _)
 unfold Zdl
 rw[ZaV]
 conv=>arg 3;whnf
 refine Ze rfl ?_ ?_<;>conv=>arg 3;whnf
 ·refine Zl rfl rfl fun x20 hx20=>?_;conv=>arg 3;whnf
  refine Zg (Zbl (f:=Zb) (g:=Zb) (fun ka kb:Int=>(ka==kb)) (fun _ _=>rfl) r3.2.2.2.1 x20 0) ?_;conv=>arg 3;whnf
  refine Zc _ Zap fun x21 hx21=>?_;conv=>arg 3;whnf
  exact Zd (ih _)
 ·exact Zf rfl
def Zhh (t3:Bool) (a:Zk) (r3:((List Int)×(List Zn)×(List Zh)×(List (Int×Int))×(List (Int×Int))×(List (Zi×Int)))):((List Int)×(List Zn)×(List Zh))→Ex×List V×Zm
  | r=>(.exit 6,[(.ptr 0 0),(.ptr 1 0)],[(.cells [(.sl 2 1),(.sl 3 2),(.sl 4 2)]),(.cells [(.sl 5 1),(.sl 6 2),(.sl 7 2),(.mp 8),(.mp 9),(.mp 10)]),(.arr 1 []),(.arr 2 []),(.arr 2 []),(.arr 1 (List.map Zb r.1)),(.arr 2 (List.map ZC r.2.1)),(.arr 2 (List.map Zbc r.2.2)),(.mp (mpD Zb Zb r3.2.2.2.1)),(.mp (mpD Zb Zb r3.2.2.2.2.1)),(.mp (mpD Zp Zb r3.2.2.2.2.2))])
theorem Zke {t3:Bool}{a:Zk}{r3:((List Int)×(List Zn)×(List Zh)×(List (Int×Int))×(List (Int×Int))×(List (Zi×Int)))}:∀(s12:Int×(List Int)×(List Zn)×(List Zh)) (r:((List Int)×(List Zn)×(List Zh))),lp (ZcF a r3) s12=some r→lpW ctx 0 [2,5,88,89,90] [2,5] ZvC [(.ptr 0 0),(.ptr 1 0),(.d (D.list t3 (List.map Zv a.barriers))),(.d (Zb (a.barriers.length:Int))),(.d (Zb s12.1))] [(.cells [(.sl 2 1),(.sl 3 2),(.sl 4 2)]),(.cells [(.sl 5 1),(.sl 6 2),(.sl 7 2),(.mp 8),(.mp 9),(.mp 10)]),(.arr 1 []),(.arr 2 []),(.arr 2 []),(.arr 1 (List.map Zb s12.2.1)),(.arr 2 (List.map ZC s12.2.2.1)),(.arr 2 (List.map Zbc s12.2.2.2)),(.mp (mpD Zb Zb r3.2.2.2.1)),(.mp (mpD Zb Zb r3.2.2.2.2.1)),(.mp (mpD Zp Zb r3.2.2.2.2.2))]=some ((Zhh t3 a r3) r):=by
 refine ZaU (Zhh t3 a r3) ?_
 intro s12 rcl ih
 show ZQ _ _ (lpW _ _ _ _ _ _ _)
 unfold ZcF
 rw[ZaV]
 conv=>arg 3;whnf
 refine Ze rfl ?_ ?_<;>conv=>arg 3;whnf
 ·refine Zl rfl rfl fun x13 hx13=>?_;conv=>arg 3;whnf
  refine Zc _ ZaI fun x14 hx14=>?_;conv=>arg 3;whnf
  refine Zo (ZL _ _) ?_;conv=>arg 3;whnf
  refine Zc _ (Zj8 _) fun r18 hr18=>?_;conv=>arg 3;whnf
  refine Zo (ZL _ _) ?_;conv=>arg 3;whnf
  refine Zc _ (Zkd _) fun r22 hr22=>?_;conv=>arg 3;whnf
  exact Zd (ih _)
 ·exact Zf rfl
theorem Zim {t0:Bool}{t1:Bool}{t2:Bool}{t3:Bool}{a:Zk}:∀r,(Zez a)=some r→evD ctx 41 [(.d (D.agg (dA t0 t1 t2 t3 a)))]=some (Zi4 r):=by
 show ZQ _ (fun r rhs=>rhs=some (Zi4 r)) _
 unfold Zez
 rw[Zbe ctx 41 ZyS _ rfl rfl]
 conv=>arg 3;whnf
 refine Zr _ Zgx rfl fun x0 hx0=>?_;conv=>arg 3;whnf
 refine Ze rfl ?_ ?_<;>conv=>arg 3;whnf
 ·exact Zf rfl
 ·refine Zo (ZL _ _) ?_;conv=>arg 3;whnf
  refine Zc _ (Zkc _) fun r3 hr3=>?_;conv=>arg 3;whnf
  refine Zo (ZL _ _) ?_;conv=>arg 3;whnf
  refine Zc _ (Zka _) fun r7 hr7=>?_;conv=>arg 3;whnf
  refine Zo (ZL _ _) ?_;conv=>arg 3;whnf
  refine Zc _ (Zj7 _) fun r11 hr11=>?_;conv=>arg 3;whnf
  refine Zo (ZL _ _) ?_;conv=>arg 3;whnf
  refine Zc _ (Zke _) fun r23 hr23=>?_;conv=>arg 3;whnf
  refine Zr _ ZjH rfl fun x24 hx24=>?_;conv=>arg 3;whnf
  refine Ze rfl ?_ ?_<;>conv=>arg 3;whnf
  ·exact Zf rfl
  ·exact Zf rfl
def Zlf (r:(ZaN×Int)):D:=(D.tup [(D.agg [(D.list true (List.map D.bool r.1.done)),(D.list true (List.map Zb r.1.vals))]),(Zb r.2)])
theorem ZoG {t0:Bool}{t1:Bool}{t2:Bool}{t3:Bool}{a:Zk}:∀r,(Zhr a)=some r→evD ctx 14 [(.d (D.agg (dA t0 t1 t2 t3 a)))]=some (Zlf r):=by
 show ZQ _ (fun r rhs=>rhs=some (Zlf r)) _
 unfold Zhr
 rw[Zbe ctx 14 Zzl _ rfl rfl]
 conv=>arg 3;whnf
 refine Zr _ Zim rfl fun x0 hx0=>?_;conv=>arg 3;whnf
 refine Ze rfl ?_ ?_<;>conv=>arg 3;whnf
 ·exact Zf rfl
 ·refine Zo (ZL _ _) ?_;conv=>arg 3;whnf
  refine Ze rfl ?_ ?_
  ·conv=>arg 3;whnf
   refine Zo (Zqd D.bool (false:Bool) (x0.1.pieces.length:Int)) ?_;conv=>arg 3;whnf
   refine Zo (ZL _ _) ?_;conv=>arg 3;whnf
   refine Ze rfl ?_ ?_
   ·conv=>arg 3;whnf
    refine Zo (Zqd Zb (0:Int) (a.parts.length:Int)) ?_;conv=>arg 3;whnf
    exact Zf rfl
   ·exact Z7
  ·exact Z7
def Zkq (r:(List Int)):D:=(D.list true (List.map Zb r))
theorem Znb {t0:Bool}{t1:Bool}{a:Zcc}:∀r,(Zgh a)=some r→evD ctx 45 [(.d (D.agg [(D.list t0 (List.map Zb a.work)),(D.list t1 (List.map ZC a.edges))]))]=some (Zkq r):=by
 show ZQ _ (fun r rhs=>rhs=some (Zkq r)) _
 unfold Zgh
 rw[Zbe ctx 45 ZyT _ rfl rfl]
 conv=>arg 3;whnf
 refine Zr _ ZjH rfl fun x0 hx0=>?_;conv=>arg 3;whnf
 refine Ze rfl ?_ ?_<;>conv=>arg 3;whnf
 ·exact Zf rfl
 ·refine Zr _ Zju rfl fun x1 hx1=>?_;conv=>arg 3;whnf
  refine Ze rfl ?_ ?_<;>conv=>arg 3;whnf
  ·exact Zf rfl
  ·exact Zf rfl
def Zes (t0:Bool) (a:(List Bool)):Unit→V×Zm
  | r=>((.sl 0 1),[(.arr 1 (List.map D.bool a))])
theorem Zgl {t0:Bool}{a:(List Bool)}:∀r,(ZbL a)=some r→evW ctx 73 [(.d (D.list t0 (List.map D.bool a)))] []=some ((Zes t0 a) r):=by
 show ZQ _ (fun r rhs=>rhs=some ((Zes t0 a) r)) _
 unfold ZbL
 rw[Ze4 ctx 73 Zyv _ _ rfl rfl]
 conv=>arg 3;whnf
 refine Ze (ZsK D.bool a) ?_ ?_
 ·conv=>arg 3;whnf
  refine ZbP (Zfe (f:=D.bool) (fun _=>⟨rfl,rfl⟩) a 0) ?_;conv=>arg 3;whnf
  refine Ze (ZfN D.bool a) ?_ ?_
  ·conv=>arg 3;whnf
   refine Zo (rfl:_=List.map D.bool a) ?_;conv=>arg 3;whnf
   exact Zf rfl
  ·exact Z7
 ·exact Z7
def ZeI (t0:Bool) (a:(List Int)):Unit→V×Zm
  | r=>((.sl 0 1),[(.arr 1 (List.map Zb a))])
theorem ZgO {t0:Bool}{a:(List Int)}:∀r,(Zb4 a)=some r→evW ctx 74 [(.d (D.list t0 (List.map Zb a)))] []=some ((ZeI t0 a) r):=by
 show ZQ _ (fun r rhs=>rhs=some ((ZeI t0 a) r)) _
 unfold Zb4
 rw[Ze4 ctx 74 ZyV _ _ rfl rfl]
 conv=>arg 3;whnf
 refine Ze (ZsK Zb a) ?_ ?_
 ·conv=>arg 3;whnf
  refine ZbP (Zfe (f:=Zb) (fun _=>⟨rfl,rfl⟩) a 0) ?_;conv=>arg 3;whnf
  refine Ze (ZfN Zb a) ?_ ?_
  ·conv=>arg 3;whnf
   refine Zo (rfl:_=List.map Zb a) ?_;conv=>arg 3;whnf
   exact Zf rfl
  ·exact Z7
 ·exact Z7
def ZjO (r:Int):D:=(Zb r)
theorem ZmI {t0:Bool}{t1:Bool}{t2:Bool}{a:Zk8}{b:Int}:∀r,(ZfM a b)=some r→evD ctx 75 [(.d (D.agg [(D.list t0 (List.map Zb a.dag.work)),(D.list t1 (List.map ZC a.dag.edges)),(D.list t2 (List.map Zbc a.pieces))])),(.d (Zb b))]=some (ZjO r):=by
 show ZQ _ (fun r rhs=>rhs=some (ZjO r)) _
 unfold ZfM
 rw[Zbe ctx 75 Zz4 _ rfl rfl]
 conv=>arg 3;whnf
 refine Zwb (f:=Zbc) (g:=(fun x:Zh=>(x.part,x.step))) (l:=a.pieces) (fun _=>rfl) fun x0 hx0=>?_;conv=>arg 3;whnf
 exact Zf rfl
def ZjQ (r:(List Int)):D:=(D.list true (List.map Zb r))
def ZhA (t0:Bool) (t1:Bool) (t2:Bool) (t3:Bool) (a:Zk) (b:Int):(List Int)→Ex×List V×Zm
  | r=>(.exit 0,[(.d (Zb b)),(.ptr 0 0),(.sl 1 1)],[(.cells (dV t0 t1 t2 t3 a)),(.arr 1 (List.map Zb r))])
theorem ZkG {t0:Bool}{t1:Bool}{t2:Bool}{t3:Bool}{a:Zk}{b:Int}:∀(s1:Int×(List Int)) (r:(List Int)),lp (Zfi a b) s1=some r→lpW ctx 0 [1,2,5,14,15,16] [1,2,5] ZvB [(.d (Zb b)),(.ptr 0 0),(.sl 1 1),(.d (D.list t1 (List.map ZC a.edges))),(.d (Zb (a.edges.length:Int))),(.d (Zb s1.1))] [(.cells (dV t0 t1 t2 t3 a)),(.arr 1 (List.map Zb s1.2))]=some ((ZhA t0 t1 t2 t3 a b) r):=by
 refine ZaU (ZhA t0 t1 t2 t3 a b) ?_
 intro s1 rcl ih
 show ZQ _ _ (lpW _ _ _ _ _ _ _)
 unfold Zfi
 rw[ZaV]
 conv=>arg 3;whnf
 refine Ze rfl ?_ ?_<;>conv=>arg 3;whnf
 ·refine Zl rfl rfl fun x2 hx2=>?_;conv=>arg 3;whnf
  refine Ze rfl ?_ ?_<;>conv=>arg 3;whnf
  ·refine ZbP rfl ?_;conv=>arg 3;whnf
   refine Ze (ZgT Zb s1.2 1) ?_ ?_
   ·conv=>arg 3;whnf
    refine Zo (Zgb Zb s1.2 [x2.src]) ?_;conv=>arg 3;whnf
    exact Zd (ih _)
   ·exact Z7
  ·exact Zd (ih _)
 ·exact Zf rfl
def ZhK (t0:Bool) (t1:Bool) (t2:Bool) (t3:Bool) (a:Zk) (x4:(List Int)):(List Int)→Ex×List V×Zm
  | r=>(.exit 2,[(.sl 0 1)],[(.arr 1 (List.map Zb r))])
theorem ZkC {t0:Bool}{t1:Bool}{t2:Bool}{t3:Bool}{a:Zk}{x4:(List Int)}:∀(s5:Int×(List Int)) (r:(List Int)),lp (Zfj a x4) s5=some r→lpW ctx 0 [2,5,32,33,34] [5] ZuR [(.ptr 0 0),(.sl 1 1),(.d (D.list true (List.map Zb x4))),(.d (Zb (x4.length:Int))),(.d (Zb s5.1))] [(.cells (dV t0 t1 t2 t3 a)),(.arr 1 (List.map Zb s5.2))]=some ((ZhK t0 t1 t2 t3 a x4) r):=by
 refine ZaU (ZhK t0 t1 t2 t3 a x4) ?_
 intro s5 rcl ih
 show ZQ _ _ (lpW _ _ _ _ _ _ _)
 unfold Zfj
 rw[ZaV]
 conv=>arg 3;whnf
 refine Ze rfl ?_ ?_<;>conv=>arg 3;whnf
 ·refine Zl rfl rfl fun x6 hx6=>?_;conv=>arg 3;whnf
  refine Zl rfl rfl fun x7 hx7=>?_;conv=>arg 3;whnf
  refine ZbP rfl ?_;conv=>arg 3;whnf
  refine Ze (ZgT Zb s5.2 1) ?_ ?_
  ·conv=>arg 3;whnf
   refine Zo (Zgb Zb s5.2 [x7.maker]) ?_;conv=>arg 3;whnf
   exact Zd (ih _)
  ·exact Z7
 ·exact Zf rfl
theorem ZmM {t0:Bool}{t1:Bool}{t2:Bool}{t3:Bool}{a:Zk}{b:Int}:∀r,(ZeZ a b)=some r→evD ctx 76 [(.d (D.agg (dA t0 t1 t2 t3 a))),(.d (Zb b))]=some (ZjQ r):=by
 show ZQ _ (fun r rhs=>rhs=some (ZjQ r)) _
 unfold ZeZ
 rw[Zbe ctx 76 ZyI _ rfl rfl]
 conv=>arg 3;whnf
 refine Zr _ Zgx rfl fun x0 hx0=>?_;conv=>arg 3;whnf
 refine Ze rfl ?_ ?_<;>conv=>arg 3;whnf
 ·exact Zf rfl
 ·refine Zo (ZL _ _) ?_;conv=>arg 3;whnf
  refine Zc _ (ZkG _) fun r3 hr3=>?_;conv=>arg 3;whnf
  refine Zr _ ZhF rfl fun x4 hx4=>?_;conv=>arg 3;whnf
  refine Zo (ZL _ _) ?_;conv=>arg 3;whnf
  refine Zc _ (ZkC _) fun r8 hr8=>?_;conv=>arg 3;whnf
  exact Zf rfl
def Zjx (r:Int):D:=(D.int .u32 r)
theorem ZdM {a:Int}:∀r,(ZcK a)=some r→evD ctx 64 [(.d (Zb a))]=some (Zjx r):=by
 show ZQ _ (fun r rhs=>rhs=some (Zjx r)) _
 unfold ZcK
 rw[Zbe ctx 64 ZyH _ rfl rfl]
 conv=>arg 3;whnf
 exact Zf rfl
def Zkx:Unit→D
  | r=>(D.agg [(D.int .u32 0),(D.fn 97 []),(D.int .u32 1),(D.fn 98 []),(D.int .u32 0),(D.fn 99 []),(D.int .u32 7),(D.fn 100 [])])
theorem Zn1:∀r,Zhu=some r→evD ctx 65 []=some (Zkx r):=by
 show ZQ _ (fun r rhs=>rhs=some (Zkx r)) _
 unfold Zhu
 rw[Zbe ctx 65 Zzm _ rfl rfl]
 conv=>arg 3;whnf
 exact Zf rfl
def Zi7 (r:Int):D:=(D.int .u32 r)
theorem ZlT {a:Int}{b:Int}:∀r,(Zfa a b)=some r→evD ctx 97 [(.d (D.int .u32 a)),(.d (D.int .u32 b))]=some (Zi7 r):=by
 show ZQ _ (fun r rhs=>rhs=some (Zi7 r)) _
 unfold Zfa
 rw[Zbe ctx 97 ZyR _ rfl rfl]
 conv=>arg 3;whnf
 exact Zf rfl
def Zi8 (r:Int):D:=(D.int .u32 r)
theorem Zl5 {a:Int}{b:Int}:∀r,(Zfd a b)=some r→evD ctx 98 [(.d (D.int .u32 a)),(.d (D.int .u32 b))]=some (Zi8 r):=by
 show ZQ _ (fun r rhs=>rhs=some (Zi8 r)) _
 unfold Zfd
 rw[Zbe ctx 98 Zzc _ rfl rfl]
 conv=>arg 3;whnf
 exact Zf rfl
def Zjd (r:Int):D:=(D.int .u32 r)
theorem Zl7 {a:Int}{b:Int}:∀r,(Zfc a b)=some r→evD ctx 99 [(.d (D.int .u32 a)),(.d (D.int .u32 b))]=some (Zjd r):=by
 show ZQ _ (fun r rhs=>rhs=some (Zjd r)) _
 unfold Zfc
 rw[Zbe ctx 99 Zyo _ rfl rfl]
 conv=>arg 3;whnf
 exact Zf rfl
def Zi6 (r:Int):D:=(D.int .u32 r)
theorem Zma {a:Int}{b:Int}:∀r,(Zfh a b)=some r→evD ctx 100 [(.d (D.int .u32 a)),(.d (D.int .u32 b))]=some (Zi6 r):=by
 show ZQ _ (fun r rhs=>rhs=some (Zi6 r)) _
 unfold Zfh
 rw[Zbe ctx 100 Zwg _ rfl rfl]
 conv=>arg 3;whnf
 exact Zf rfl
def Zml (r:Int):D:=(Zb r)
def ZjE (t0:Bool) (a:ZU) (b:(List Int)):(List (Int×Int))→Ex×List V×Zm
  | r=>(.exit 1,[(.ptr 0 0),(.mp 1)],[(.cells [(.d (Zb a.op)),(.d (Zb a.arg)),(.d (Zb a.work))]),(.mp (mpD Zb Zb r))])
theorem ZmT {t0:Bool}{a:ZU}{b:(List Int)}:∀(s0:Int×(List (Int×Int))) (r:(List (Int×Int))),lp (Zek b) s0=some r→lpW ctx 0 [3,7,19,20,21] [3,7] ZuS [(.ptr 0 0),(.mp 1),(.d (D.list t0 (List.map Zb b))),(.d (Zb (b.length:Int))),(.d (Zb s0.1))] [(.cells [(.d (Zb a.op)),(.d (Zb a.arg)),(.d (Zb a.work))]),(.mp (mpD Zb Zb s0.2))]=some ((ZjE t0 a b) r):=by
 refine ZaU (ZjE t0 a b) ?_
 intro s0 rcl ih
 show ZQ _ _ (lpW _ _ _ _ _ _ _)
 unfold Zek
 rw[ZaV]
 conv=>arg 3;whnf
 refine Ze rfl ?_ ?_<;>conv=>arg 3;whnf
 ·refine Zl rfl rfl fun x1 hx1=>?_;conv=>arg 3;whnf
  refine Zg (Zc8 (f:=Zb) (g:=Zb) (fun ka kb:Int=>(ka==kb)) (fun _ _=>rfl) s0.2 s0.1 x1) ?_;conv=>arg 3;whnf
  exact Zd (ih _)
 ·exact Zf rfl
def Zjy (t1:Bool) (c:(List Int)):Int→Ex×List V×Zm
  | r=>(.exit 3,[(.d (D.int .u32 r))],[])
theorem ZmK {t1:Bool}{c:(List Int)}:∀(s6:Int×Int) (r:Int),lp (Zem c) s6=some r→lpW ctx 0 [10,11,60,61,62] [11] ZnP [(.ptr 0 0),(.d (D.int .u32 s6.1)),(.d (D.list t1 (List.map Zb c))),(.d (Zb (c.length:Int))),(.d (Zb s6.2))] [(.cells [(.d (D.int .u32 0)),(.d (D.fn 97 []))])]=some ((Zjy t1 c) r):=by
 refine ZaU (Zjy t1 c) ?_
 intro s6 rcl ih
 show ZQ _ _ (lpW _ _ _ _ _ _ _)
 unfold Zem
 rw[ZaV]
 conv=>arg 3;whnf
 refine Ze rfl ?_ ?_<;>conv=>arg 3;whnf
 ·refine Zl rfl rfl fun x7 hx7=>?_;conv=>arg 3;whnf
  refine Zr _ ZdM rfl fun x8 hx8=>?_;conv=>arg 3;whnf
  refine Zr _ ZlT rfl fun x9 hx9=>?_;conv=>arg 3;whnf
  exact Zd (ih _)
 ·exact Zf rfl
def Zih (t1:Bool) (c:(List Int)):Int→Ex×List V×Zm
  | r=>(.exit 3,[(.d (D.int .u32 r))],[])
theorem ZlD {t1:Bool}{c:(List Int)}:∀(s11:Int×Int) (r:Int),lp (Zdx c) s11=some r→lpW ctx 0 [10,11,60,61,62] [11] ZnP [(.ptr 0 0),(.d (D.int .u32 s11.1)),(.d (D.list t1 (List.map Zb c))),(.d (Zb (c.length:Int))),(.d (Zb s11.2))] [(.cells [(.d (D.int .u32 1)),(.d (D.fn 98 []))])]=some ((Zih t1 c) r):=by
 refine ZaU (Zih t1 c) ?_
 intro s11 rcl ih
 show ZQ _ _ (lpW _ _ _ _ _ _ _)
 unfold Zdx
 rw[ZaV]
 conv=>arg 3;whnf
 refine Ze rfl ?_ ?_<;>conv=>arg 3;whnf
 ·refine Zl rfl rfl fun x12 hx12=>?_;conv=>arg 3;whnf
  refine Zr _ ZdM rfl fun x13 hx13=>?_;conv=>arg 3;whnf
  refine Zr _ Zl5 rfl fun x14 hx14=>?_;conv=>arg 3;whnf
  exact Zd (ih _)
 ·exact Zf rfl
def Zii (t1:Bool) (c:(List Int)):Int→Ex×List V×Zm
  | r=>(.exit 3,[(.d (D.int .u32 r))],[])
theorem Zli {t1:Bool}{c:(List Int)}:∀(s16:Int×Int) (r:Int),lp (Zdz c) s16=some r→lpW ctx 0 [10,11,60,61,62] [11] ZnP [(.ptr 0 0),(.d (D.int .u32 s16.1)),(.d (D.list t1 (List.map Zb c))),(.d (Zb (c.length:Int))),(.d (Zb s16.2))] [(.cells [(.d (D.int .u32 0)),(.d (D.fn 99 []))])]=some ((Zii t1 c) r):=by
 refine ZaU (Zii t1 c) ?_
 intro s16 rcl ih
 show ZQ _ _ (lpW _ _ _ _ _ _ _)
 unfold Zdz
 rw[ZaV]
 conv=>arg 3;whnf
 refine Ze rfl ?_ ?_<;>conv=>arg 3;whnf
 ·refine Zl rfl rfl fun x17 hx17=>?_;conv=>arg 3;whnf
  refine Zr _ ZdM rfl fun x18 hx18=>?_;conv=>arg 3;whnf
  refine Zr _ Zl7 rfl fun x19 hx19=>?_;conv=>arg 3;whnf
  exact Zd (ih _)
 ·exact Zf rfl
def Zif (t1:Bool) (c:(List Int)):Int→Ex×List V×Zm
  | r=>(.exit 3,[(.d (D.int .u32 r))],[])
theorem Zlh {t1:Bool}{c:(List Int)}:∀(s21:Int×Int) (r:Int),lp (Zds c) s21=some r→lpW ctx 0 [10,11,60,61,62] [11] ZnP [(.ptr 0 0),(.d (D.int .u32 s21.1)),(.d (D.list t1 (List.map Zb c))),(.d (Zb (c.length:Int))),(.d (Zb s21.2))] [(.cells [(.d (D.int .u32 7)),(.d (D.fn 100 []))])]=some ((Zif t1 c) r):=by
 refine ZaU (Zif t1 c) ?_
 intro s21 rcl ih
 show ZQ _ _ (lpW _ _ _ _ _ _ _)
 unfold Zds
 rw[ZaV]
 conv=>arg 3;whnf
 refine Ze rfl ?_ ?_<;>conv=>arg 3;whnf
 ·refine Zl rfl rfl fun x22 hx22=>?_;conv=>arg 3;whnf
  refine Zr _ ZdM rfl fun x23 hx23=>?_;conv=>arg 3;whnf
  refine Zr _ Zma rfl fun x24 hx24=>?_;conv=>arg 3;whnf
  exact Zd (ih _)
 ·exact Zf rfl
theorem Zqs {t0:Bool}{t1:Bool}{a:ZU}{b:(List Int)}{c:(List Int)}:∀r,(Zin a b c)=some r→evD ctx 39 [(.d (D.agg [(Zb a.op),(Zb a.arg),(Zb a.work)])),(.d (D.list t0 (List.map Zb b))),(.d (D.list t1 (List.map Zb c)))]=some (Zml r):=by
 show ZQ _ (fun r rhs=>rhs=some (Zml r)) _
 unfold Zin
 rw[Zbe ctx 39 Zyh _ rfl rfl]
 conv=>arg 3;whnf
 refine Ze rfl ?_ ?_<;>conv=>arg 3;whnf
 ·refine Zo (ZL _ _) ?_;conv=>arg 3;whnf
  refine Zc _ (ZmT _) fun r2 hr2=>?_;conv=>arg 3;whnf
  refine Zg (Zbl (f:=Zb) (g:=Zb) (fun ka kb:Int=>(ka==kb)) (fun _ _=>rfl) r2 a.arg 0) ?_;conv=>arg 3;whnf
  refine Zr _ ZdM rfl fun x3 hx3=>?_;conv=>arg 3;whnf
  exact Zf rfl
 ·refine Ze rfl ?_ ?_<;>conv=>arg 3;whnf
  ·refine Zr _ ZdM rfl fun x4 hx4=>?_;conv=>arg 3;whnf
   exact Zf rfl
  ·refine Ze rfl ?_ ?_<;>conv=>arg 3;whnf
   ·exact Zf rfl
   ·refine Ze rfl ?_ ?_<;>conv=>arg 3;whnf
    ·exact Zf rfl
    ·refine Zr _ Zn1 rfl fun x5 hx5=>?_;conv=>arg 3;whnf
     refine Ze rfl ?_ ?_
     ·conv=>arg 3;whnf
      refine Zsa rfl ?_ ?_ ?_ ?_<;>conv=>arg 3;whnf
      ·refine Zg rfl ?_;conv=>arg 3;whnf
       refine Zo (ZL _ _) ?_;conv=>arg 3;whnf
       refine Zc _ (ZmK _) fun r10 hr10=>?_;conv=>arg 3;whnf
       exact Zf rfl
      ·refine Zg rfl ?_;conv=>arg 3;whnf
       refine Zo (ZL _ _) ?_;conv=>arg 3;whnf
       refine Zc _ (ZlD _) fun r15 hr15=>?_;conv=>arg 3;whnf
       exact Zf rfl
      ·conv=>arg 3;whnf
       refine Zg rfl ?_;conv=>arg 3;whnf
       refine Zo (ZL _ _) ?_;conv=>arg 3;whnf
       refine Zc _ (Zli _) fun r20 hr20=>?_;conv=>arg 3;whnf
       exact Zf rfl
      ·conv=>arg 3;whnf
       refine Zg rfl ?_;conv=>arg 3;whnf
       refine Zo (ZL _ _) ?_;conv=>arg 3;whnf
       refine Zc _ (Zlh _) fun r25 hr25=>?_;conv=>arg 3;whnf
       exact Zf rfl
     ·exact Z7
def Zje (r:ZaN):D:=(D.agg [(D.list true (List.map D.bool r.done)),(D.list true (List.map Zb r.vals))])
def Zhp (t0:Bool) (t1:Bool) (t2:Bool) (t3:Bool) (t7:Bool) (a:Zk) (c:(List Int)) (d:ZaN) (e:Int) (x3:Zh) (x5:(List Int)):(List Int)→Ex×List V×Zm
  | r=>(.exit 0,[(.d (D.list t7 (List.map Zb c))),(.ptr 0 0),(.ptr 1 0),(.ptr 2 0),(.d (Zb x3.part)),(.sl 3 1)],[(.cells (dV t0 t1 t2 t3 a)),(.cells [(.sl 4 1),(.sl 5 1)]),(.cells [(.sl 6 1),(.sl 7 1)]),(.arr 1 (List.map Zb r)),(.arr 1 (List.map D.bool (List.set d.done e.toNat true))),(.arr 1 (List.map Zb d.vals)),(.arr 1 []),(.arr 1 [])])
theorem Zj9 {t0:Bool}{t1:Bool}{t2:Bool}{t3:Bool}{t7:Bool}{a:Zk}{c:(List Int)}{d:ZaN}{e:Int}{x3:Zh}{x5:(List Int)}:∀(s6:Int×(List Int)) (r:(List Int)),lp (Zdn d x5) s6=some r→lpW ctx 0 [2,5,8,10,11,12,44,45,46] [2,5,8,10,11,12] ZuB [(.d (D.list t7 (List.map Zb c))),(.ptr 0 0),(.ptr 1 0),(.ptr 2 0),(.d (Zb x3.part)),(.sl 3 1),(.d (D.list true (List.map Zb x5))),(.d (Zb (x5.length:Int))),(.d (Zb s6.1))] [(.cells (dV t0 t1 t2 t3 a)),(.cells [(.sl 4 1),(.sl 5 1)]),(.cells [(.sl 6 1),(.sl 7 1)]),(.arr 1 (List.map Zb s6.2)),(.arr 1 (List.map D.bool (List.set d.done e.toNat true))),(.arr 1 (List.map Zb d.vals)),(.arr 1 []),(.arr 1 [])]=some ((Zhp t0 t1 t2 t3 t7 a c d e x3 x5) r):=by
 refine ZaU (Zhp t0 t1 t2 t3 t7 a c d e x3 x5) ?_
 intro s6 rcl ih
 show ZQ _ _ (lpW _ _ _ _ _ _ _)
 unfold Zdn
 rw[ZaV]
 conv=>arg 3;whnf
 refine Ze rfl ?_ ?_<;>conv=>arg 3;whnf
 ·refine Zl rfl rfl fun x7 hx7=>?_;conv=>arg 3;whnf
  refine Zl rfl rfl fun x8 hx8=>?_;conv=>arg 3;whnf
  refine Zg (Zy rfl hx8) ?_;conv=>arg 3;whnf
  refine ZbP rfl ?_;conv=>arg 3;whnf
  refine Ze (ZgT Zb s6.2 1) ?_ ?_
  ·conv=>arg 3;whnf
   refine Zo (Zgb Zb s6.2 [x8]) ?_;conv=>arg 3;whnf
   exact Zd (ih _)
  ·exact Z7
 ·exact Zf rfl
theorem Zmb {t0:Bool}{t1:Bool}{t2:Bool}{t3:Bool}{t4:Bool}{t5:Bool}{t6:Bool}{t7:Bool}{t8:Bool}{t9:Bool}{a:Zk}{b:Zk8}{c:(List Int)}{d:ZaN}{e:Int}:∀r,(Zfb a b c d e)=some r→evD ctx 44 [(.d (D.agg (dA t0 t1 t2 t3 a))),(.d (D.agg [(D.list t4 (List.map Zb b.dag.work)),(D.list t5 (List.map ZC b.dag.edges)),(D.list t6 (List.map Zbc b.pieces))])),(.d (D.list t7 (List.map Zb c))),(.d (D.agg [(D.list t8 (List.map D.bool d.done)),(D.list t9 (List.map Zb d.vals))])),(.d (Zb e))]=some (Zje r):=by
 show ZQ _ (fun r rhs=>rhs=some (Zje r)) _
 unfold Zfb
 rw[Zbe ctx 44 Zy7 _ rfl rfl]
 conv=>arg 3;whnf
 refine Zc _ Zgl fun x0 hx0=>?_;conv=>arg 3;whnf
 refine Zc _ ZgO fun x1 hx1=>?_;conv=>arg 3;whnf
 refine Zl rfl rfl fun x2 hx2=>?_;conv=>arg 3;whnf
 refine Zg (Zy rfl hx2) ?_;conv=>arg 3;whnf
 refine Zo (ZaB D.bool d.done e.toNat true) ?_;conv=>arg 3;whnf
 refine Zl rfl rfl fun x3 hx3=>?_;conv=>arg 3;whnf
 refine Ze rfl ?_ ?_<;>conv=>arg 3;whnf
 ·exact Zf rfl
 ·refine Zr _ ZmI rfl fun x4 hx4=>?_;conv=>arg 3;whnf
  refine Ze rfl ?_ ?_<;>conv=>arg 3;whnf
  ·exact Zf rfl
  ·refine Zr _ ZmM rfl fun x5 hx5=>?_;conv=>arg 3;whnf
   refine Zo (ZL _ _) ?_;conv=>arg 3;whnf
   refine Zc _ (Zj9 _) fun r9 hr9=>?_;conv=>arg 3;whnf
   refine Zl rfl rfl fun x10 hx10=>?_;conv=>arg 3;whnf
   refine Zr _ Zqs rfl fun x11 hx11=>?_;conv=>arg 3;whnf
   refine Zl rfl rfl fun x12 hx12=>?_;conv=>arg 3;whnf
   refine Zg (Zy rfl hx12) ?_;conv=>arg 3;whnf
   refine Zo (ZaB Zb d.vals x3.part.toNat x11) ?_;conv=>arg 3;whnf
   exact Zf rfl
def Zk2 (r:((List Int)×Int)):D:=(D.tup [(D.list true (List.map Zb r.1)),(Zb r.2)])
def Zi9 (t0:Bool) (t1:Bool) (t2:Bool) (t3:Bool) (t4:Bool) (a:Zk) (b:(List Int)) (x1:(Zk8×Int)) (x2:(List Int)):((List Bool)×(List Int))→Ex×List V×Zm
  | r=>(.exit 0,[(.ptr 0 0)],[(.cells [(.d (D.list true (List.map D.bool r.1))),(.d (D.list true (List.map Zb r.2)))])])
theorem ZlU {t0:Bool}{t1:Bool}{t2:Bool}{t3:Bool}{t4:Bool}{a:Zk}{b:(List Int)}{x1:(Zk8×Int)}{x2:(List Int)}:∀(s3:Int×(List Bool)×(List Int)) (r:((List Bool)×(List Int))),lp (ZdY a b x1 x2) s3=some r→lpW ctx 0 [1,2,6,8,27,28,29] [6] Zwe [(.d (D.list t4 (List.map Zb b))),(.ptr 0 0),(.ptr 1 0),(.ptr 2 0),(.d (D.list true (List.map Zb x2))),(.d (Zb (x2.length:Int))),(.d (Zb s3.1))] [(.cells (dV t0 t1 t2 t3 a)),(.cells [(.d (D.list true (List.map D.bool s3.2.1))),(.d (D.list true (List.map Zb s3.2.2)))]),(.cells [(.d (D.list true (List.map Zb x1.1.dag.work))),(.d (D.list true (List.map ZC x1.1.dag.edges))),(.d (D.list true (List.map Zbc x1.1.pieces)))])]=some ((Zi9 t0 t1 t2 t3 t4 a b x1 x2) r):=by
 refine ZaU (Zi9 t0 t1 t2 t3 t4 a b x1 x2) ?_
 intro s3 rcl ih
 show ZQ _ _ (lpW _ _ _ _ _ _ _)
 unfold ZdY
 rw[ZaV]
 conv=>arg 3;whnf
 refine Ze rfl ?_ ?_<;>conv=>arg 3;whnf
 ·refine Zl rfl rfl fun x4 hx4=>?_;conv=>arg 3;whnf
  refine Zr _ Zmb rfl fun x5 hx5=>?_;conv=>arg 3;whnf
  exact Zd (ih _)
 ·exact Zf rfl
theorem ZhV {t0:Bool}{t1:Bool}{t2:Bool}{t3:Bool}{t4:Bool}{a:Zk}{b:(List Int)}:∀r,(ZdC a b)=some r→evD ctx 19 [(.d (D.agg (dA t0 t1 t2 t3 a))),(.d (D.list t4 (List.map Zb b)))]=some (Zk2 r):=by
 show ZQ _ (fun r rhs=>rhs=some (Zk2 r)) _
 unfold ZdC
 rw[Zbe ctx 19 Zyj _ rfl rfl]
 conv=>arg 3;whnf
 refine Zr _ ZoG rfl fun x0 hx0=>?_;conv=>arg 3;whnf
 refine Ze rfl ?_ ?_<;>conv=>arg 3;whnf
 ·exact Zf rfl
 ·refine Zr _ Zim rfl fun x1 hx1=>?_;conv=>arg 3;whnf
  refine Zr _ Znb rfl fun x2 hx2=>?_;conv=>arg 3;whnf
  refine Zo (ZL _ _) ?_;conv=>arg 3;whnf
  refine Zc _ (ZlU _) fun r6 hr6=>?_;conv=>arg 3;whnf
  exact Zf rfl
def ZjR (r:Bool):D:=(D.bool r)
def ZhB (t0:Bool) (t1:Bool) (a:(List Int)) (b:(List Int)):(Unit⊕Unit)→Ex×List V×Zm
  | (.inl r)=>(.ret,[(.d (D.bool false))],[])
  | (.inr r)=>(.exit 0,[.bad],[])
theorem ZkV {t0:Bool}{t1:Bool}{a:(List Int)}{b:(List Int)}:∀(s0:Int) (r:(Unit⊕Unit)),lp (ZdL a b) s0=some r→lpW ctx 0 [0,1,5] [4] Zwc [(.d (D.list t0 (List.map Zb a))),(.d (D.list t1 (List.map Zb b))),(.d (Zb s0))] []=some ((ZhB t0 t1 a b) r):=by
 refine ZaU (ZhB t0 t1 a b) ?_
 intro s0 rcl ih
 show ZQ _ _ (lpW _ _ _ _ _ _ _)
 unfold ZdL
 rw[ZaV]
 conv=>arg 3;whnf
 refine Zo (ZL _ _) ?_;conv=>arg 3;whnf
 refine Ze rfl ?_ ?_<;>conv=>arg 3;whnf
 ·refine Zl rfl rfl fun x1 hx1=>?_;conv=>arg 3;whnf
  refine Zl rfl rfl fun x2 hx2=>?_;conv=>arg 3;whnf
  refine Ze rfl ?_ ?_<;>conv=>arg 3;whnf
  ·exact Zf rfl
  ·exact Zd (ih _)
 ·exact Zf rfl
theorem Zi2 {t0:Bool}{t1:Bool}{a:(List Int)}{b:(List Int)}:∀r,(Ze0 a b)=some r→evD ctx 20 [(.d (D.list t0 (List.map Zb a))),(.d (D.list t1 (List.map Zb b)))]=some (ZjR r):=by
 show ZQ _ (fun r rhs=>rhs=some (ZjR r)) _
 unfold Ze0
 rw[Zbe ctx 20 ZyL _ rfl rfl]
 conv=>arg 3;whnf
 refine Zo (ZL _ _) ?_;conv=>arg 3;whnf
 refine Zo (ZL _ _) ?_;conv=>arg 3;whnf
 refine Ze rfl ?_ ?_<;>conv=>arg 3;whnf
 ·exact Zf rfl
 ·refine Zc _ (ZkV _) fun r3 hr3=>?_
  clear hr3
  rcases r3 with r3 | r3
  ·conv=>arg 3;whnf
   exact Zf rfl
  ·conv=>arg 3;whnf
   exact Zf rfl
def Zgk (r:Bool):D:=(D.bool r)
def Zft (t0:Bool) (t1:Bool) (t2:Bool) (t3:Bool) (t4:Bool) (t5:Bool) (a:Zk) (b:(List Int)) (c:(List Int)) (x4:((List Int)×Int)):Int→Ex×List V×Zm
  | r=>(.exit 0,[(.d (D.list t4 (List.map Zb b))),(.d (D.list t5 (List.map Zb c))),(.ptr 0 0),(.d (D.list true (List.map Zb x4.1))),(.d (Zb x4.2)),(.d (Zb r))],[(.cells (dV t0 t1 t2 t3 a))])
theorem ZhS {t0:Bool}{t1:Bool}{t2:Bool}{t3:Bool}{t4:Bool}{t5:Bool}{a:Zk}{b:(List Int)}{c:(List Int)}{x4:((List Int)×Int)}:∀(s5:Int×Int) (r:Int),lp (Zbt a) s5=some r→lpW ctx 0 [1,2,3,7,8,9,10] [1,2,3,7,8,9] ZxU [(.d (D.list t4 (List.map Zb b))),(.d (D.list t5 (List.map Zb c))),(.ptr 0 0),(.d (D.list true (List.map Zb x4.1))),(.d (Zb x4.2)),(.d (Zb s5.1)),(.d (Zb s5.2))] [(.cells (dV t0 t1 t2 t3 a))]=some ((Zft t0 t1 t2 t3 t4 t5 a b c x4) r):=by
 refine ZaU (Zft t0 t1 t2 t3 t4 t5 a b c x4) ?_
 intro s5 rcl ih
 show ZQ _ _ (lpW _ _ _ _ _ _ _)
 unfold Zbt
 rw[ZaV]
 conv=>arg 3;whnf
 refine Zo (ZL _ _) ?_;conv=>arg 3;whnf
 refine Ze rfl ?_ ?_<;>conv=>arg 3;whnf
 ·refine Zl rfl rfl fun x6 hx6=>?_;conv=>arg 3;whnf
  refine Ze rfl ?_ ?_<;>conv=>arg 3;whnf
  ·refine Zg (Zbm rfl hx6) ?_;conv=>arg 3;whnf
   exact Zd (ih _)
  ·exact Zd (ih _)
 ·exact Zf rfl
def Zfu (t0:Bool) (t1:Bool) (t2:Bool) (t3:Bool) (t5:Bool) (a:Zk) (c:(List Int)) (x4:((List Int)×Int)) (r7:Int):(List Int)→Ex×List V×Zm
  | r=>(.exit 2,[(.d (D.list t5 (List.map Zb c))),(.ptr 0 0),(.d (D.list true (List.map Zb x4.1))),(.d (Zb x4.2)),(.d (Zb r7)),(.sl 1 1)],[(.cells (dV t0 t1 t2 t3 a)),(.arr 1 (List.map Zb r))])
theorem ZhW {t0:Bool}{t1:Bool}{t2:Bool}{t3:Bool}{t5:Bool}{a:Zk}{c:(List Int)}{x4:((List Int)×Int)}{r7:Int}:∀(s8:Int×(List Int)) (r:(List Int)),lp (ZaM) s8=some r→lpW ctx 0 [2,3,7,8,9,11,12] [2,3,7,8,9,11] ZxZ [(.d (D.list t5 (List.map Zb c))),(.ptr 0 0),(.d (D.list true (List.map Zb x4.1))),(.d (Zb x4.2)),(.d (Zb r7)),(.sl 1 1),(.d (Zb s8.1))] [(.cells (dV t0 t1 t2 t3 a)),(.arr 1 (List.map Zb s8.2))]=some ((Zfu t0 t1 t2 t3 t5 a c x4 r7) r):=by
 refine ZaU (Zfu t0 t1 t2 t3 t5 a c x4 r7) ?_
 intro s8 rcl ih
 show ZQ _ _ (lpW _ _ _ _ _ _ _)
 unfold ZaM
 rw[ZaV]
 conv=>arg 3;whnf
 refine Zo (ZL _ _) ?_;conv=>arg 3;whnf
 refine Ze rfl ?_ ?_<;>conv=>arg 3;whnf
 ·refine Zl rfl rfl fun x9 hx9=>?_;conv=>arg 3;whnf
  refine Zg (Zy rfl hx9) ?_;conv=>arg 3;whnf
  refine Ze rfl ?_ ?_<;>conv=>arg 3;whnf
  ·refine Zg (Zbm rfl hx9) ?_;conv=>arg 3;whnf
   refine Zg (Zy rfl hx9) ?_;conv=>arg 3;whnf
   refine Ze rfl ?_ ?_<;>conv=>arg 3;whnf
   ·refine Zg (Zbm rfl hx9) ?_;conv=>arg 3;whnf
    refine Zg (Zy rfl hx9) ?_;conv=>arg 3;whnf
    refine Zg (Zbm rfl hx9) ?_;conv=>arg 3;whnf
    refine Zg (Zy rfl hx9) ?_;conv=>arg 3;whnf
    refine Zo (ZaB Zb s8.2 s8.1.toNat (w64 (x9+4294967296))) ?_;conv=>arg 3;whnf
    exact Zd (ih _)
   ·exact Zd (ih _)
  ·exact Zd (ih _)
 ·exact Zf rfl
theorem Zjf {t0:Bool}{t1:Bool}{t2:Bool}{t3:Bool}{t4:Bool}{t5:Bool}{a:Zk}{b:(List Int)}{c:(List Int)}:∀r,(Zen a b c)=some r→evD ctx 5 [(.d (D.agg (dA t0 t1 t2 t3 a))),(.d (D.list t4 (List.map Zb b))),(.d (D.list t5 (List.map Zb c)))]=some (Zgk r):=by
 show ZQ _ (fun r rhs=>rhs=some (Zgk r)) _
 unfold Zen
 rw[Zbe ctx 5 fn5 _ rfl rfl]
 conv=>arg 3;whnf
 refine Zr _ ZeY rfl fun x0 hx0=>?_;conv=>arg 3;whnf
 refine Ze rfl ?_ ?_<;>conv=>arg 3;whnf
 ·refine Zr _ Zob rfl fun x1 hx1=>?_;conv=>arg 3;whnf
  refine Ze rfl ?_ ?_<;>conv=>arg 3;whnf
  ·refine Zo (ZL _ _) ?_;conv=>arg 3;whnf
   refine Ze rfl ?_ ?_<;>conv=>arg 3;whnf
   ·refine Zr _ ZeY rfl fun x2 hx2=>?_;conv=>arg 3;whnf
    refine Ze rfl ?_ ?_<;>conv=>arg 3;whnf
    ·exact Zf rfl
    ·exact Zf rfl
   ·refine Zc _ Zhc fun x3 hx3=>?_;conv=>arg 3;whnf
    refine ZbP (Zfe (f:=Zb) (fun _=>⟨rfl,rfl⟩) b 0) ?_;conv=>arg 3;whnf
    refine Ze (ZfN Zb b) ?_ ?_
    ·conv=>arg 3;whnf
     refine Zo (rfl:_=List.map Zb b) ?_;conv=>arg 3;whnf
     refine Zr _ ZhV rfl fun x4 hx4=>?_;conv=>arg 3;whnf
     refine Zc _ (ZhS _) fun r7 hr7=>?_;conv=>arg 3;whnf
     refine ZbP (Zfe (f:=Zb) (fun _=>⟨rfl,rfl⟩) b 0) ?_;conv=>arg 3;whnf
     refine Ze (ZfN Zb b) ?_ ?_
     ·conv=>arg 3;whnf
      refine Zo (rfl:_=List.map Zb b) ?_;conv=>arg 3;whnf
      refine Zc _ (ZhW _) fun r10 hr10=>?_;conv=>arg 3;whnf
      refine Zo (ZL _ _) ?_;conv=>arg 3;whnf
      refine Ze rfl ?_ ?_<;>conv=>arg 3;whnf
      ·refine ZbP (Zfe (f:=Zb) (fun _=>⟨rfl,rfl⟩) c 0) ?_;conv=>arg 3;whnf
       refine Ze (Zvu Zb r10 c) ?_ ?_
       ·conv=>arg 3;whnf
        refine Zo (Zgb Zb r10 c) ?_;conv=>arg 3;whnf
        refine Zc _ Zhc fun x11 hx11=>?_;conv=>arg 3;whnf
        refine Zr _ ZhV rfl fun x12 hx12=>?_;conv=>arg 3;whnf
        refine Ze rfl ?_ ?_<;>conv=>arg 3;whnf
        ·refine Zr _ Zi2 rfl fun x13 hx13=>?_;conv=>arg 3;whnf
         refine Ze rfl ?_ ?_<;>conv=>arg 3;whnf
         ·exact Zf rfl
         ·exact Zf rfl
        ·exact Zf rfl
       ·exact Z7
      ·refine Zc _ Zhc fun x14 hx14=>?_;conv=>arg 3;whnf
       refine Zr _ ZhV rfl fun x15 hx15=>?_;conv=>arg 3;whnf
       refine Ze rfl ?_ ?_<;>conv=>arg 3;whnf
       ·refine Zr _ Zi2 rfl fun x16 hx16=>?_;conv=>arg 3;whnf
        refine Ze rfl ?_ ?_<;>conv=>arg 3;whnf
        ·exact Zf rfl
        ·exact Zf rfl
       ·exact Zf rfl
     ·exact Z7
    ·exact Z7
  ·refine Zr _ ZeY rfl fun x17 hx17=>?_;conv=>arg 3;whnf
   refine Ze rfl ?_ ?_<;>conv=>arg 3;whnf
   ·exact Zf rfl
   ·exact Zf rfl
 ·refine Zr _ ZeY rfl fun x18 hx18=>?_;conv=>arg 3;whnf
  refine Ze rfl ?_ ?_<;>conv=>arg 3;whnf
  ·exact Zf rfl
  ·exact Zf rfl
end Go.Proofs.YtnmbdjkbaihicaaDoor
namespace Go.Proofs.YtnmbdjkbaihicaaDoor
open Go Go.Proofs.YtnmbdjkbaihicaaDoorE
abbrev Zq1:List Lf×Bool:=([.int .i64,.int .i64,.sl true [.int .i64,.int .i64,.int .i64],.sl true [.int .i64,.int .i64],.sl true [.int .i64,.int .i64,.int .i64],.sl true [.sl false [.int .i64],.sl false [.int .i64]]],true)
abbrev Zkf:List Lf×Bool:=([.sl false [.int .i64]],false)
end Go.Proofs.YtnmbdjkbaihicaaDoor
namespace Go.Proofs.YtnmbdjkbaihicaaDoor
open Go Go.Proofs.YtnmbdjkbaihicaaDoorE
set_option linter.unusedVariables false
set_option linter.unusedSimpArgs false
def ZfF (x:Int):Int:=bif decide (x<1099511627776) then (bif decide (-1099511627776<x) then x+4294967296 else x) else x
theorem ZvH (x:Int):u32 (ZfF x)=u32 x:=by
 unfold ZfF u32
 cases decide (x<1099511627776)<;>cases decide (-1099511627776<x)<;>simp
theorem ZtL (b:List Int) (hb:b.length≤60):lp ZaM (0,b)=some (b.map ZfF):=by
 have key:∀(k i:Nat),i+k=b.length→lp ZaM ((i:Int),(b.take i).map ZfF++b.drop i)=some (b.map ZfF):=by
  intro k
  induction k with
  | zero=>
   intro i hi
   have:i=b.length:=by omega
   subst this
   rw[List.take_length,List.drop_length,List.append_nil,Za0]
   have e:((b.map ZfF).length:Int)=(b.length:Int):=by rw[List.length_map]
   simp only[ZaM,e,ZeT,cond_false]
  | succ k ih=>
   intro i hi
   have hi':i<b.length:=by omega
   have hl:((b.take i).map ZfF).length=i:=by rw[List.length_map,List.length_take];omega
   have hlen:((b.take i).map ZfF++b.drop i).length=b.length:=by rw[List.length_append,hl,List.length_drop];omega
   have hx:((b.take i).map ZfF++b.drop i)[i]? = some b[i]:=by
    rw[List.getElem?_append_right (by omega),hl,Nat.sub_self,List.getElem?_drop,Nat.add_zero]
    exact List.getElem?_eq_getElem hi'
   have hnext:(b.take (i+1)).map ZfF++b.drop (i+1)=(b.take i).map ZfF++(ZfF b[i] :: b.drop (i+1)):=by
    rw[List.take_succ_eq_append_getElem hi',List.map_append,List.append_assoc];rfl
   have hset:∀v,((b.take i).map ZfF++b.drop i).set i v=(b.take i).map ZfF++(v :: b.drop (i+1)):=fun v=>by
    rw[List.set_append_right _ _ (by omega),hl,Nat.sub_self,List.drop_eq_getElem_cons hi']
    rfl
   have ih':=ih (i+1) (by omega)
   rw[hnext] at ih'
   have hlt:decide ((i:Int)<(((b.take i).map ZfF++b.drop i).length:Int))=true:=decide_eq_true (by rw[hlen];omega)
   have same:(b.take i).map ZfF++b.drop i=(b.take i).map ZfF++(b[i] :: b.drop (i+1)):=by rw[List.drop_eq_getElem_cons hi']
   rw[Za0]
   by_cases h1:b[i]<1099511627776
   ·by_cases h2 : -1099511627776<b[i]
    ·have e:ZfF b[i]=b[i]+4294967296:=by unfold ZfF;rw[decide_eq_true h1,decide_eq_true h2];rfl
     simp only[ZaM,hlt,cond_true,Zau hx,Option.bind_some,decide_eq_true h1,decide_eq_true h2,Zcu (show -9223372036854775808≤b[i]+4294967296 by omega) (by omega),Int.toNat_natCast,hset,ZY hi' (show b.length<9223372036854775808 by omega)]
     rw[e] at ih'
     exact ih'
    ·have e:ZfF b[i]=b[i]:=by unfold ZfF;rw[decide_eq_true h1,decide_eq_false h2];rfl
     simp only[ZaM,hlt,cond_true,cond_false,Zau hx,Option.bind_some,decide_eq_true h1,decide_eq_false h2,ZY hi' (show b.length<9223372036854775808 by omega)]
     rw[e,← same] at ih'
     exact ih'
   ·have e:ZfF b[i]=b[i]:=by unfold ZfF;rw[decide_eq_false h1];rfl
    simp only[ZaM,hlt,cond_true,cond_false,Zau hx,Option.bind_some,decide_eq_false h1,ZY hi' (show b.length<9223372036854775808 by omega)]
    rw[e,← same] at ih'
    exact ih'
 have:=key b.length 0 (by omega)
 simpa using this
theorem Zt0 (d:Zk) (hp:d.parts.length≤1000):∃r,lp (Zbt d) (-1,0)=some r∧∀p∈d.parts,p.op=0→p.arg≤r:=by
 obtain⟨h1,h2⟩:=ZqW d.parts (Zbt d) (fun i s=>(s,(i:Int))) (fun _ s x=>bif x.op==0 then (bif decide (s<x.arg) then x.arg else s) else s) id (fun i s=>∀(j:Nat) p,j<i→d.parts[j]? = some p→p.op=0→p.arg≤s) (fun i x s hi hx hI=>by
  refine⟨?_,fun j p hj hpp h0=>?_⟩
  ·simp only[Zbt,Zee hi,cond_true,Zau hx,Option.bind_some,ZY hi (show d.parts.length<9223372036854775808 by omega)]
   cases x.op==0<;>rfl
  ·have up:s≤(bif x.op==0 then (bif decide (s<x.arg) then x.arg else s) else s):=by
    cases x.op==0 with
    | false=>exact Int.le_refl _
    | true=>
     by_cases hc:s<x.arg
     ·rw[decide_eq_true hc];show s≤x.arg;omega
     ·rw[decide_eq_false hc];exact Int.le_refl _
   by_cases hji:j<i
   ·exact Int.le_trans (hI j p hji hpp h0) up
   ·have:j=i:=by omega
    subst this
    rw[hx] at hpp
    cases hpp
    rw[show(x.op==0)=true by simpa using h0]
    by_cases hc:s<x.arg
    ·rw[decide_eq_true hc];exact Int.le_refl _
    ·rw[decide_eq_false hc];show x.arg≤s;omega) (fun s _=>by simp only[Zbt,ZeT,cond_false];rfl) (-1) (fun j p hj=>by omega)
 refine⟨_,h1,fun p hpm h0=>?_⟩
 obtain⟨j,hj⟩:=List.getElem?_of_mem hpm
 exact h2 j p (List.getElem?_eq_some_iff.1 hj).1 hj h0
theorem Zuo {d:Zk}{b c:List Int} (h:∀p:Nat,p<d.parts.length→∀vs,opV (Zh0 d (p:Int)) b vs=opV (Zh0 d (p:Int)) c vs) {m:ZaN} (v:ZmP d b m):ZmP d c m:=
 ⟨v.o,v.right,fun p hp hd=>by rw[← h p hp];exact v.val p hp hd⟩
theorem Zpj {d:Zk} (hz:Zh7 d) {b c:List Int} (hb:b.length≤1000) (hc:c.length≤1000) (h:∀p∈d.parts,∀vs,opV p b vs=opV p c vs):∃x,ZdC d b=some x∧ZdC d c=some x∧x.1.length<9223372036854775808:=by
 by_cases hl:Zji d
 ·obtain⟨l,T,h1⟩:=(Zm7 hz b hb).2 hl
  obtain⟨l',T',h2⟩:=(Zm7 hz c hc).2 hl
  obtain⟨v1,a1⟩:=Zs0 hz.short hl b T
  obtain⟨v2,a2⟩:=Zs0 hz.short hl c T'
  have hp:∀p:Nat,p<d.parts.length→∀vs,opV (Zh0 d (p:Int)) c vs=opV (Zh0 d (p:Int)) b vs:=fun p hp vs=>by
   unfold Zh0
   rw[Int.toNat_natCast,List.getElem?_eq_getElem hp]
   exact(h _ (List.getElem_mem hp) vs).symm
  have same:=ZtI hz.short hl v1 (Zuo hp v2) a1 a2
  refine⟨_,h1,?_,?_⟩
  ·rw[h2,same]
  ·show(Zqz d b (Zls d) l).vals.length<_
   rw[v1.o.v]
   have:=(Zhd hl.1).pl
   omega
 ·exact⟨_,(Zm7 hz b hb).1 hl,(Zm7 hz c hc).1 hl,by simp⟩
theorem Zn8 (d:Zk) (b c:List Int):Zen d b c=some true:=by
 have aw:Zev=some true:=rfl
 have hfew:Zgp d b (ZaN.mk [] [])=some (few d&&decide ((b.length:Int)≤60)):=by
  unfold Zgp
  rw[Zzy,Option.bind_some]
  cases few d<;>cases decide ((b.length:Int)≤60)<;>rfl
 unfold Zen
 simp only[aw,cond_true,hfew,Option.bind_some]
 cases hf:few d with
 | false=>rfl
 | true=>
  by_cases hb:(b.length:Int)≤60
  case neg=>rw[decide_eq_false hb];rfl
  rw[decide_eq_true hb]
  by_cases h60:(60:Int)<(c.length:Int)
  ·rw[decide_eq_true h60];rfl
  have hz:=ZtH hf
  have hpz:=hz.p
  rw[decide_eq_false h60]
  obtain⟨r,hr1,hr2⟩:=Zt0 d (by omega)
  have hlm:(b.map ZfF).length=b.length:=List.length_map _
  have at_:∀i:Nat,i<b.length→u32 (((b.map ZfF)[i]?).getD 0)=u32 ((b[i]?).getD 0):=fun i hi=>by
   rw[List.getElem?_map,List.getElem?_eq_getElem hi]
   exact ZvH _
  simp only[Bool.and_self,cond_true,cond_false,ZBc d hz,Option.bind_some,show Zk.mk d.period d.deadline d.parts d.edges d.futures d.barriers=d from rfl,Zgj (show b.length≤1073741824 by omega),hr1,ZtL b (by omega),hlm]
  by_cases hm:r<(b.length:Int)
  ·have ops:∀p∈d.parts,∀vs,opV p b vs=opV p (b.map ZfF++c) vs:=fun p hp vs=>by
    unfold opV
    by_cases h0:p.op=0
    ·rw[if_pos h0,if_pos h0]
     have:=hr2 p hp h0
     by_cases hneg:p.arg<0
     ·rw[if_pos (.inl hneg),if_pos (.inl hneg)]
     ·have hin:p.arg.toNat<b.length:=by omega
      rw[if_neg (by omega),if_neg (by rw[List.length_append,hlm];omega),List.getElem?_append_left (by rw[hlm];exact hin),at_ _ hin]
    ·rw[if_neg h0,if_neg h0]
   obtain⟨x,x1,x2,x3⟩:=Zpj hz (by omega) (show(b.map ZfF++c).length≤1000 by rw[List.length_append,hlm];omega) ops
   simp only[x1,Option.bind_some,decide_eq_true hm,cond_true,Zgj (show b.length+c.length≤1073741824 by omega),x2,beq_self_eq_true,ZoR _ _ x3,decide_true]
  ·have ops:∀p∈d.parts,∀vs,opV p b vs=opV p (b.map ZfF) vs:=fun p hp vs=>by
    unfold opV
    by_cases h0:p.op=0
    ·rw[if_pos h0,if_pos h0,hlm]
     by_cases hneg:p.arg<0∨(b.length:Int)≤p.arg
     ·rw[if_pos hneg,if_pos hneg]
     ·rw[if_neg hneg,if_neg hneg,at_ _ (by omega)]
    ·rw[if_neg h0,if_neg h0]
   obtain⟨x,x1,x2,x3⟩:=Zpj hz (by omega) (show(b.map ZfF).length≤1000 by rw[hlm];omega) ops
   simp only[x1,Option.bind_some,decide_eq_false hm,cond_false,x2,beq_self_eq_true,cond_true,ZoR _ _ x3,decide_true]
theorem ZoI (xs:List D) (h:ZfS Zq1.1 xs) (ys:List D) (k:ZfS Zkf.1 ys) (zs:List D) (n:ZfS Zkf.1 zs) :
  ∃H',evW ctx 5 (ZcC [ZnZ Zq1.2 xs,ZnZ Zkf.2 ys,ZnZ Zkf.2 zs]) []=some (.d (.bool true),H'):=by
 obtain⟨d,hd,_⟩:=ZwM h
 obtain⟨b,hb,_⟩:=Ztb k
 obtain⟨c,hc,_⟩:=Ztb n
 show ∃H',evW ctx 5 [.d (D.agg xs),.d (ZnZ false ys),.d (ZnZ false zs)] []=_
 rw[hd,hb,hc]
 exact ZwE (Zjf true (Zn8 d b c))
end Go.Proofs.YtnmbdjkbaihicaaDoor
namespace Go.Proofs.YtnmbdjkbaihicaaDoor.LawEvalInputs
open Go.ChangeShapes Go.WideShapes Go.ChangeAt Go.RowKit Go.Proofs.YtnmbdjkbaihicaaDoorE
set_option linter.unusedVariables false
theorem own:ownKnob Tryd.prog.godebug=none:=by kernel_rfl
theorem Zqf:laidOutB Tryd.prog=true:=by kernel_rfl
def ZoA : List (String × DataW Unit) := [("math/bits.deBruijn32tab", Rows.laid_math_bits_deBruijn32tab), ("math/bits.deBruijn64tab", Rows.laid_math_bits_deBruijn64tab)]
theorem Zwj (os:Os) (args:Array Value):laidMetH Tryd.prog ZoA ((World.doorLaid Tryd.prog 19 os).forCall (fun _ _=>0) ⟨#[],args,[]⟩).memory:=
 laidMetH_of_parts3 (fuel:=8) (laidMet_of_run' 8 (by kernel_rfl) (by kernel_rfl)) (by kernel_rfl) (by kernel_rfl)
theorem Zu0 {W:World} (h:laidMetH Tryd.prog ZoA W):GOK Zx R0 W:=by
 intro g l hg
 unfold Zx at hg
 split at hg
 ·cases hg
  exact Zoa (t := 148) (N := 32) (e := 5) (k := .u8) h (by kernel_rfl) (n := "math/bits.deBruijn32tab") (by rw [show DataW.agg (ZkM Zx9) = Rows.laid_math_bits_deBruijn32tab by kernel_rfl]; simp [ZoA]) (by kernel_rfl) (by kernel_rfl) (by kernel_rfl) (by kernel_rfl) (by kernel_rfl) (by kernel_rfl) (by decide)
 ·cases hg
  exact Zoa (t := 149) (N := 64) (e := 5) (k := .u8) h (by kernel_rfl) (n := "math/bits.deBruijn64tab") (by rw [show DataW.agg (ZkM Zx0) = Rows.laid_math_bits_deBruijn64tab by kernel_rfl]; simp [ZoA]) (by kernel_rfl) (by kernel_rfl) (by kernel_rfl) (by kernel_rfl) (by kernel_rfl) (by kernel_rfl) (by decide)
 ·cases hg
theorem ZyY (os:Os) (started:os.Started) (H:Type) (enc:TypeId×Value→H) :
  ReturnsInHanded {} Tryd.checked os 5 .any (fun w args=>(Rows.evalInputsSpec.pre enc Tryd.prog Tryd.f5 [] false w args∧laidMetH Tryd.prog ZoA w)∧sizedMet enc Tryd.prog Tryd.f5 (OpenSpec.ofChange Rows.evalInputsSpec) false w args) (Rows.evalInputsSpec.post enc Tryd.prog Tryd.f5 false true false false):=by
 refine returnsInHanded_of_change_and (C:=Tryd.checked) (X:=fun w _=>laidMetH Tryd.prog ZoA w) (fun _ _ _ hh h=>h.of_heap hh) own started (by kernel_rfl) Tryd.func5
  (ChangeSpec.witness_shaped (enc:=enc) (C:=Tryd.checked) (os:=os) (X:=fun w _=>laidMetH Tryd.prog ZoA w) false (World.doorLaid Tryd.prog 19 os) #[.agg #[.int .i64 0,.int .i64 0,.slice none 0 0,.slice none 0 0,.slice none 0 0,.slice none 0 0],.slice none 0 0,.slice none 0 0] 8 rfl (World.shaped_of_RefB (by kernel_rfl) (by kernel_rfl)) (by kernel_rfl) (by kernel_rfl) (by kernel_rfl) (Zwj os _)) ?_
 intro W base args ds gs before hval0 hW _ _ hL _
 have hval:∀(j:Nat) t v,Tryd.f5.params[j]? = some t→args[j]? = some v→Value.okWide Tryd.prog W .any base t v:=hval0
 have hW':=hW
 obtain⟨p,q,hA0,hV,rfl,hfz,hnd⟩:=hW
 have hA:DataW.TrodAll enc Tryd.prog W 0 (fun _=>true) true Tryd.f5.params.toList args.toList ds p:=hA0
 rw[Tryd.params5] at hA hval
 obtain⟨v0,vs0,d0,ds0,p0,q0,hargs,rfl,rfl,h0,r0⟩:=trodAll_cons hA
 obtain⟨v1,vs1,d1,ds1,p1,q1,rfl,rfl,rfl,h1,r1⟩:=trodAll_cons r0
 obtain⟨v2,vs2,d2,ds2,p2,q2,rfl,rfl,rfl,h2,r2⟩:=trodAll_cons r1
 obtain⟨rfl,rfl,rfl⟩:=trodAll_nil r2
 obtain rfl:args = #[v0,v1,v2]:=by cases args;simp_all
 obtain⟨rfl,rfl⟩:=trodVars_none hV
 have lt0:∀x∈p0,x.block<W.heap.size:=by obtain⟨m,hm⟩:=h0;exact DataW.trod_lt m _ _ _ hm
 obtain⟨x0,ok0,den0⟩:=Zr4 (P:=Tryd.prog) (n:=8) (t:=27) (l:=Zq1.1) (ag:=Zq1.2) (by kernel_rfl) (hval 0 27 v0 rfl rfl) h0
 have lt1:∀x∈p1,x.block<W.heap.size:=by obtain⟨m,hm⟩:=h1;exact DataW.trod_lt m _ _ _ hm
 obtain⟨x1,ok1,den1⟩:=Zr4 (P:=Tryd.prog) (n:=8) (t:=28) (l:=Zkf.1) (ag:=Zkf.2) (by kernel_rfl) (hval 1 28 v1 rfl rfl) h1
 have lt2:∀x∈p2,x.block<W.heap.size:=by obtain⟨m,hm⟩:=h2;exact DataW.trod_lt m _ _ _ hm
 obtain⟨x2,ok2,den2⟩:=Zr4 (P:=Tryd.prog) (n:=8) (t:=28) (l:=Zkf.1) (ag:=Zkf.2) (by kernel_rfl) (hval 2 28 v2 rfl rfl) h2
 obtain⟨H1,ev⟩:=ZoI x0 ok0 x1 ok1 x2 ok2
 have den:ZaW All All All W [ZnZ Zq1.2 x0,ZnZ Zkf.2 x1,ZnZ Zkf.2 x2] [v0,v1,v2]:=⟨_,_,rfl,den0,⟨_,_,rfl,den1,⟨_,_,rfl,den2,rfl⟩⟩⟩
 refine(Zuc ZAp (Zu0 hL) den ev).mono fun e W' ⟨he,bel⟩=>?_
 subst he
 exact⟨_,rfl,_,_,_,[],_,[],hW',trodAll_mk1 (shut_bool Tryd.underlying4 _),(trodAll_cons_mk (Below.trod Zqf (by kernel_rfl) (of_decide_eq_true (by kernel_rfl)) h0 bel lt0) (trodAll_cons_mk (Below.trod Zqf (by kernel_rfl) (of_decide_eq_true (by kernel_rfl)) h1 bel lt1) (trodAll_cons_mk (Below.trod Zqf (by kernel_rfl) (of_decide_eq_true (by kernel_rfl)) h2 bel lt2) trodAll_mk0))),rfl,bel.frame _,fun h=>by cases h⟩
theorem over:Rows.evalInputsRow.holds Tryd.pinned (OpenSpec.ofChange Rows.evalInputsSpec):=
 OpenClaim.holds_of_wide 5 Tryd.f5 rfl rfl rfl rfl rfl rfl rfl ⟨rfl,rfl,rfl,rfl,rfl⟩ rfl rfl rfl rfl rfl (by kernel_rfl) Tryd.func5 (by kernel_rfl)
  (of_decide_eq_true (by kernel_rfl)) (by unfold Func.isWrapper;first | (rw[if_pos (by decide +kernel)];kernel_rfl) | (rw[if_neg (by decide +kernel)];exact⟨rfl,rfl⟩))
  (fun os started H enc _=>ZyY os started H enc)
theorem proved:Rows.EvalInputsSaid:=over
theorem carded:Rows.EvalInputsCardSaid:=
 Claim7.holds_tied_plain_at .later [] [.data, .data] true (true, "3ab9be834fa2b7d026ba399aa683e49be0919143fbbd24a24d6e9902cb90d35e") false
  proved (fun _ h=>by cases h) (by kernel_rfl) (fun _ h=>by cases h) evalInputs_row_tie rfl ⟨rfl,rfl⟩ (by kernel_rfl) rfl
  (fun f fn hf hfn=>by
   obtain rfl : f = 5 := Option.some.inj ((show Tryd.prog.funcNamed "trefoil/trefoillaw08.EvalInputs" = some 5 by kernel_rfl).symm.trans hf) |>.symm
   obtain rfl:fn=Tryd.f5:=(Option.some.inj (Tryd.func5.symm.trans hfn)).symm
   exact⟨by kernel_rfl,fun j t ht=>by
    rw[Tryd.params5] at ht
    have hm:t∈[27,28,28]:=by simpa using Array.mem_of_getElem? ht
    have hall:([27,28,28].all fun u=>!Tryd.prog.wantsStandIn u)=true:=by kernel_rfl
    exact(show Tryd.prog.wantsStandIn t=false by simpa using List.all_eq_true.1 hall t hm)⟩)
  (by kernel_rfl)
end Go.Proofs.YtnmbdjkbaihicaaDoor.LawEvalInputs
namespace Go.Proofs.YtnmbdjkbaihicaaDoor
theorem evalInputs_holds:Rows.EvalInputsCardSaid:=LawEvalInputs.carded
#print axioms evalInputs_holds
end Go.Proofs.YtnmbdjkbaihicaaDoor
