/- EvalSteps: part 7 of 7 of the proof: the row and the card of the law, out of what the evaluator says of it; without conditions. -/
import Derived.Test.YtnmbdjkbaihicaaGreatDoorZEvalStepsf
import Derived.KernelRfl
import Derived.Test.YtnmbdjkbaihicaaGreatDoorRows
import Derived.Test.YtnmbdjkbaihicaaGreatDoorCards
import Derived.Test.YtnmbdjkbaihicaaGreatDoorTie
import Derived.WalkKit
import Derived.ProofKit
import Derived.OpenShut
import Derived.ShutString
import Derived.ChangeOld
import Derived.Below
import Derived.SizedLaws
import Derived.Handed
import Derived.LaidMore
import Derived.Stop.Joined
import Derived.ChangeShapes
import Derived.Carry
import Derived.SevenTiedAt
set_option maxRecDepth 100000
set_option maxHeartbeats 40000000
namespace Go.Proofs.YtnmbdjkbaihicaaGreatDoor
open Go Go.Proofs.YtnmbdjkbaihicaaGreatDoorE
set_option linter.unusedVariables false
set_option linter.unusedSimpArgs false
def ZhV (b:Zh) (c:Int) (m1_0:(List Int)) (m2_0:(List Zn)) (m3_0:(List Zh)) (m4_0:(List (Int×Int))) (m5_0:(List (Int×Int))) (m6_0:(List (Zm×Int))):Unit→V×Zp
  | r=>((.d (Zb (w64 ((List.length (m3_0++[b]):Int)-1)))),[(.cells [(.sl 7 1),(.sl 2 2),(.sl 8 2),(.mp 4),(.mp 5),(.mp 6)]),.dead,(.arr 2 (List.map Zv m2_0)),.dead,(.mp (mpD Zb Zb m4_0)),(.mp (mpD Zb Zb m5_0)),(.mp (mpD Zr Zb m6_0)),(.arr 1 (List.map Zb (m1_0++[c]))),(.arr 2 (List.map Zar (m3_0++[b])))])
theorem ZaV {b:Zh}{c:Int}{m1_0:(List Int)}{m2_0:(List Zn)}{m3_0:(List Zh)}{m4_0:(List (Int×Int))}{m5_0:(List (Int×Int))}{m6_0:(List (Zm×Int))}:∀r,(Zau b c m1_0 m3_0)=some r→evW ctx 44 [(.ptr 0 0),(.d (D.agg [(Zb b.part),(Zb b.step)])),(.d (Zb c))] [(.cells [(.sl 1 1),(.sl 2 2),(.sl 3 2),(.mp 4),(.mp 5),(.mp 6)]),(.arr 1 (List.map Zb m1_0)),(.arr 2 (List.map Zv m2_0)),(.arr 2 (List.map Zar m3_0)),(.mp (mpD Zb Zb m4_0)),(.mp (mpD Zb Zb m5_0)),(.mp (mpD Zr Zb m6_0))]=some ((ZhV b c m1_0 m2_0 m3_0 m4_0 m5_0 m6_0) r):=by
 show ZG _ (fun r rhs=>rhs=some ((ZhV b c m1_0 m2_0 m3_0 m4_0 m5_0 m6_0) r)) _
 unfold Zau
 rw[Zgw ctx 44 ZFk _ _ rfl rfl]
 conv=>arg 3;whnf
 refine Zah rfl ?_;conv=>arg 3;whnf
 refine Zd (Zcg Zar m3_0 1) ?_ ?_
 ·conv=>arg 3;whnf
  refine Zk (Zcf Zar m3_0 [b]) ?_;conv=>arg 3;whnf
  refine Zah rfl ?_;conv=>arg 3;whnf
  refine Zd (Zcg Zb m1_0 1) ?_ ?_
  ·conv=>arg 3;whnf
   refine Zk (Zcf Zb m1_0 [c]) ?_;conv=>arg 3;whnf
   refine Zk (Zt _ _) ?_;conv=>arg 3;whnf
   exact Zc rfl
  ·exact ZQ
 ·exact ZQ
def ZhY (b:Int) (c:Int) (m1_0:(List Int)) (m2_0:(List Zn)) (m3_0:(List Zh)) (m4_0:(List (Int×Int))) (m5_0:(List (Int×Int))) (m6_0:(List (Zm×Int))):Unit→V×Zp
  | r=>((.d (D.tup [])),[(.cells [(.sl 1 1),(.sl 7 2),(.sl 3 2),(.mp 4),(.mp 5),(.mp 6)]),(.arr 1 (List.map Zb m1_0)),.dead,(.arr 2 (List.map Zar m3_0)),(.mp (mpD Zb Zb m4_0)),(.mp (mpD Zb Zb m5_0)),(.mp (mpD Zr Zb m6_0)),(.arr 2 (List.map Zv (m2_0++[(Zn.mk b c)])))])
theorem ZaD {b:Int}{c:Int}{m1_0:(List Int)}{m2_0:(List Zn)}{m3_0:(List Zh)}{m4_0:(List (Int×Int))}{m5_0:(List (Int×Int))}{m6_0:(List (Zm×Int))}:∀r,(ZL b c m2_0)=some r→evW ctx 43 [(.ptr 0 0),(.d (Zb b)),(.d (Zb c))] [(.cells [(.sl 1 1),(.sl 2 2),(.sl 3 2),(.mp 4),(.mp 5),(.mp 6)]),(.arr 1 (List.map Zb m1_0)),(.arr 2 (List.map Zv m2_0)),(.arr 2 (List.map Zar m3_0)),(.mp (mpD Zb Zb m4_0)),(.mp (mpD Zb Zb m5_0)),(.mp (mpD Zr Zb m6_0))]=some ((ZhY b c m1_0 m2_0 m3_0 m4_0 m5_0 m6_0) r):=by
 show ZG _ (fun r rhs=>rhs=some ((ZhY b c m1_0 m2_0 m3_0 m4_0 m5_0 m6_0) r)) _
 unfold ZL
 rw[Zgw ctx 43 ZE3 _ _ rfl rfl]
 conv=>arg 3;whnf
 refine Zah rfl ?_;conv=>arg 3;whnf
 refine Zd (Zcg Zv m2_0 1) ?_ ?_
 ·conv=>arg 3;whnf
  refine Zk (Zcf Zv m2_0 [(Zn.mk b c)]) ?_;conv=>arg 3;whnf
  exact Zc rfl
 ·exact ZQ
def ZhW (t0:Bool) (t1:Bool) (t2:Bool) (t3:Bool) (b:Zi) (c:Int) (m1_0:(List Int)) (m2_0:(List Zn)) (m3_0:(List Zh)) (m4_0:(List (Int×Int))) (m5_0:(List (Int×Int))) (m6_0:(List (Zm×Int))):(((List (Int×Int))×(List (Zm×Int))×(List Int)×(List Zn)×(List Zh))⊕((List Int)⊕Unit))→V×Zp
  | (.inl r)=>((.d (D.tup [])),[(.cells [(.sl 7 1),(.sl 8 2),(.sl 9 2),(.mp 4),(.mp 5),(.mp 6)]),.dead,.dead,.dead,(.mp (mpD Zb Zb (Zx (fun ka kb:Int=>(ka==kb)) m4_0 c (m3_0.length:Int)))),(.mp (mpD Zb Zb r.1)),(.mp (mpD Zr Zb r.2.1)),(.arr 1 (List.map Zb r.2.2.1)),(.arr 2 (List.map Zv r.2.2.2.1)),(.arr 2 (List.map Zar r.2.2.2.2))])
  | (.inr (.inl r))=>((.d (D.tup [])),[(.cells [(.sl 7 1),(.sl 2 2),(.sl 8 2),(.mp 4),(.mp 5),(.mp 6)]),.dead,(.arr 2 (List.map Zv m2_0)),.dead,(.mp (mpD Zb Zb (Zx (fun ka kb:Int=>(ka==kb)) m4_0 c (m3_0.length:Int)))),(.mp (mpD Zb Zb (Zx (fun ka kb:Int=>(ka==kb)) m5_0 c (w64 ((List.length (m3_0++[(Zh.mk c 0)]):Int)-1))))),(.mp (mpD Zr Zb m6_0)),(.arr 1 (List.map Zb r)),(.arr 2 (List.map Zar (m3_0++[(Zh.mk c 0)])))])
  | (.inr (.inr r))=>((.d (D.tup [])),[(.cells [(.sl 1 1),(.sl 2 2),(.sl 3 2),(.mp 4),(.mp 5),(.mp 6)]),(.arr 1 (List.map Zb m1_0)),(.arr 2 (List.map Zv m2_0)),(.arr 2 (List.map Zar m3_0)),(.mp (mpD Zb Zb (Zx (fun ka kb:Int=>(ka==kb)) m4_0 c (m3_0.length:Int)))),(.mp (mpD Zb Zb m5_0)),(.mp (mpD Zr Zb m6_0))])
def Zhh (t0:Bool) (t1:Bool) (t2:Bool) (t3:Bool) (b:Zi) (c:Int) (m3_0:(List Zh)) (m4_0:(List (Int×Int))) (x0:(List Int)):((List (Int×Int))×(List (Zm×Int))×(List Int)×(List Zn)×(List Zh))→Ex×List V×Zp
  | r=>(.exit 0,[],[(.cells [(.sl 7 1),(.sl 8 2),(.sl 9 2),(.mp 4),(.mp 5),(.mp 6)]),.dead,.dead,.dead,(.mp (mpD Zb Zb (Zx (fun ka kb:Int=>(ka==kb)) m4_0 c (m3_0.length:Int)))),(.mp (mpD Zb Zb r.1)),(.mp (mpD Zr Zb r.2.1)),(.arr 1 (List.map Zb r.2.2.1)),(.arr 2 (List.map Zv r.2.2.2.1)),(.arr 2 (List.map Zar r.2.2.2.2))])
theorem Zc5 {t0:Bool}{t1:Bool}{t2:Bool}{t3:Bool}{b:Zi}{c:Int}{m3_0:(List Zh)}{m4_0:(List (Int×Int))}{x0:(List Int)}:∀(s14:Int×Int×(List (Int×Int))×(List (Zm×Int))×(List Int)×(List Zn)×(List Zh)) (r:((List (Int×Int))×(List (Zm×Int))×(List Int)×(List Zn)×(List Zh))),lp (ZH b c x0) s14=some r→lpW ctx 7 [0,2,4,6,7,26,27] [] Zs8 [(.ptr 0 0),(.d (Zb c)),(.ptr 7 0),(.d (Zb s14.1)),(.d (D.list true (List.map Zb x0))),(.d (Zb (w64 ((x0.length:Int)+1)))),(.d (Zb s14.2.1))] [(.cells [(.sl 8 1),(.sl 9 2),(.sl 10 2),(.mp 4),(.mp 5),(.mp 6)]),.dead,.dead,.dead,(.mp (mpD Zb Zb (Zx (fun ka kb:Int=>(ka==kb)) m4_0 c (m3_0.length:Int)))),(.mp (mpD Zb Zb s14.2.2.1)),(.mp (mpD Zr Zb s14.2.2.2.1)),(.cells (dV t0 t1 t2 t3 b)),(.arr 1 (List.map Zb s14.2.2.2.2.1)),(.arr 2 (List.map Zv s14.2.2.2.2.2.1)),(.arr 2 (List.map Zar s14.2.2.2.2.2.2))]=some ((Zhh t0 t1 t2 t3 b c m3_0 m4_0 x0) r):=by
 refine Z1 (Zhh t0 t1 t2 t3 b c m3_0 m4_0 x0) ?_
 intro s14 rcl ih
 show ZG _ _ (lpW _ _ _ _ _ _ _)
 unfold ZH
 rw[Z2]
 conv=>arg 3;whnf
 refine Zd rfl ?_ ?_<;>conv=>arg 3;whnf
 ·refine Zl rfl rfl fun x15 hx15=>?_;conv=>arg 3;whnf
  refine Zk (Zt _ _) ?_;conv=>arg 3;whnf
  refine Zd rfl ?_ ?_<;>conv=>arg 3;whnf
  ·refine Zl rfl rfl fun x16 hx16=>?_;conv=>arg 3;whnf
   refine Zl rfl rfl fun x17 hx17=>?_;conv=>arg 3;whnf
   refine Ze _ ZaV fun x18 hx18=>?_;conv=>arg 3;whnf
   refine Zg (ZdX (f:=Zb) (g:=Zb) (fun ka kb:Int=>(ka==kb)) (fun _ _=>rfl) s14.2.2.1 c (w64 ((List.length (s14.2.2.2.2.2.2++[(Zh.mk c s14.2.1)]):Int)-1))) ?_;conv=>arg 3;whnf
   refine Zd rfl ?_ ?_<;>conv=>arg 3;whnf
   ·refine Zg (ZbC (f:=Zb) (g:=Zb) (fun ka kb:Int=>(ka==kb)) (fun _ _=>rfl) (Zx (fun ka kb:Int=>(ka==kb)) s14.2.2.1 c (w64 ((List.length (s14.2.2.2.2.2.2++[(Zh.mk c s14.2.1)]):Int)-1))) c 0) ?_;conv=>arg 3;whnf
    refine Zg (ZbC (f:=Zb) (g:=Zb) (fun ka kb:Int=>(ka==kb)) (fun _ _=>rfl) (Zx (fun ka kb:Int=>(ka==kb)) s14.2.2.1 c (w64 ((List.length (s14.2.2.2.2.2.2++[(Zh.mk c s14.2.1)]):Int)-1))) c 0) ?_;conv=>arg 3;whnf
    refine Ze _ ZaD fun x19 hx19=>?_;conv=>arg 3;whnf
    refine Zl rfl rfl fun x20 hx20=>?_;conv=>arg 3;whnf
    refine Zl rfl rfl fun x21 hx21=>?_;conv=>arg 3;whnf
    refine Zg (ZbC (f:=Zb) (g:=Zb) (fun ka kb:Int=>(ka==kb)) (fun _ _=>rfl) (Zx (fun ka kb:Int=>(ka==kb)) s14.2.2.1 c (w64 ((List.length (s14.2.2.2.2.2.2++[(Zh.mk c s14.2.1)]):Int)-1))) c 0) ?_;conv=>arg 3;whnf
    refine Zg (ZdX (f:=Zr) (g:=Zb) (fun ka kb:Zm=>((ka.maker==kb.maker)&&((ka.user==kb.user)&&((ka.pos==kb.pos)&&true)))) (fun _ _=>rfl) s14.2.2.2.1 x21 (Z9 (fun ka kb:Int=>(ka==kb)) (Zx (fun ka kb:Int=>(ka==kb)) s14.2.2.1 c (w64 ((List.length (s14.2.2.2.2.2.2++[(Zh.mk c s14.2.1)]):Int)-1))) c 0)) ?_;conv=>arg 3;whnf
    exact Zf (ih _)
   ·exact Zf (ih _)
  ·refine Ze _ ZaV fun x22 hx22=>?_;conv=>arg 3;whnf
   refine Zg (ZdX (f:=Zb) (g:=Zb) (fun ka kb:Int=>(ka==kb)) (fun _ _=>rfl) s14.2.2.1 c (w64 ((List.length (s14.2.2.2.2.2.2++[(Zh.mk c s14.2.1)]):Int)-1))) ?_;conv=>arg 3;whnf
   refine Zd rfl ?_ ?_<;>conv=>arg 3;whnf
   ·refine Zg (ZbC (f:=Zb) (g:=Zb) (fun ka kb:Int=>(ka==kb)) (fun _ _=>rfl) (Zx (fun ka kb:Int=>(ka==kb)) s14.2.2.1 c (w64 ((List.length (s14.2.2.2.2.2.2++[(Zh.mk c s14.2.1)]):Int)-1))) c 0) ?_;conv=>arg 3;whnf
    refine Zg (ZbC (f:=Zb) (g:=Zb) (fun ka kb:Int=>(ka==kb)) (fun _ _=>rfl) (Zx (fun ka kb:Int=>(ka==kb)) s14.2.2.1 c (w64 ((List.length (s14.2.2.2.2.2.2++[(Zh.mk c s14.2.1)]):Int)-1))) c 0) ?_;conv=>arg 3;whnf
    refine Ze _ ZaD fun x23 hx23=>?_;conv=>arg 3;whnf
    refine Zl rfl rfl fun x24 hx24=>?_;conv=>arg 3;whnf
    refine Zl rfl rfl fun x25 hx25=>?_;conv=>arg 3;whnf
    refine Zg (ZbC (f:=Zb) (g:=Zb) (fun ka kb:Int=>(ka==kb)) (fun _ _=>rfl) (Zx (fun ka kb:Int=>(ka==kb)) s14.2.2.1 c (w64 ((List.length (s14.2.2.2.2.2.2++[(Zh.mk c s14.2.1)]):Int)-1))) c 0) ?_;conv=>arg 3;whnf
    refine Zg (ZdX (f:=Zr) (g:=Zb) (fun ka kb:Zm=>((ka.maker==kb.maker)&&((ka.user==kb.user)&&((ka.pos==kb.pos)&&true)))) (fun _ _=>rfl) s14.2.2.2.1 x25 (Z9 (fun ka kb:Int=>(ka==kb)) (Zx (fun ka kb:Int=>(ka==kb)) s14.2.2.1 c (w64 ((List.length (s14.2.2.2.2.2.2++[(Zh.mk c s14.2.1)]):Int)-1))) c 0)) ?_;conv=>arg 3;whnf
    exact Zf (ih _)
   ·exact Zf (ih _)
 ·exact Zc rfl
def Zgy (t0:Bool) (t1:Bool) (t2:Bool) (t3:Bool) (b:Zi) (c:Int) (m1_0:(List Int)) (m2_0:(List Zn)) (m3_0:(List Zh)) (m4_0:(List (Int×Int))) (m5_0:(List (Int×Int))) (m6_0:(List (Zm×Int))) (x0:(List Int)) (x4:Zm):(((List (Int×Int))×(List (Zm×Int))×(List Int)×(List Zn)×(List Zh))⊕Unit)→Ex×List V×Zp
  | (.inl r)=>(.exit 0,[],[(.cells [(.sl 7 1),(.sl 8 2),(.sl 9 2),(.mp 4),(.mp 5),(.mp 6)]),.dead,.dead,.dead,(.mp (mpD Zb Zb (Zx (fun ka kb:Int=>(ka==kb)) m4_0 c (m3_0.length:Int)))),(.mp (mpD Zb Zb r.1)),(.mp (mpD Zr Zb r.2.1)),(.arr 1 (List.map Zb r.2.2.1)),(.arr 2 (List.map Zv r.2.2.2.1)),(.arr 2 (List.map Zar r.2.2.2.2))])
  | (.inr r)=>(.exit 0,[],[(.cells [(.sl 7 1),(.sl 2 2),(.sl 8 2),(.mp 4),(.mp 5),(.mp 6)]),.dead,(.arr 2 (List.map Zv m2_0)),.dead,(.mp (mpD Zb Zb (Zx (fun ka kb:Int=>(ka==kb)) m4_0 c (m3_0.length:Int)))),(.mp (mpD Zb Zb (Zx (fun ka kb:Int=>(ka==kb)) m5_0 c (w64 ((List.length (m3_0++[(Zh.mk c 0)]):Int)-1))))),(.mp (mpD Zr Zb m6_0)),(.arr 1 (List.map Zb (m1_0++[(w64 (x4.pos-0))]))),(.arr 2 (List.map Zar (m3_0++[(Zh.mk c 0)])))])
theorem Zi4 {t0:Bool}{t1:Bool}{t2:Bool}{t3:Bool}{b:Zi}{c:Int}{m1_0:(List Int)}{m2_0:(List Zn)}{m3_0:(List Zh)}{m4_0:(List (Int×Int))}{m5_0:(List (Int×Int))}{m6_0:(List (Zm×Int))}{x0:(List Int)}{x4:Zm}:∀(s6:Unit) (r:(((List (Int×Int))×(List (Zm×Int))×(List Int)×(List Zn)×(List Zh))⊕Unit)),lp (ZbE b c m1_0 m2_0 m3_0 m5_0 m6_0 x0 x4) s6=some r→lpW ctx 7 [0,2,4,6,7,26,27] [] Zs8 [(.ptr 0 0),(.d (Zb c)),(.ptr 7 0),(.d (Zb x4.pos)),(.d (D.list true (List.map Zb x0))),(.d (Zb (w64 ((x0.length:Int)+1)))),(.d (Zb 1))] [(.cells [(.sl 8 1),(.sl 2 2),(.sl 9 2),(.mp 4),(.mp 5),(.mp 6)]),.dead,(.arr 2 (List.map Zv m2_0)),.dead,(.mp (mpD Zb Zb (Zx (fun ka kb:Int=>(ka==kb)) m4_0 c (m3_0.length:Int)))),(.mp (mpD Zb Zb (Zx (fun ka kb:Int=>(ka==kb)) m5_0 c (w64 ((List.length (m3_0++[(Zh.mk c 0)]):Int)-1))))),(.mp (mpD Zr Zb m6_0)),(.cells (dV t0 t1 t2 t3 b)),(.arr 1 (List.map Zb (m1_0++[(w64 (x4.pos-0))]))),(.arr 2 (List.map Zar (m3_0++[(Zh.mk c 0)])))]=some ((Zgy t0 t1 t2 t3 b c m1_0 m2_0 m3_0 m4_0 m5_0 m6_0 x0 x4) r):=by
 refine Z1 (Zgy t0 t1 t2 t3 b c m1_0 m2_0 m3_0 m4_0 m5_0 m6_0 x0 x4) ?_
 intro s6 rcl ih
 show ZG _ _ (lpW _ _ _ _ _ _ _)
 unfold ZbE
 rw[Z2]
 conv=>arg 3;whnf
 refine Zd rfl ?_ ?_<;>conv=>arg 3;whnf
 ·refine Zl rfl rfl fun x7 hx7=>?_;conv=>arg 3;whnf
  refine Zk (Zt _ _) ?_;conv=>arg 3;whnf
  refine Zd rfl ?_ ?_<;>conv=>arg 3;whnf
  ·refine Zl rfl rfl fun x8 hx8=>?_;conv=>arg 3;whnf
   refine Zl rfl rfl fun x9 hx9=>?_;conv=>arg 3;whnf
   refine Ze _ ZaV fun x10 hx10=>?_;conv=>arg 3;whnf
   refine Zg (ZdX (f:=Zb) (g:=Zb) (fun ka kb:Int=>(ka==kb)) (fun _ _=>rfl) (Zx (fun ka kb:Int=>(ka==kb)) m5_0 c (w64 ((List.length (m3_0++[(Zh.mk c 0)]):Int)-1))) c (w64 ((List.length ((m3_0++[(Zh.mk c 0)])++[(Zh.mk c 1)]):Int)-1))) ?_;conv=>arg 3;whnf
   refine Zah rfl ?_;conv=>arg 3;whnf
   refine Zg (ZbC (f:=Zb) (g:=Zb) (fun ka kb:Int=>(ka==kb)) (fun _ _=>rfl) (Zx (fun ka kb:Int=>(ka==kb)) (Zx (fun ka kb:Int=>(ka==kb)) m5_0 c (w64 ((List.length (m3_0++[(Zh.mk c 0)]):Int)-1))) c (w64 ((List.length ((m3_0++[(Zh.mk c 0)])++[(Zh.mk c 1)]):Int)-1))) c 0) ?_;conv=>arg 3;whnf
   refine Zg (ZbC (f:=Zb) (g:=Zb) (fun ka kb:Int=>(ka==kb)) (fun _ _=>rfl) (Zx (fun ka kb:Int=>(ka==kb)) (Zx (fun ka kb:Int=>(ka==kb)) m5_0 c (w64 ((List.length (m3_0++[(Zh.mk c 0)]):Int)-1))) c (w64 ((List.length ((m3_0++[(Zh.mk c 0)])++[(Zh.mk c 1)]):Int)-1))) c 0) ?_;conv=>arg 3;whnf
   refine Ze _ ZaD fun x11 hx11=>?_;conv=>arg 3;whnf
   refine Zl rfl rfl fun x12 hx12=>?_;conv=>arg 3;whnf
   refine Zl rfl rfl fun x13 hx13=>?_;conv=>arg 3;whnf
   refine Zg (ZbC (f:=Zb) (g:=Zb) (fun ka kb:Int=>(ka==kb)) (fun _ _=>rfl) (Zx (fun ka kb:Int=>(ka==kb)) (Zx (fun ka kb:Int=>(ka==kb)) m5_0 c (w64 ((List.length (m3_0++[(Zh.mk c 0)]):Int)-1))) c (w64 ((List.length ((m3_0++[(Zh.mk c 0)])++[(Zh.mk c 1)]):Int)-1))) c 0) ?_;conv=>arg 3;whnf
   refine Zg (ZdX (f:=Zr) (g:=Zb) (fun ka kb:Zm=>((ka.maker==kb.maker)&&((ka.user==kb.user)&&((ka.pos==kb.pos)&&true)))) (fun _ _=>rfl) m6_0 x13 (Z9 (fun ka kb:Int=>(ka==kb)) (Zx (fun ka kb:Int=>(ka==kb)) (Zx (fun ka kb:Int=>(ka==kb)) m5_0 c (w64 ((List.length (m3_0++[(Zh.mk c 0)]):Int)-1))) c (w64 ((List.length ((m3_0++[(Zh.mk c 0)])++[(Zh.mk c 1)]):Int)-1))) c 0)) ?_;conv=>arg 3;whnf
   refine Ze _ (Zc5 _) fun r26 hr26=>?_;conv=>arg 3;whnf
   exact Zc rfl
  ·refine Ze _ ZaV fun x27 hx27=>?_;conv=>arg 3;whnf
   refine Zg (ZdX (f:=Zb) (g:=Zb) (fun ka kb:Int=>(ka==kb)) (fun _ _=>rfl) (Zx (fun ka kb:Int=>(ka==kb)) m5_0 c (w64 ((List.length (m3_0++[(Zh.mk c 0)]):Int)-1))) c (w64 ((List.length ((m3_0++[(Zh.mk c 0)])++[(Zh.mk c 1)]):Int)-1))) ?_;conv=>arg 3;whnf
   refine Zah rfl ?_;conv=>arg 3;whnf
   refine Zg (ZbC (f:=Zb) (g:=Zb) (fun ka kb:Int=>(ka==kb)) (fun _ _=>rfl) (Zx (fun ka kb:Int=>(ka==kb)) (Zx (fun ka kb:Int=>(ka==kb)) m5_0 c (w64 ((List.length (m3_0++[(Zh.mk c 0)]):Int)-1))) c (w64 ((List.length ((m3_0++[(Zh.mk c 0)])++[(Zh.mk c 1)]):Int)-1))) c 0) ?_;conv=>arg 3;whnf
   refine Zg (ZbC (f:=Zb) (g:=Zb) (fun ka kb:Int=>(ka==kb)) (fun _ _=>rfl) (Zx (fun ka kb:Int=>(ka==kb)) (Zx (fun ka kb:Int=>(ka==kb)) m5_0 c (w64 ((List.length (m3_0++[(Zh.mk c 0)]):Int)-1))) c (w64 ((List.length ((m3_0++[(Zh.mk c 0)])++[(Zh.mk c 1)]):Int)-1))) c 0) ?_;conv=>arg 3;whnf
   refine Ze _ ZaD fun x28 hx28=>?_;conv=>arg 3;whnf
   refine Zl rfl rfl fun x29 hx29=>?_;conv=>arg 3;whnf
   refine Zl rfl rfl fun x30 hx30=>?_;conv=>arg 3;whnf
   refine Zg (ZbC (f:=Zb) (g:=Zb) (fun ka kb:Int=>(ka==kb)) (fun _ _=>rfl) (Zx (fun ka kb:Int=>(ka==kb)) (Zx (fun ka kb:Int=>(ka==kb)) m5_0 c (w64 ((List.length (m3_0++[(Zh.mk c 0)]):Int)-1))) c (w64 ((List.length ((m3_0++[(Zh.mk c 0)])++[(Zh.mk c 1)]):Int)-1))) c 0) ?_;conv=>arg 3;whnf
   refine Zg (ZdX (f:=Zr) (g:=Zb) (fun ka kb:Zm=>((ka.maker==kb.maker)&&((ka.user==kb.user)&&((ka.pos==kb.pos)&&true)))) (fun _ _=>rfl) m6_0 x30 (Z9 (fun ka kb:Int=>(ka==kb)) (Zx (fun ka kb:Int=>(ka==kb)) (Zx (fun ka kb:Int=>(ka==kb)) m5_0 c (w64 ((List.length (m3_0++[(Zh.mk c 0)]):Int)-1))) c (w64 ((List.length ((m3_0++[(Zh.mk c 0)])++[(Zh.mk c 1)]):Int)-1))) c 0)) ?_;conv=>arg 3;whnf
   refine Ze _ (Zc5 _) fun r43 hr43=>?_;conv=>arg 3;whnf
   exact Zc rfl
 ·exact Zc rfl
def ZgD (t0:Bool) (t1:Bool) (t2:Bool) (t3:Bool) (b:Zi) (c:Int) (m1_0:(List Int)) (m2_0:(List Zn)) (m3_0:(List Zh)) (m4_0:(List (Int×Int))) (m5_0:(List (Int×Int))) (m6_0:(List (Zm×Int))) (x0:(List Int)) (x2:ZV):(((List (Int×Int))×(List (Zm×Int))×(List Int)×(List Zn)×(List Zh))⊕Unit)→Ex×List V×Zp
  | (.inl r)=>(.exit 0,[],[(.cells [(.sl 7 1),(.sl 8 2),(.sl 9 2),(.mp 4),(.mp 5),(.mp 6)]),.dead,.dead,.dead,(.mp (mpD Zb Zb (Zx (fun ka kb:Int=>(ka==kb)) m4_0 c (m3_0.length:Int)))),(.mp (mpD Zb Zb r.1)),(.mp (mpD Zr Zb r.2.1)),(.arr 1 (List.map Zb r.2.2.1)),(.arr 2 (List.map Zv r.2.2.2.1)),(.arr 2 (List.map Zar r.2.2.2.2))])
  | (.inr r)=>(.exit 0,[],[(.cells [(.sl 7 1),(.sl 2 2),(.sl 8 2),(.mp 4),(.mp 5),(.mp 6)]),.dead,(.arr 2 (List.map Zv m2_0)),.dead,(.mp (mpD Zb Zb (Zx (fun ka kb:Int=>(ka==kb)) m4_0 c (m3_0.length:Int)))),(.mp (mpD Zb Zb (Zx (fun ka kb:Int=>(ka==kb)) m5_0 c (w64 ((List.length (m3_0++[(Zh.mk c 0)]):Int)-1))))),(.mp (mpD Zr Zb m6_0)),(.arr 1 (List.map Zb (m1_0++[(w64 (x2.work-0))]))),(.arr 2 (List.map Zar (m3_0++[(Zh.mk c 0)])))])
theorem Zjd {t0:Bool}{t1:Bool}{t2:Bool}{t3:Bool}{b:Zi}{c:Int}{m1_0:(List Int)}{m2_0:(List Zn)}{m3_0:(List Zh)}{m4_0:(List (Int×Int))}{m5_0:(List (Int×Int))}{m6_0:(List (Zm×Int))}{x0:(List Int)}{x2:ZV}:∀(s46:Unit) (r:(((List (Int×Int))×(List (Zm×Int))×(List Int)×(List Zn)×(List Zh))⊕Unit)),lp (Zcz b c m1_0 m2_0 m3_0 m5_0 m6_0 x0 x2) s46=some r→lpW ctx 7 [0,2,4,6,7,26,27] [] Zs8 [(.ptr 0 0),(.d (Zb c)),(.ptr 7 0),(.d (Zb x2.work)),(.d (D.list true (List.map Zb x0))),(.d (Zb (w64 ((x0.length:Int)+1)))),(.d (Zb 1))] [(.cells [(.sl 8 1),(.sl 2 2),(.sl 9 2),(.mp 4),(.mp 5),(.mp 6)]),.dead,(.arr 2 (List.map Zv m2_0)),.dead,(.mp (mpD Zb Zb (Zx (fun ka kb:Int=>(ka==kb)) m4_0 c (m3_0.length:Int)))),(.mp (mpD Zb Zb (Zx (fun ka kb:Int=>(ka==kb)) m5_0 c (w64 ((List.length (m3_0++[(Zh.mk c 0)]):Int)-1))))),(.mp (mpD Zr Zb m6_0)),(.cells (dV t0 t1 t2 t3 b)),(.arr 1 (List.map Zb (m1_0++[(w64 (x2.work-0))]))),(.arr 2 (List.map Zar (m3_0++[(Zh.mk c 0)])))]=some ((ZgD t0 t1 t2 t3 b c m1_0 m2_0 m3_0 m4_0 m5_0 m6_0 x0 x2) r):=by
 refine Z1 (ZgD t0 t1 t2 t3 b c m1_0 m2_0 m3_0 m4_0 m5_0 m6_0 x0 x2) ?_
 intro s46 rcl ih
 show ZG _ _ (lpW _ _ _ _ _ _ _)
 unfold Zcz
 rw[Z2]
 conv=>arg 3;whnf
 refine Zd rfl ?_ ?_<;>conv=>arg 3;whnf
 ·refine Zl rfl rfl fun x47 hx47=>?_;conv=>arg 3;whnf
  refine Zk (Zt _ _) ?_;conv=>arg 3;whnf
  refine Zd rfl ?_ ?_<;>conv=>arg 3;whnf
  ·refine Zl rfl rfl fun x48 hx48=>?_;conv=>arg 3;whnf
   refine Zl rfl rfl fun x49 hx49=>?_;conv=>arg 3;whnf
   refine Ze _ ZaV fun x50 hx50=>?_;conv=>arg 3;whnf
   refine Zg (ZdX (f:=Zb) (g:=Zb) (fun ka kb:Int=>(ka==kb)) (fun _ _=>rfl) (Zx (fun ka kb:Int=>(ka==kb)) m5_0 c (w64 ((List.length (m3_0++[(Zh.mk c 0)]):Int)-1))) c (w64 ((List.length ((m3_0++[(Zh.mk c 0)])++[(Zh.mk c 1)]):Int)-1))) ?_;conv=>arg 3;whnf
   refine Zah rfl ?_;conv=>arg 3;whnf
   refine Zg (ZbC (f:=Zb) (g:=Zb) (fun ka kb:Int=>(ka==kb)) (fun _ _=>rfl) (Zx (fun ka kb:Int=>(ka==kb)) (Zx (fun ka kb:Int=>(ka==kb)) m5_0 c (w64 ((List.length (m3_0++[(Zh.mk c 0)]):Int)-1))) c (w64 ((List.length ((m3_0++[(Zh.mk c 0)])++[(Zh.mk c 1)]):Int)-1))) c 0) ?_;conv=>arg 3;whnf
   refine Zg (ZbC (f:=Zb) (g:=Zb) (fun ka kb:Int=>(ka==kb)) (fun _ _=>rfl) (Zx (fun ka kb:Int=>(ka==kb)) (Zx (fun ka kb:Int=>(ka==kb)) m5_0 c (w64 ((List.length (m3_0++[(Zh.mk c 0)]):Int)-1))) c (w64 ((List.length ((m3_0++[(Zh.mk c 0)])++[(Zh.mk c 1)]):Int)-1))) c 0) ?_;conv=>arg 3;whnf
   refine Ze _ ZaD fun x51 hx51=>?_;conv=>arg 3;whnf
   refine Zl rfl rfl fun x52 hx52=>?_;conv=>arg 3;whnf
   refine Zl rfl rfl fun x53 hx53=>?_;conv=>arg 3;whnf
   refine Zg (ZbC (f:=Zb) (g:=Zb) (fun ka kb:Int=>(ka==kb)) (fun _ _=>rfl) (Zx (fun ka kb:Int=>(ka==kb)) (Zx (fun ka kb:Int=>(ka==kb)) m5_0 c (w64 ((List.length (m3_0++[(Zh.mk c 0)]):Int)-1))) c (w64 ((List.length ((m3_0++[(Zh.mk c 0)])++[(Zh.mk c 1)]):Int)-1))) c 0) ?_;conv=>arg 3;whnf
   refine Zg (ZdX (f:=Zr) (g:=Zb) (fun ka kb:Zm=>((ka.maker==kb.maker)&&((ka.user==kb.user)&&((ka.pos==kb.pos)&&true)))) (fun _ _=>rfl) m6_0 x53 (Z9 (fun ka kb:Int=>(ka==kb)) (Zx (fun ka kb:Int=>(ka==kb)) (Zx (fun ka kb:Int=>(ka==kb)) m5_0 c (w64 ((List.length (m3_0++[(Zh.mk c 0)]):Int)-1))) c (w64 ((List.length ((m3_0++[(Zh.mk c 0)])++[(Zh.mk c 1)]):Int)-1))) c 0)) ?_;conv=>arg 3;whnf
   refine Ze _ (Zc5 _) fun r66 hr66=>?_;conv=>arg 3;whnf
   exact Zc rfl
  ·refine Ze _ ZaV fun x67 hx67=>?_;conv=>arg 3;whnf
   refine Zg (ZdX (f:=Zb) (g:=Zb) (fun ka kb:Int=>(ka==kb)) (fun _ _=>rfl) (Zx (fun ka kb:Int=>(ka==kb)) m5_0 c (w64 ((List.length (m3_0++[(Zh.mk c 0)]):Int)-1))) c (w64 ((List.length ((m3_0++[(Zh.mk c 0)])++[(Zh.mk c 1)]):Int)-1))) ?_;conv=>arg 3;whnf
   refine Zah rfl ?_;conv=>arg 3;whnf
   refine Zg (ZbC (f:=Zb) (g:=Zb) (fun ka kb:Int=>(ka==kb)) (fun _ _=>rfl) (Zx (fun ka kb:Int=>(ka==kb)) (Zx (fun ka kb:Int=>(ka==kb)) m5_0 c (w64 ((List.length (m3_0++[(Zh.mk c 0)]):Int)-1))) c (w64 ((List.length ((m3_0++[(Zh.mk c 0)])++[(Zh.mk c 1)]):Int)-1))) c 0) ?_;conv=>arg 3;whnf
   refine Zg (ZbC (f:=Zb) (g:=Zb) (fun ka kb:Int=>(ka==kb)) (fun _ _=>rfl) (Zx (fun ka kb:Int=>(ka==kb)) (Zx (fun ka kb:Int=>(ka==kb)) m5_0 c (w64 ((List.length (m3_0++[(Zh.mk c 0)]):Int)-1))) c (w64 ((List.length ((m3_0++[(Zh.mk c 0)])++[(Zh.mk c 1)]):Int)-1))) c 0) ?_;conv=>arg 3;whnf
   refine Ze _ ZaD fun x68 hx68=>?_;conv=>arg 3;whnf
   refine Zl rfl rfl fun x69 hx69=>?_;conv=>arg 3;whnf
   refine Zl rfl rfl fun x70 hx70=>?_;conv=>arg 3;whnf
   refine Zg (ZbC (f:=Zb) (g:=Zb) (fun ka kb:Int=>(ka==kb)) (fun _ _=>rfl) (Zx (fun ka kb:Int=>(ka==kb)) (Zx (fun ka kb:Int=>(ka==kb)) m5_0 c (w64 ((List.length (m3_0++[(Zh.mk c 0)]):Int)-1))) c (w64 ((List.length ((m3_0++[(Zh.mk c 0)])++[(Zh.mk c 1)]):Int)-1))) c 0) ?_;conv=>arg 3;whnf
   refine Zg (ZdX (f:=Zr) (g:=Zb) (fun ka kb:Zm=>((ka.maker==kb.maker)&&((ka.user==kb.user)&&((ka.pos==kb.pos)&&true)))) (fun _ _=>rfl) m6_0 x70 (Z9 (fun ka kb:Int=>(ka==kb)) (Zx (fun ka kb:Int=>(ka==kb)) (Zx (fun ka kb:Int=>(ka==kb)) m5_0 c (w64 ((List.length (m3_0++[(Zh.mk c 0)]):Int)-1))) c (w64 ((List.length ((m3_0++[(Zh.mk c 0)])++[(Zh.mk c 1)]):Int)-1))) c 0)) ?_;conv=>arg 3;whnf
   refine Ze _ (Zc5 _) fun r83 hr83=>?_;conv=>arg 3;whnf
   exact Zc rfl
 ·exact Zc rfl
def Zgr (t0:Bool) (t1:Bool) (t2:Bool) (t3:Bool) (b:Zi) (c:Int) (m1_0:(List Int)) (m2_0:(List Zn)) (m3_0:(List Zh)) (m4_0:(List (Int×Int))) (m5_0:(List (Int×Int))) (m6_0:(List (Zm×Int))) (x0:(List Int)):(((List (Int×Int))×(List (Zm×Int))×(List Int)×(List Zn)×(List Zh))⊕((List Int)⊕Unit))→Ex×List V×Zp
  | (.inl r)=>(.exit 0,[],[(.cells [(.sl 7 1),(.sl 8 2),(.sl 9 2),(.mp 4),(.mp 5),(.mp 6)]),.dead,.dead,.dead,(.mp (mpD Zb Zb (Zx (fun ka kb:Int=>(ka==kb)) m4_0 c (m3_0.length:Int)))),(.mp (mpD Zb Zb r.1)),(.mp (mpD Zr Zb r.2.1)),(.arr 1 (List.map Zb r.2.2.1)),(.arr 2 (List.map Zv r.2.2.2.1)),(.arr 2 (List.map Zar r.2.2.2.2))])
  | (.inr (.inl r))=>(.exit 0,[],[(.cells [(.sl 7 1),(.sl 2 2),(.sl 8 2),(.mp 4),(.mp 5),(.mp 6)]),.dead,(.arr 2 (List.map Zv m2_0)),.dead,(.mp (mpD Zb Zb (Zx (fun ka kb:Int=>(ka==kb)) m4_0 c (m3_0.length:Int)))),(.mp (mpD Zb Zb (Zx (fun ka kb:Int=>(ka==kb)) m5_0 c (w64 ((List.length (m3_0++[(Zh.mk c 0)]):Int)-1))))),(.mp (mpD Zr Zb m6_0)),(.arr 1 (List.map Zb r)),(.arr 2 (List.map Zar (m3_0++[(Zh.mk c 0)])))])
  | (.inr (.inr r))=>(.exit 0,[],[(.cells [(.sl 1 1),(.sl 2 2),(.sl 3 2),(.mp 4),(.mp 5),(.mp 6)]),(.arr 1 (List.map Zb m1_0)),(.arr 2 (List.map Zv m2_0)),(.arr 2 (List.map Zar m3_0)),(.mp (mpD Zb Zb (Zx (fun ka kb:Int=>(ka==kb)) m4_0 c (m3_0.length:Int)))),(.mp (mpD Zb Zb m5_0)),(.mp (mpD Zr Zb m6_0))])
theorem Zje {t0:Bool}{t1:Bool}{t2:Bool}{t3:Bool}{b:Zi}{c:Int}{m1_0:(List Int)}{m2_0:(List Zn)}{m3_0:(List Zh)}{m4_0:(List (Int×Int))}{m5_0:(List (Int×Int))}{m6_0:(List (Zm×Int))}{x0:(List Int)}:∀(s1:Unit) (r:(((List (Int×Int))×(List (Zm×Int))×(List Int)×(List Zn)×(List Zh))⊕((List Int)⊕Unit))),lp (ZbF b c m1_0 m2_0 m3_0 m5_0 m6_0 x0) s1=some r→lpW ctx 7 [0,2,4,6,7,26,27] [] Zs8 [(.ptr 0 0),(.d (Zb c)),(.ptr 7 0),(.d (Zb 0)),(.d (D.list true (List.map Zb x0))),(.d (Zb (w64 ((x0.length:Int)+1)))),(.d (Zb 0))] [(.cells [(.sl 1 1),(.sl 2 2),(.sl 3 2),(.mp 4),(.mp 5),(.mp 6)]),(.arr 1 (List.map Zb m1_0)),(.arr 2 (List.map Zv m2_0)),(.arr 2 (List.map Zar m3_0)),(.mp (mpD Zb Zb (Zx (fun ka kb:Int=>(ka==kb)) m4_0 c (m3_0.length:Int)))),(.mp (mpD Zb Zb m5_0)),(.mp (mpD Zr Zb m6_0)),(.cells (dV t0 t1 t2 t3 b))]=some ((Zgr t0 t1 t2 t3 b c m1_0 m2_0 m3_0 m4_0 m5_0 m6_0 x0) r):=by
 refine Z1 (Zgr t0 t1 t2 t3 b c m1_0 m2_0 m3_0 m4_0 m5_0 m6_0 x0) ?_
 intro s1 rcl ih
 show ZG _ _ (lpW _ _ _ _ _ _ _)
 unfold ZbF
 rw[Z2]
 conv=>arg 3;whnf
 refine Zd rfl ?_ ?_<;>conv=>arg 3;whnf
 ·refine Zl rfl rfl fun x2 hx2=>?_;conv=>arg 3;whnf
  refine Zk (Zt _ _) ?_;conv=>arg 3;whnf
  refine Zd rfl ?_ ?_<;>conv=>arg 3;whnf
  ·refine Zl rfl rfl fun x3 hx3=>?_;conv=>arg 3;whnf
   refine Zl rfl rfl fun x4 hx4=>?_;conv=>arg 3;whnf
   refine Ze _ ZaV fun x5 hx5=>?_;conv=>arg 3;whnf
   refine Zg (ZdX (f:=Zb) (g:=Zb) (fun ka kb:Int=>(ka==kb)) (fun _ _=>rfl) m5_0 c (w64 ((List.length (m3_0++[(Zh.mk c 0)]):Int)-1))) ?_;conv=>arg 3;whnf
   refine Z6 rfl ?_;conv=>arg 3;whnf
   refine Ze _ (Zi4 _) fun r44 hr44=>?_
   clear hr44
   rcases r44 with r44 | r44
   ·conv=>arg 3;whnf
    exact Zc rfl
   ·conv=>arg 3;whnf
    exact Zc rfl
  ·refine Ze _ ZaV fun x45 hx45=>?_;conv=>arg 3;whnf
   refine Zg (ZdX (f:=Zb) (g:=Zb) (fun ka kb:Int=>(ka==kb)) (fun _ _=>rfl) m5_0 c (w64 ((List.length (m3_0++[(Zh.mk c 0)]):Int)-1))) ?_;conv=>arg 3;whnf
   refine Z6 rfl ?_;conv=>arg 3;whnf
   refine Ze _ (Zjd _) fun r84 hr84=>?_
   clear hr84
   rcases r84 with r84 | r84
   ·conv=>arg 3;whnf
    exact Zc rfl
   ·conv=>arg 3;whnf
    exact Zc rfl
 ·exact Zc rfl
theorem ZlZ {t0:Bool}{t1:Bool}{t2:Bool}{t3:Bool}{b:Zi}{c:Int}{m1_0:(List Int)}{m2_0:(List Zn)}{m3_0:(List Zh)}{m4_0:(List (Int×Int))}{m5_0:(List (Int×Int))}{m6_0:(List (Zm×Int))}:∀r,(ZdY b c m1_0 m2_0 m3_0 m5_0 m6_0)=some r→evW ctx 42 [(.ptr 0 0),(.d (D.agg (dA t0 t1 t2 t3 b))),(.d (Zb c))] [(.cells [(.sl 1 1),(.sl 2 2),(.sl 3 2),(.mp 4),(.mp 5),(.mp 6)]),(.arr 1 (List.map Zb m1_0)),(.arr 2 (List.map Zv m2_0)),(.arr 2 (List.map Zar m3_0)),(.mp (mpD Zb Zb m4_0)),(.mp (mpD Zb Zb m5_0)),(.mp (mpD Zr Zb m6_0))]=some ((ZhW t0 t1 t2 t3 b c m1_0 m2_0 m3_0 m4_0 m5_0 m6_0) r):=by
 show ZG _ (fun r rhs=>rhs=some ((ZhW t0 t1 t2 t3 b c m1_0 m2_0 m3_0 m4_0 m5_0 m6_0) r)) _
 unfold ZdY
 rw[Zgw ctx 42 ZFQ _ _ rfl rfl]
 conv=>arg 3;whnf
 refine Zk (Zt _ _) ?_;conv=>arg 3;whnf
 refine Zg (ZdX (f:=Zb) (g:=Zb) (fun ka kb:Int=>(ka==kb)) (fun _ _=>rfl) m4_0 c (m3_0.length:Int)) ?_;conv=>arg 3;whnf
 refine Zj _ Zkq rfl fun x0 hx0=>?_;conv=>arg 3;whnf
 refine Zk (Zt _ _) ?_;conv=>arg 3;whnf
 refine Ze _ (Zje _) fun r85 hr85=>?_
 clear hr85
 rcases r85 with r85 | (r85 | r85)
 ·conv=>arg 3;whnf
  exact Zc rfl
 ·conv=>arg 3;whnf
  exact Zc rfl
 ·conv=>arg 3;whnf
  exact Zc rfl
def Zmo (r:Bool):D:=(D.bool r)
theorem ZqA {a:Int}:∀r,(Zdv a)=some r→evD ctx 79 [(.d (Zb a))]=some (Zmo r):=by
 show ZG _ (fun r rhs=>rhs=some (Zmo r)) _
 unfold Zdv
 rw[Z4 ctx 79 ZEs _ rfl rfl]
 conv=>arg 3;whnf
 refine Zd rfl ?_ ?_<;>conv=>arg 3;whnf
 ·exact Zc rfl
 ·refine Zd rfl ?_ ?_<;>conv=>arg 3;whnf
  ·exact Zc rfl
  ·exact Zc rfl
def ZcT (r:Int):D:=(Zb r)
def Zcx (t0:Bool) (a:(List Int)):(Int⊕Unit)→Ex×List V×Zp
  | (.inl r)=>(.ret,[(.d (Zb r))],[])
  | (.inr r)=>(.exit 0,[.bad],[])
theorem Ze9 {t0:Bool}{a:(List Int)}:∀(s0:Int) (r:(Int⊕Unit)),lp (Zay a (fun z0=>Zdv z0)) s0=some r→lpW ctx 0 [0,1,7,8] [4] Zvg [(.d (D.list t0 (List.map Zb a))),(.d (D.fn 79 [])),(.d (Zb (a.length:Int))),(.d (Zb s0))] []=some ((Zcx t0 a) r):=by
 refine Z1 (Zcx t0 a) ?_
 intro s0 rcl ih
 show ZG _ _ (lpW _ _ _ _ _ _ _)
 unfold Zay
 rw[Z2]
 conv=>arg 3;whnf
 refine Zd rfl ?_ ?_<;>conv=>arg 3;whnf
 ·refine Zl rfl rfl fun x1 hx1=>?_;conv=>arg 3;whnf
  refine Zj _ ZqA rfl fun x2 hx2=>?_;conv=>arg 3;whnf
  refine Zd rfl ?_ ?_<;>conv=>arg 3;whnf
  ·exact Zc rfl
  ·exact Zf (ih _)
 ·exact Zc rfl
theorem ZfG {t0:Bool}{a:(List Int)}:∀r,(Za8 a (fun z0=>Zdv z0))=some r→evD ctx 104 [(.d (D.list t0 (List.map Zb a))),(.d (D.fn 79 []))]=some (ZcT r):=by
 show ZG _ (fun r rhs=>rhs=some (ZcT r)) _
 unfold Za8
 rw[Z4 ctx 104 Zx3 _ rfl rfl]
 conv=>arg 3;whnf
 refine Zk (Zt _ _) ?_;conv=>arg 3;whnf
 refine Ze _ (Ze9 _) fun r3 hr3=>?_
 clear hr3
 rcases r3 with r3 | r3
 ·conv=>arg 3;whnf
  exact Zc rfl
 ·conv=>arg 3;whnf
  exact Zc rfl
def ZcD (r:Bool):D:=(D.bool r)
theorem Zfa {t0:Bool}{a:(List Int)}:∀r,(Zac a (fun z0=>Zdv z0))=some r→evD ctx 77 [(.d (D.list t0 (List.map Zb a))),(.d (D.fn 79 []))]=some (ZcD r):=by
 show ZG _ (fun r rhs=>rhs=some (ZcD r)) _
 unfold Zac
 rw[Z4 ctx 77 ZCF _ rfl rfl]
 conv=>arg 3;whnf
 refine Zj _ ZfG rfl fun x0 hx0=>?_;conv=>arg 3;whnf
 refine Zd rfl ?_ ?_<;>conv=>arg 3;whnf
 ·exact Zc rfl
 ·exact Zc rfl
def Zmu (r:Bool):D:=(D.bool r)
theorem Zk5 {t0:Bool}{t1:Bool}{a:Int}{b0:(List Int)}{b1:(List Zn)}:∀r,(Zgc a b0)=some r→evD ctx 80 [(.d (Zb a)),(.d (D.rptr [(D.list t0 (List.map Zb b0)),(D.list t1 (List.map Zv b1))]))]=some (Zmu r):=by
 show ZG _ (fun r rhs=>rhs=some (Zmu r)) _
 unfold Zgc
 rw[Z4 ctx 80 ZFD _ rfl rfl]
 conv=>arg 3;whnf
 refine Zd rfl ?_ ?_<;>conv=>arg 3;whnf
 ·refine Zk (Zt _ _) ?_;conv=>arg 3;whnf
  refine Zd rfl ?_ ?_<;>conv=>arg 3;whnf
  ·exact Zc rfl
  ·exact Zc rfl
 ·exact Zc rfl
def Zow (r:((List Int)×Bool)):D:=(D.tup [(D.list true (List.map Zb r.1)),(D.bool r.2)])
def Zls (t0:Bool) (t1:Bool) (a:Zan) (s0:(List Int)×(List Bool)) (s1:Int):(Unit⊕Unit)→Ex×List V×Zp
  | (.inl r)=>(.exit 3,[(.ptr 0 0),(.sl 1 1),(.sl 2 1),(.d (Zb s1)),(.d (Zb (a.work.length:Int))),(.d (Zb s1))],[(.cells [(.d (D.list t0 (List.map Zb a.work))),(.d (D.list t1 (List.map Zv a.edges)))]),(.arr 1 (List.map Zb s0.1)),(.arr 1 (List.map D.bool s0.2))])
  | (.inr r)=>(.exit 4,[(.ptr 0 0),(.sl 1 1),(.sl 2 1),(.d (Zb s1)),(.d (Zb (a.work.length:Int))),(.d (Zb s1))],[(.cells [(.d (D.list t0 (List.map Zb a.work))),(.d (D.list t1 (List.map Zv a.edges)))]),(.arr 1 (List.map Zb s0.1)),(.arr 1 (List.map D.bool s0.2))])
theorem ZpO {t0:Bool}{t1:Bool}{a:Zan}{s0:(List Int)×(List Bool)}{s1:Int}:∀(s3:Int) (r:(Unit⊕Unit)),lp (ZfF a s0 s1) s3=some r→lpW ctx 0 [1,4,5,6,21,22,30,31,32] [1,4,5,6,21,22] ZAe [(.ptr 0 0),(.sl 1 1),(.sl 2 1),(.d (Zb s1)),(.d (Zb (a.work.length:Int))),(.d (Zb s1)),(.d (D.list t1 (List.map Zv a.edges))),(.d (Zb (a.edges.length:Int))),(.d (Zb s3))] [(.cells [(.d (D.list t0 (List.map Zb a.work))),(.d (D.list t1 (List.map Zv a.edges)))]),(.arr 1 (List.map Zb s0.1)),(.arr 1 (List.map D.bool s0.2))]=some ((Zls t0 t1 a s0 s1) r):=by
 refine Z1 (Zls t0 t1 a s0 s1) ?_
 intro s3 rcl ih
 show ZG _ _ (lpW _ _ _ _ _ _ _)
 unfold ZfF
 rw[Z2]
 conv=>arg 3;whnf
 refine Zd rfl ?_ ?_<;>conv=>arg 3;whnf
 ·refine Zl rfl rfl fun x4 hx4=>?_;conv=>arg 3;whnf
  refine Zd rfl ?_ ?_<;>conv=>arg 3;whnf
  ·refine Zl rfl rfl fun x5 hx5=>?_;conv=>arg 3;whnf
   refine Zg (ZD rfl hx5) ?_;conv=>arg 3;whnf
   refine Zd rfl ?_ ?_<;>conv=>arg 3;whnf
   ·exact Zf (ih _)
   ·exact Zc rfl
  ·exact Zf (ih _)
 ·exact Zc rfl
def Zlm (t0:Bool) (t1:Bool) (a:Zan) (s0:(List Int)×(List Bool)):(((List Int)×(List Bool))⊕Unit)→Ex×List V×Zp
  | (.inl r)=>(.exit 1,[(.ptr 0 0),(.sl 1 1),(.sl 2 1)],[(.cells [(.d (D.list t0 (List.map Zb a.work))),(.d (D.list t1 (List.map Zv a.edges)))]),(.arr 1 (List.map Zb r.1)),(.arr 1 (List.map D.bool r.2))])
  | (.inr r)=>(.exit 2,[(.ptr 0 0),(.sl 1 1),(.sl 2 1)],[(.cells [(.d (D.list t0 (List.map Zb a.work))),(.d (D.list t1 (List.map Zv a.edges)))]),(.arr 1 (List.map Zb s0.1)),(.arr 1 (List.map D.bool s0.2))])
theorem Zp0 {t0:Bool}{t1:Bool}{a:Zan}{s0:(List Int)×(List Bool)}:∀(s1:Int) (r:(((List Int)×(List Bool))⊕Unit)),lp (ZeA a s0) s1=some r→lpW ctx 0 [1,4,5,21,22] [1,4,5] ZCv [(.ptr 0 0),(.sl 1 1),(.sl 2 1),(.d (Zb (a.work.length:Int))),(.d (Zb s1))] [(.cells [(.d (D.list t0 (List.map Zb a.work))),(.d (D.list t1 (List.map Zv a.edges)))]),(.arr 1 (List.map Zb s0.1)),(.arr 1 (List.map D.bool s0.2))]=some ((Zlm t0 t1 a s0) r):=by
 refine Z1 (Zlm t0 t1 a s0) ?_
 intro s1 rcl ih
 show ZG _ _ (lpW _ _ _ _ _ _ _)
 unfold ZeA
 rw[Z2]
 conv=>arg 3;whnf
 refine Zd rfl ?_ ?_<;>conv=>arg 3;whnf
 ·refine Zl rfl rfl fun x2 hx2=>?_;conv=>arg 3;whnf
  refine Zg (ZD rfl hx2) ?_;conv=>arg 3;whnf
  refine Zd rfl ?_ ?_<;>conv=>arg 3;whnf
  ·exact Zf (ih _)
  ·refine Zk (Zt _ _) ?_;conv=>arg 3;whnf
   refine Ze _ (ZpO _) fun r6 hr6=>?_
   clear hr6
   rcases r6 with r6 | r6
   ·conv=>arg 3;whnf
    exact Zf (ih _)
   ·conv=>arg 3;whnf
    refine Zg (Za7 rfl hx2) ?_;conv=>arg 3;whnf
    refine Zg (ZD rfl hx2) ?_;conv=>arg 3;whnf
    refine Zk (ZaE D.bool s0.2 s1.toNat true) ?_;conv=>arg 3;whnf
    refine Zah rfl ?_;conv=>arg 3;whnf
    refine Zd (Zcg Zb s0.1 1) ?_ ?_
    ·conv=>arg 3;whnf
     refine Zk (Zcf Zb s0.1 [s1]) ?_;conv=>arg 3;whnf
     exact Zc rfl
    ·exact ZQ
 ·exact Zc rfl
def Zk0 (t0:Bool) (t1:Bool) (a:Zan):((List Int)⊕(List Int))→Ex×List V×Zp
  | (.inl r)=>(.ret,[(.nilsl 1),(.d (D.bool false)),(.sl 0 1)],[(.arr 1 (List.map Zb r))])
  | (.inr r)=>(.exit 0,[.bad,.bad,(.sl 0 1)],[(.arr 1 (List.map Zb r))])
theorem Zqc {t0:Bool}{t1:Bool}{a:Zan}:∀(s0:(List Int)×(List Bool)) (r:((List Int)⊕(List Int))),lp (ZfI a) s0=some r→lpW ctx 0 [1,4,5] [2,3,4] ZCb [(.ptr 0 0),(.sl 1 1),(.sl 2 1)] [(.cells [(.d (D.list t0 (List.map Zb a.work))),(.d (D.list t1 (List.map Zv a.edges)))]),(.arr 1 (List.map Zb s0.1)),(.arr 1 (List.map D.bool s0.2))]=some ((Zk0 t0 t1 a) r):=by
 refine Z1 (Zk0 t0 t1 a) ?_
 intro s0 rcl ih
 show ZG _ _ (lpW _ _ _ _ _ _ _)
 unfold ZfI
 rw[Z2]
 conv=>arg 3;whnf
 refine Zk (Zt _ _) ?_;conv=>arg 3;whnf
 refine Zk (Zt _ _) ?_;conv=>arg 3;whnf
 refine Zd rfl ?_ ?_<;>conv=>arg 3;whnf
 ·refine Zk (Zt _ _) ?_;conv=>arg 3;whnf
  refine Ze _ (Zp0 _) fun r7 hr7=>?_
  clear hr7
  rcases r7 with r7 | r7
  ·conv=>arg 3;whnf
   exact Zf (ih _)
  ·conv=>arg 3;whnf
   exact Zc rfl
 ·exact Zc rfl
theorem ZsD {t0:Bool}{t1:Bool}{a:Zan}:∀r,(Zgp a)=some r→evD ctx 64 [(.d (D.agg [(D.list t0 (List.map Zb a.work)),(D.list t1 (List.map Zv a.edges))]))]=some (Zow r):=by
 show ZG _ (fun r rhs=>rhs=some (Zow r)) _
 unfold Zgp
 rw[Z4 ctx 64 ZEI _ rfl rfl]
 conv=>arg 3;whnf
 refine Zk (Zt _ _) ?_;conv=>arg 3;whnf
 refine Zd rfl ?_ ?_
 ·conv=>arg 3;whnf
  refine Zk (Zyh D.bool (false:Bool) (a.work.length:Int)) ?_;conv=>arg 3;whnf
  refine Ze _ (Zqc _) fun r8 hr8=>?_
  clear hr8
  rcases r8 with r8 | r8
  ·conv=>arg 3;whnf
   exact Zc rfl
  ·conv=>arg 3;whnf
   exact Zc rfl
 ·exact ZQ
def ZoF (r:Int):D:=(Zb r)
def Zk7 (t0:Bool) (t1:Bool) (a:Zan):(Unit⊕Unit)→Ex×List V×Zp
  | (.inl r)=>(.ret,[(.ptr 0 0),(.d (Zb 42))],[(.cells [(.d (D.list t0 (List.map Zb a.work))),(.d (D.list t1 (List.map Zv a.edges)))])])
  | (.inr r)=>(.exit 0,[(.ptr 0 0),.bad],[(.cells [(.d (D.list t0 (List.map Zb a.work))),(.d (D.list t1 (List.map Zv a.edges)))])])
theorem Zqe {t0:Bool}{t1:Bool}{a:Zan}:∀(s1:Int) (r:(Unit⊕Unit)),lp (ZeQ a) s1=some r→lpW ctx 0 [1,3,23,24,25] [1,2] ZBb [(.ptr 0 0),(.fn 80 [(.ptr 0 0)]),(.d (D.list t1 (List.map Zv a.edges))),(.d (Zb (a.edges.length:Int))),(.d (Zb s1))] [(.cells [(.d (D.list t0 (List.map Zb a.work))),(.d (D.list t1 (List.map Zv a.edges)))])]=some ((Zk7 t0 t1 a) r):=by
 refine Z1 (Zk7 t0 t1 a) ?_
 intro s1 rcl ih
 show ZG _ _ (lpW _ _ _ _ _ _ _)
 unfold ZeQ
 rw[Z2]
 conv=>arg 3;whnf
 refine Zd rfl ?_ ?_<;>conv=>arg 3;whnf
 ·refine Zl rfl rfl fun x2 hx2=>?_;conv=>arg 3;whnf
  refine Zj _ Zk5 rfl fun x3 hx3=>?_;conv=>arg 3;whnf
  refine Zd rfl ?_ ?_<;>conv=>arg 3;whnf
  ·refine Zj _ Zk5 rfl fun x4 hx4=>?_;conv=>arg 3;whnf
   refine Zd rfl ?_ ?_<;>conv=>arg 3;whnf
   ·refine Zd rfl ?_ ?_<;>conv=>arg 3;whnf
    ·exact Zc rfl
    ·refine Zd rfl ?_ ?_
     ·conv=>arg 3;whnf
      refine Zd (ZAO Zv a.edges s1.toNat) ?_ ?_
      ·conv=>arg 3;whnf
       refine Zah rfl ?_;conv=>arg 3;whnf
       refine Zk (Zvd Zv a.edges s1.toNat) ?_;conv=>arg 3;whnf
       refine Zj _ Zfc rfl fun x5 hx5=>?_;conv=>arg 3;whnf
       refine Zd rfl ?_ ?_<;>conv=>arg 3;whnf
       ·exact Zc rfl
       ·exact Zf (ih _)
      ·exact ZQ
     ·exact ZQ
   ·exact Zc rfl
  ·exact Zc rfl
 ·exact Zc rfl
theorem ZsW {t0:Bool}{t1:Bool}{a:Zan}:∀r,(Zix a)=some r→evD ctx 45 [(.d (D.agg [(D.list t0 (List.map Zb a.work)),(D.list t1 (List.map Zv a.edges))]))]=some (ZoF r):=by
 show ZG _ (fun r rhs=>rhs=some (ZoF r)) _
 unfold Zix
 rw[Z4 ctx 45 ZEY _ rfl rfl]
 conv=>arg 3;whnf
 refine Zk (Zt _ _) ?_;conv=>arg 3;whnf
 refine Zd rfl ?_ ?_<;>conv=>arg 3;whnf
 ·exact Zc rfl
 ·refine Zk (Zt _ _) ?_;conv=>arg 3;whnf
  refine Zd rfl ?_ ?_<;>conv=>arg 3;whnf
  ·exact Zc rfl
  ·refine Zj _ Zfa rfl fun x0 hx0=>?_;conv=>arg 3;whnf
   refine Zd rfl ?_ ?_<;>conv=>arg 3;whnf
   ·exact Zc rfl
   ·refine Zk (Zt _ _) ?_;conv=>arg 3;whnf
    refine Ze _ (Zqe _) fun r6 hr6=>?_
    clear hr6
    rcases r6 with r6 | r6
    ·conv=>arg 3;whnf
     exact Zc rfl
    ·conv=>arg 3;whnf
     refine Zj _ ZsD rfl fun x7 hx7=>?_;conv=>arg 3;whnf
     refine Zd rfl ?_ ?_<;>conv=>arg 3;whnf
     ·exact Zc rfl
     ·exact Zc rfl
def Zmc (r:(Zi7×Int)):D:=(D.tup [(D.agg [(D.list true (List.map Zb r.1.dag.work)),(D.list true (List.map Zv r.1.dag.edges)),(D.list true (List.map Zar r.1.pieces))]),(Zb r.2)])
def ZjA (t0:Bool) (t1:Bool) (t2:Bool) (t3:Bool) (a:Zi):((List Int)×(List Zn)×(List Zh)×(List (Int×Int))×(List (Int×Int))×(List (Zm×Int)))→Ex×List V×Zp
  | r=>(.exit 0,[(.ptr 0 0),(.ptr 1 0),(.ptr 2 0)],[(.cells (dV t0 t1 t2 t3 a)),(.cells [(.sl 3 1),(.sl 4 2),(.sl 5 2)]),(.cells [(.sl 6 1),(.sl 7 2),(.sl 8 2),(.mp 9),(.mp 10),(.mp 11)]),(.arr 1 []),(.arr 2 []),(.arr 2 []),(.arr 1 (List.map Zb r.1)),(.arr 2 (List.map Zv r.2.1)),(.arr 2 (List.map Zar r.2.2.1)),(.mp (mpD Zb Zb r.2.2.2.1)),(.mp (mpD Zb Zb r.2.2.2.2.1)),(.mp (mpD Zr Zb r.2.2.2.2.2))])
theorem Zof {t0:Bool}{t1:Bool}{t2:Bool}{t3:Bool}{a:Zi}:∀(s1:Int×(List Int)×(List Zn)×(List Zh)×(List (Int×Int))×(List (Int×Int))×(List (Zm×Int))) (r:((List Int)×(List Zn)×(List Zh)×(List (Int×Int))×(List (Int×Int))×(List (Zm×Int)))),lp (ZcO a) s1=some r→lpW ctx 0 [1,2,5,31,32] [1,2,5] ZCl [(.ptr 0 0),(.ptr 1 0),(.ptr 2 0),(.d (Zb (a.parts.length:Int))),(.d (Zb s1.1))] [(.cells (dV t0 t1 t2 t3 a)),(.cells [(.sl 3 1),(.sl 4 2),(.sl 5 2)]),(.cells [(.sl 6 1),(.sl 7 2),(.sl 8 2),(.mp 9),(.mp 10),(.mp 11)]),(.arr 1 []),(.arr 2 []),(.arr 2 []),(.arr 1 (List.map Zb s1.2.1)),(.arr 2 (List.map Zv s1.2.2.1)),(.arr 2 (List.map Zar s1.2.2.2.1)),(.mp (mpD Zb Zb s1.2.2.2.2.1)),(.mp (mpD Zb Zb s1.2.2.2.2.2.1)),(.mp (mpD Zr Zb s1.2.2.2.2.2.2))]=some ((ZjA t0 t1 t2 t3 a) r):=by
 refine Z1 (ZjA t0 t1 t2 t3 a) ?_
 intro s1 rcl ih
 show ZG _ _ (lpW _ _ _ _ _ _ _)
 unfold ZcO
 rw[Z2]
 conv=>arg 3;whnf
 refine Zd rfl ?_ ?_<;>conv=>arg 3;whnf
 ·refine Ze _ ZlZ fun x2 hx2=>?_
  clear hx2
  rcases x2 with x2 | (x2 | x2)
  ·conv=>arg 3;whnf
   exact Zf (ih _)
  ·conv=>arg 3;whnf
   exact Zf (ih _)
  ·conv=>arg 3;whnf
   exact Zf (ih _)
 ·exact Zc rfl
def Zjy (t0:Bool) (t1:Bool) (t2:Bool) (t3:Bool) (a:Zi) (r3:((List Int)×(List Zn)×(List Zh)×(List (Int×Int))×(List (Int×Int))×(List (Zm×Int)))):(List Zn)→Ex×List V×Zp
  | r=>(.exit 2,[(.ptr 0 0),(.ptr 1 0),(.ptr 2 0)],[(.cells (dV t0 t1 t2 t3 a)),(.cells [(.sl 3 1),(.sl 4 2),(.sl 5 2)]),(.cells [(.sl 6 1),(.sl 7 2),(.sl 8 2),(.mp 9),(.mp 10),(.mp 11)]),(.arr 1 []),(.arr 2 []),(.arr 2 []),(.arr 1 (List.map Zb r3.1)),(.arr 2 (List.map Zv r)),(.arr 2 (List.map Zar r3.2.2.1)),(.mp (mpD Zb Zb r3.2.2.2.1)),(.mp (mpD Zb Zb r3.2.2.2.2.1)),(.mp (mpD Zr Zb r3.2.2.2.2.2))])
theorem Zoc {t0:Bool}{t1:Bool}{t2:Bool}{t3:Bool}{a:Zi}{r3:((List Int)×(List Zn)×(List Zh)×(List (Int×Int))×(List (Int×Int))×(List (Zm×Int)))}:∀(s4:Int×(List Zn)) (r:(List Zn)),lp (Zde a r3) s4=some r→lpW ctx 0 [1,2,5,41,42,43] [1,2,5] ZBm [(.ptr 0 0),(.ptr 1 0),(.ptr 2 0),(.d (D.list t1 (List.map Zv a.edges))),(.d (Zb (a.edges.length:Int))),(.d (Zb s4.1))] [(.cells (dV t0 t1 t2 t3 a)),(.cells [(.sl 3 1),(.sl 4 2),(.sl 5 2)]),(.cells [(.sl 6 1),(.sl 7 2),(.sl 8 2),(.mp 9),(.mp 10),(.mp 11)]),(.arr 1 []),(.arr 2 []),(.arr 2 []),(.arr 1 (List.map Zb r3.1)),(.arr 2 (List.map Zv s4.2)),(.arr 2 (List.map Zar r3.2.2.1)),(.mp (mpD Zb Zb r3.2.2.2.1)),(.mp (mpD Zb Zb r3.2.2.2.2.1)),(.mp (mpD Zr Zb r3.2.2.2.2.2))]=some ((Zjy t0 t1 t2 t3 a r3) r):=by
 refine Z1 (Zjy t0 t1 t2 t3 a r3) ?_
 intro s4 rcl ih
 show ZG _ _ (lpW _ _ _ _ _ _ _)
 unfold Zde
 rw[Z2]
 conv=>arg 3;whnf
 refine Zd rfl ?_ ?_<;>conv=>arg 3;whnf
 ·refine Zl rfl rfl fun x5 hx5=>?_;conv=>arg 3;whnf
  refine Zg (ZbC (f:=Zb) (g:=Zb) (fun ka kb:Int=>(ka==kb)) (fun _ _=>rfl) r3.2.2.2.2.1 x5.src 0) ?_;conv=>arg 3;whnf
  refine Zg (ZbC (f:=Zb) (g:=Zb) (fun ka kb:Int=>(ka==kb)) (fun _ _=>rfl) r3.2.2.2.1 x5.dst 0) ?_;conv=>arg 3;whnf
  refine Ze _ ZaD fun x6 hx6=>?_;conv=>arg 3;whnf
  exact Zf (ih _)
 ·exact Zc rfl
def ZjZ (t0:Bool) (t1:Bool) (t2:Bool) (t3:Bool) (a:Zi) (r3:((List Int)×(List Zn)×(List Zh)×(List (Int×Int))×(List (Int×Int))×(List (Zm×Int)))):(List Zn)→Ex×List V×Zp
  | r=>(.exit 4,[(.ptr 0 0),(.ptr 1 0),(.ptr 2 0)],[(.cells (dV t0 t1 t2 t3 a)),(.cells [(.sl 3 1),(.sl 4 2),(.sl 5 2)]),(.cells [(.sl 6 1),(.sl 7 2),(.sl 8 2),(.mp 9),(.mp 10),(.mp 11)]),(.arr 1 []),(.arr 2 []),(.arr 2 []),(.arr 1 (List.map Zb r3.1)),(.arr 2 (List.map Zv r)),(.arr 2 (List.map Zar r3.2.2.1)),(.mp (mpD Zb Zb r3.2.2.2.1)),(.mp (mpD Zb Zb r3.2.2.2.2.1)),(.mp (mpD Zr Zb r3.2.2.2.2.2))])
theorem Zn5 {t0:Bool}{t1:Bool}{t2:Bool}{t3:Bool}{a:Zi}{r3:((List Int)×(List Zn)×(List Zh)×(List (Int×Int))×(List (Int×Int))×(List (Zm×Int)))}:∀(s8:Int×(List Zn)) (r:(List Zn)),lp (Zdo a r3) s8=some r→lpW ctx 0 [1,2,5,65,66,67] [1,2,5] ZBh [(.ptr 0 0),(.ptr 1 0),(.ptr 2 0),(.d (D.list t2 (List.map Zr a.futures))),(.d (Zb (a.futures.length:Int))),(.d (Zb s8.1))] [(.cells (dV t0 t1 t2 t3 a)),(.cells [(.sl 3 1),(.sl 4 2),(.sl 5 2)]),(.cells [(.sl 6 1),(.sl 7 2),(.sl 8 2),(.mp 9),(.mp 10),(.mp 11)]),(.arr 1 []),(.arr 2 []),(.arr 2 []),(.arr 1 (List.map Zb r3.1)),(.arr 2 (List.map Zv s8.2)),(.arr 2 (List.map Zar r3.2.2.1)),(.mp (mpD Zb Zb r3.2.2.2.1)),(.mp (mpD Zb Zb r3.2.2.2.2.1)),(.mp (mpD Zr Zb r3.2.2.2.2.2))]=some ((ZjZ t0 t1 t2 t3 a r3) r):=by
 refine Z1 (ZjZ t0 t1 t2 t3 a r3) ?_
 intro s8 rcl ih
 show ZG _ _ (lpW _ _ _ _ _ _ _)
 unfold Zdo
 rw[Z2]
 conv=>arg 3;whnf
 refine Zd rfl ?_ ?_<;>conv=>arg 3;whnf
 ·refine Zl rfl rfl fun x9 hx9=>?_;conv=>arg 3;whnf
  refine Zg (ZbC (f:=Zb) (g:=Zb) (fun ka kb:Int=>(ka==kb)) (fun _ _=>rfl) r3.2.2.2.2.1 x9.maker 0) ?_;conv=>arg 3;whnf
  refine Zg (ZbC (f:=Zr) (g:=Zb) (fun ka kb:Zm=>((ka.maker==kb.maker)&&((ka.user==kb.user)&&((ka.pos==kb.pos)&&true)))) (fun _ _=>rfl) r3.2.2.2.2.2 x9 0) ?_;conv=>arg 3;whnf
  refine Ze _ ZaD fun x10 hx10=>?_;conv=>arg 3;whnf
  exact Zf (ih _)
 ·exact Zc rfl
def Zj2 (t3:Bool) (a:Zi) (r3:((List Int)×(List Zn)×(List Zh)×(List (Int×Int))×(List (Int×Int))×(List (Zm×Int)))) (s12:Int×(List Int)×(List Zn)×(List Zh)) (x13:Zs):(List Zn)→Ex×List V×Zp
  | r=>(.exit 8,[(.ptr 0 0),(.ptr 1 0),(.ptr 2 0),(.d (Zb (w64 ((List.length (s12.2.2.2++[(Zh.mk (-1) s12.1)]):Int)-1)))),(.d (D.list t3 (List.map Zz a.barriers))),(.d (Zb (a.barriers.length:Int))),(.d (Zb s12.1))],[(.cells [(.sl 3 1),(.sl 4 2),(.sl 5 2)]),(.cells [(.sl 6 1),(.sl 7 2),(.sl 8 2),(.mp 9),(.mp 10),(.mp 11)]),(.cells [(.d (D.list true (List.map Zb x13.ins))),(.d (D.list true (List.map Zb x13.outs)))]),(.arr 1 []),(.arr 2 []),(.arr 2 []),(.arr 1 (List.map Zb (s12.2.1++[1]))),(.arr 2 (List.map Zv r)),(.arr 2 (List.map Zar (s12.2.2.2++[(Zh.mk (-1) s12.1)]))),(.mp (mpD Zb Zb r3.2.2.2.1)),(.mp (mpD Zb Zb r3.2.2.2.2.1)),(.mp (mpD Zr Zb r3.2.2.2.2.2))])
theorem Zn6 {t3:Bool}{a:Zi}{r3:((List Int)×(List Zn)×(List Zh)×(List (Int×Int))×(List (Int×Int))×(List (Zm×Int)))}{s12:Int×(List Int)×(List Zn)×(List Zh)}{x13:Zs}:∀(s15:Int×(List Zn)) (r:(List Zn)),lp (Zeg r3 s12 x13) s15=some r→lpW ctx 0 [2,5,12,13,88,89,90,100,101,102] [2,5,12,13,88,89,90] ZBM [(.ptr 0 0),(.ptr 1 0),(.ptr 2 0),(.d (Zb (w64 ((List.length (s12.2.2.2++[(Zh.mk (-1) s12.1)]):Int)-1)))),(.d (D.list t3 (List.map Zz a.barriers))),(.d (Zb (a.barriers.length:Int))),(.d (Zb s12.1)),(.d (D.list true (List.map Zb x13.ins))),(.d (Zb (x13.ins.length:Int))),(.d (Zb s15.1))] [(.cells [(.sl 3 1),(.sl 4 2),(.sl 5 2)]),(.cells [(.sl 6 1),(.sl 7 2),(.sl 8 2),(.mp 9),(.mp 10),(.mp 11)]),(.cells [(.d (D.list true (List.map Zb x13.ins))),(.d (D.list true (List.map Zb x13.outs)))]),(.arr 1 []),(.arr 2 []),(.arr 2 []),(.arr 1 (List.map Zb (s12.2.1++[1]))),(.arr 2 (List.map Zv s15.2)),(.arr 2 (List.map Zar (s12.2.2.2++[(Zh.mk (-1) s12.1)]))),(.mp (mpD Zb Zb r3.2.2.2.1)),(.mp (mpD Zb Zb r3.2.2.2.2.1)),(.mp (mpD Zr Zb r3.2.2.2.2.2))]=some ((Zj2 t3 a r3 s12 x13) r):=by
 refine Z1 (Zj2 t3 a r3 s12 x13) ?_
 intro s15 rcl ih
 show ZG _ _ (lpW _ _ _ _ _ _ _)
 unfold Zeg
 rw[Z2]
 conv=>arg 3;whnf
 refine Zd rfl ?_ ?_<;>conv=>arg 3;whnf
 ·refine Zl rfl rfl fun x16 hx16=>?_;conv=>arg 3;whnf
  refine Zg (ZbC (f:=Zb) (g:=Zb) (fun ka kb:Int=>(ka==kb)) (fun _ _=>rfl) r3.2.2.2.2.1 x16 0) ?_;conv=>arg 3;whnf
  refine Ze _ ZaD fun x17 hx17=>?_;conv=>arg 3;whnf
  exact Zf (ih _)
 ·exact Zc rfl
def ZjP (t3:Bool) (a:Zi) (r3:((List Int)×(List Zn)×(List Zh)×(List (Int×Int))×(List (Int×Int))×(List (Zm×Int)))) (s12:Int×(List Int)×(List Zn)×(List Zh)) (x13:Zs):(List Zn)→Ex×List V×Zp
  | r=>(.exit 10,[(.ptr 0 0),(.ptr 1 0),(.d (D.list t3 (List.map Zz a.barriers))),(.d (Zb (a.barriers.length:Int))),(.d (Zb s12.1))],[(.cells [(.sl 2 1),(.sl 3 2),(.sl 4 2)]),(.cells [(.sl 5 1),(.sl 6 2),(.sl 7 2),(.mp 8),(.mp 9),(.mp 10)]),(.arr 1 []),(.arr 2 []),(.arr 2 []),(.arr 1 (List.map Zb (s12.2.1++[1]))),(.arr 2 (List.map Zv r)),(.arr 2 (List.map Zar (s12.2.2.2++[(Zh.mk (-1) s12.1)]))),(.mp (mpD Zb Zb r3.2.2.2.1)),(.mp (mpD Zb Zb r3.2.2.2.2.1)),(.mp (mpD Zr Zb r3.2.2.2.2.2))])
theorem Zoj {t3:Bool}{a:Zi}{r3:((List Int)×(List Zn)×(List Zh)×(List (Int×Int))×(List (Int×Int))×(List (Zm×Int)))}{s12:Int×(List Int)×(List Zn)×(List Zh)}{x13:Zs}:∀(s19:Int×(List Zn)) (r:(List Zn)),lp (Zej r3 s12 x13) s19=some r→lpW ctx 0 [2,5,13,88,89,90,117,118,119] [2,5,88,89,90] ZCd [(.ptr 0 0),(.ptr 1 0),(.d (Zb (w64 ((List.length (s12.2.2.2++[(Zh.mk (-1) s12.1)]):Int)-1)))),(.d (D.list t3 (List.map Zz a.barriers))),(.d (Zb (a.barriers.length:Int))),(.d (Zb s12.1)),(.d (D.list true (List.map Zb x13.outs))),(.d (Zb (x13.outs.length:Int))),(.d (Zb s19.1))] [(.cells [(.sl 2 1),(.sl 3 2),(.sl 4 2)]),(.cells [(.sl 5 1),(.sl 6 2),(.sl 7 2),(.mp 8),(.mp 9),(.mp 10)]),(.arr 1 []),(.arr 2 []),(.arr 2 []),(.arr 1 (List.map Zb (s12.2.1++[1]))),(.arr 2 (List.map Zv s19.2)),(.arr 2 (List.map Zar (s12.2.2.2++[(Zh.mk (-1) s12.1)]))),(.mp (mpD Zb Zb r3.2.2.2.1)),(.mp (mpD Zb Zb r3.2.2.2.2.1)),(.mp (mpD Zr Zb r3.2.2.2.2.2))]=some ((ZjP t3 a r3 s12 x13) r):=by
 refine Z1 (ZjP t3 a r3 s12 x13) ?_
 intro s19 rcl ih
 show ZG _ _ (lpW _ _ _ _ _ _ _)
 unfold Zej
 rw[Z2]
 conv=>arg 3;whnf
 refine Zd rfl ?_ ?_<;>conv=>arg 3;whnf
 ·refine Zl rfl rfl fun x20 hx20=>?_;conv=>arg 3;whnf
  refine Zg (ZbC (f:=Zb) (g:=Zb) (fun ka kb:Int=>(ka==kb)) (fun _ _=>rfl) r3.2.2.2.1 x20 0) ?_;conv=>arg 3;whnf
  refine Ze _ ZaD fun x21 hx21=>?_;conv=>arg 3;whnf
  exact Zf (ih _)
 ·exact Zc rfl
def ZjJ (t3:Bool) (a:Zi) (r3:((List Int)×(List Zn)×(List Zh)×(List (Int×Int))×(List (Int×Int))×(List (Zm×Int)))):((List Int)×(List Zn)×(List Zh))→Ex×List V×Zp
  | r=>(.exit 6,[(.ptr 0 0),(.ptr 1 0)],[(.cells [(.sl 2 1),(.sl 3 2),(.sl 4 2)]),(.cells [(.sl 5 1),(.sl 6 2),(.sl 7 2),(.mp 8),(.mp 9),(.mp 10)]),(.arr 1 []),(.arr 2 []),(.arr 2 []),(.arr 1 (List.map Zb r.1)),(.arr 2 (List.map Zv r.2.1)),(.arr 2 (List.map Zar r.2.2)),(.mp (mpD Zb Zb r3.2.2.2.1)),(.mp (mpD Zb Zb r3.2.2.2.2.1)),(.mp (mpD Zr Zb r3.2.2.2.2.2))])
theorem Zoq {t3:Bool}{a:Zi}{r3:((List Int)×(List Zn)×(List Zh)×(List (Int×Int))×(List (Int×Int))×(List (Zm×Int)))}:∀(s12:Int×(List Int)×(List Zn)×(List Zh)) (r:((List Int)×(List Zn)×(List Zh))),lp (Zdk a r3) s12=some r→lpW ctx 0 [2,5,88,89,90] [2,5] ZB2 [(.ptr 0 0),(.ptr 1 0),(.d (D.list t3 (List.map Zz a.barriers))),(.d (Zb (a.barriers.length:Int))),(.d (Zb s12.1))] [(.cells [(.sl 2 1),(.sl 3 2),(.sl 4 2)]),(.cells [(.sl 5 1),(.sl 6 2),(.sl 7 2),(.mp 8),(.mp 9),(.mp 10)]),(.arr 1 []),(.arr 2 []),(.arr 2 []),(.arr 1 (List.map Zb s12.2.1)),(.arr 2 (List.map Zv s12.2.2.1)),(.arr 2 (List.map Zar s12.2.2.2)),(.mp (mpD Zb Zb r3.2.2.2.1)),(.mp (mpD Zb Zb r3.2.2.2.2.1)),(.mp (mpD Zr Zb r3.2.2.2.2.2))]=some ((ZjJ t3 a r3) r):=by
 refine Z1 (ZjJ t3 a r3) ?_
 intro s12 rcl ih
 show ZG _ _ (lpW _ _ _ _ _ _ _)
 unfold Zdk
 rw[Z2]
 conv=>arg 3;whnf
 refine Zd rfl ?_ ?_<;>conv=>arg 3;whnf
 ·refine Zl rfl rfl fun x13 hx13=>?_;conv=>arg 3;whnf
  refine Ze _ ZaV fun x14 hx14=>?_;conv=>arg 3;whnf
  refine Zk (Zt _ _) ?_;conv=>arg 3;whnf
  refine Ze _ (Zn6 _) fun r18 hr18=>?_;conv=>arg 3;whnf
  refine Zk (Zt _ _) ?_;conv=>arg 3;whnf
  refine Ze _ (Zoj _) fun r22 hr22=>?_;conv=>arg 3;whnf
  exact Zf (ih _)
 ·exact Zc rfl
theorem Zib {t0:Bool}{t1:Bool}{t2:Bool}{t3:Bool}{a:Zi}:∀r,(Zfn a)=some r→evD ctx 23 [(.d (D.agg (dA t0 t1 t2 t3 a)))]=some (Zmc r):=by
 show ZG _ (fun r rhs=>rhs=some (Zmc r)) _
 unfold Zfn
 rw[Z4 ctx 23 ZFF _ rfl rfl]
 conv=>arg 3;whnf
 refine Zj _ ZiN rfl fun x0 hx0=>?_;conv=>arg 3;whnf
 refine Zd rfl ?_ ?_<;>conv=>arg 3;whnf
 ·exact Zc rfl
 ·refine Zk (Zt _ _) ?_;conv=>arg 3;whnf
  refine Ze _ (Zof _) fun r3 hr3=>?_;conv=>arg 3;whnf
  refine Zk (Zt _ _) ?_;conv=>arg 3;whnf
  refine Ze _ (Zoc _) fun r7 hr7=>?_;conv=>arg 3;whnf
  refine Zk (Zt _ _) ?_;conv=>arg 3;whnf
  refine Ze _ (Zn5 _) fun r11 hr11=>?_;conv=>arg 3;whnf
  refine Zk (Zt _ _) ?_;conv=>arg 3;whnf
  refine Ze _ (Zoq _) fun r23 hr23=>?_;conv=>arg 3;whnf
  refine Zj _ ZsW rfl fun x24 hx24=>?_;conv=>arg 3;whnf
  refine Zd rfl ?_ ?_<;>conv=>arg 3;whnf
  ·exact Zc rfl
  ·exact Zc rfl
def ZfZ (t0:Bool) (a:(List Bool)):Unit→V×Zp
  | r=>((.sl 0 1),[(.arr 1 (List.map D.bool a))])
theorem Ziu {t0:Bool}{a:(List Bool)}:∀r,(Zb1 a)=some r→evW ctx 54 [(.d (D.list t0 (List.map D.bool a)))] []=some ((ZfZ t0 a) r):=by
 show ZG _ (fun r rhs=>rhs=some ((ZfZ t0 a) r)) _
 unfold Zb1
 rw[Zgw ctx 54 ZEO _ _ rfl rfl]
 conv=>arg 3;whnf
 refine Zd (ZxP D.bool a) ?_ ?_
 ·conv=>arg 3;whnf
  refine Zah (Zf5 (f:=D.bool) (fun _=>⟨rfl,rfl⟩) a 0) ?_;conv=>arg 3;whnf
  refine Zd (Zf4 D.bool a) ?_ ?_
  ·conv=>arg 3;whnf
   refine Zk (rfl:_=List.map D.bool a) ?_;conv=>arg 3;whnf
   exact Zc rfl
  ·exact ZQ
 ·exact ZQ
def Zgt (t0:Bool) (a:(List Int)):Unit→V×Zp
  | r=>((.sl 0 1),[(.arr 1 (List.map Zb a))])
theorem Zi8 {t0:Bool}{a:(List Int)}:∀r,(Zcv a)=some r→evW ctx 55 [(.d (D.list t0 (List.map Zb a)))] []=some ((Zgt t0 a) r):=by
 show ZG _ (fun r rhs=>rhs=some ((Zgt t0 a) r)) _
 unfold Zcv
 rw[Zgw ctx 55 ZEA _ _ rfl rfl]
 conv=>arg 3;whnf
 refine Zd (ZxP Zb a) ?_ ?_
 ·conv=>arg 3;whnf
  refine Zah (Zf5 (f:=Zb) (fun _=>⟨rfl,rfl⟩) a 0) ?_;conv=>arg 3;whnf
  refine Zd (Zf4 Zb a) ?_ ?_
  ·conv=>arg 3;whnf
   refine Zk (rfl:_=List.map Zb a) ?_;conv=>arg 3;whnf
   exact Zc rfl
  ·exact ZQ
 ·exact ZQ
def Znv (r:Int):D:=(Zb r)
theorem Zrs {t0:Bool}{t1:Bool}{t2:Bool}{a:Zi7}{b:Int}:∀r,(ZhO a b)=some r→evD ctx 25 [(.d (D.agg [(D.list t0 (List.map Zb a.dag.work)),(D.list t1 (List.map Zv a.dag.edges)),(D.list t2 (List.map Zar a.pieces))])),(.d (Zb b))]=some (Znv r):=by
 show ZG _ (fun r rhs=>rhs=some (Znv r)) _
 unfold ZhO
 rw[Z4 ctx 25 ZG9 _ rfl rfl]
 conv=>arg 3;whnf
 refine ZBT (f:=Zar) (g:=(fun x:Zh=>(x.part,x.step))) (l:=a.pieces) (fun _=>rfl) fun x0 hx0=>?_;conv=>arg 3;whnf
 exact Zc rfl
def Znz (r:(List Int)):D:=(D.list true (List.map Zb r))
def Zkk (t0:Bool) (t1:Bool) (t2:Bool) (t3:Bool) (a:Zi) (b:Int):(List Int)→Ex×List V×Zp
  | r=>(.exit 0,[(.d (Zb b)),(.ptr 0 0),(.sl 1 1)],[(.cells (dV t0 t1 t2 t3 a)),(.arr 1 (List.map Zb r))])
theorem Zo1 {t0:Bool}{t1:Bool}{t2:Bool}{t3:Bool}{a:Zi}{b:Int}:∀(s1:Int×(List Int)) (r:(List Int)),lp (Zho a b) s1=some r→lpW ctx 0 [1,2,5,14,15,16] [1,2,5] ZAt [(.d (Zb b)),(.ptr 0 0),(.sl 1 1),(.d (D.list t1 (List.map Zv a.edges))),(.d (Zb (a.edges.length:Int))),(.d (Zb s1.1))] [(.cells (dV t0 t1 t2 t3 a)),(.arr 1 (List.map Zb s1.2))]=some ((Zkk t0 t1 t2 t3 a b) r):=by
 refine Z1 (Zkk t0 t1 t2 t3 a b) ?_
 intro s1 rcl ih
 show ZG _ _ (lpW _ _ _ _ _ _ _)
 unfold Zho
 rw[Z2]
 conv=>arg 3;whnf
 refine Zd rfl ?_ ?_<;>conv=>arg 3;whnf
 ·refine Zl rfl rfl fun x2 hx2=>?_;conv=>arg 3;whnf
  refine Zd rfl ?_ ?_<;>conv=>arg 3;whnf
  ·refine Zah rfl ?_;conv=>arg 3;whnf
   refine Zd (Zcg Zb s1.2 1) ?_ ?_
   ·conv=>arg 3;whnf
    refine Zk (Zcf Zb s1.2 [x2.src]) ?_;conv=>arg 3;whnf
    exact Zf (ih _)
   ·exact ZQ
  ·exact Zf (ih _)
 ·exact Zc rfl
def ZkA (t0:Bool) (t1:Bool) (t2:Bool) (t3:Bool) (a:Zi) (x4:(List Int)):(List Int)→Ex×List V×Zp
  | r=>(.exit 2,[(.sl 0 1)],[(.arr 1 (List.map Zb r))])
theorem ZoW {t0:Bool}{t1:Bool}{t2:Bool}{t3:Bool}{a:Zi}{x4:(List Int)}:∀(s5:Int×(List Int)) (r:(List Int)),lp (Zhq a x4) s5=some r→lpW ctx 0 [2,5,32,33,34] [5] ZAb [(.ptr 0 0),(.sl 1 1),(.d (D.list true (List.map Zb x4))),(.d (Zb (x4.length:Int))),(.d (Zb s5.1))] [(.cells (dV t0 t1 t2 t3 a)),(.arr 1 (List.map Zb s5.2))]=some ((ZkA t0 t1 t2 t3 a x4) r):=by
 refine Z1 (ZkA t0 t1 t2 t3 a x4) ?_
 intro s5 rcl ih
 show ZG _ _ (lpW _ _ _ _ _ _ _)
 unfold Zhq
 rw[Z2]
 conv=>arg 3;whnf
 refine Zd rfl ?_ ?_<;>conv=>arg 3;whnf
 ·refine Zl rfl rfl fun x6 hx6=>?_;conv=>arg 3;whnf
  refine Zl rfl rfl fun x7 hx7=>?_;conv=>arg 3;whnf
  refine Zah rfl ?_;conv=>arg 3;whnf
  refine Zd (Zcg Zb s5.2 1) ?_ ?_
  ·conv=>arg 3;whnf
   refine Zk (Zcf Zb s5.2 [x7.maker]) ?_;conv=>arg 3;whnf
   exact Zf (ih _)
  ·exact ZQ
 ·exact Zc rfl
theorem Zrv {t0:Bool}{t1:Bool}{t2:Bool}{t3:Bool}{a:Zi}{b:Int}:∀r,(ZgQ a b)=some r→evD ctx 56 [(.d (D.agg (dA t0 t1 t2 t3 a))),(.d (Zb b))]=some (Znz r):=by
 show ZG _ (fun r rhs=>rhs=some (Znz r)) _
 unfold ZgQ
 rw[Z4 ctx 56 ZEX _ rfl rfl]
 conv=>arg 3;whnf
 refine Zj _ ZiN rfl fun x0 hx0=>?_;conv=>arg 3;whnf
 refine Zd rfl ?_ ?_<;>conv=>arg 3;whnf
 ·exact Zc rfl
 ·refine Zk (Zt _ _) ?_;conv=>arg 3;whnf
  refine Ze _ (Zo1 _) fun r3 hr3=>?_;conv=>arg 3;whnf
  refine Zj _ Zkq rfl fun x4 hx4=>?_;conv=>arg 3;whnf
  refine Zk (Zt _ _) ?_;conv=>arg 3;whnf
  refine Ze _ (ZoW _) fun r8 hr8=>?_;conv=>arg 3;whnf
  exact Zc rfl
def Zm7 (r:Int):D:=(D.int .u32 r)
theorem Ze1 {a:Int}:∀r,(Zdu a)=some r→evD ctx 49 [(.d (Zb a))]=some (Zm7 r):=by
 show ZG _ (fun r rhs=>rhs=some (Zm7 r)) _
 unfold Zdu
 rw[Z4 ctx 49 ZFM _ rfl rfl]
 conv=>arg 3;whnf
 exact Zc rfl
def ZoN:Unit→D
  | r=>(D.agg [(D.int .u32 0),(D.fn 85 []),(D.int .u32 1),(D.fn 86 []),(D.int .u32 0),(D.fn 87 []),(D.int .u32 7),(D.fn 88 [])])
theorem ZsM:∀r,Zkb=some r→evD ctx 50 []=some (ZoN r):=by
 show ZG _ (fun r rhs=>rhs=some (ZoN r)) _
 unfold Zkb
 rw[Z4 ctx 50 ZFO _ rfl rfl]
 conv=>arg 3;whnf
 exact Zc rfl
def Zmg (r:Int):D:=(D.int .u32 r)
theorem Zqr {a:Int}{b:Int}:∀r,(Zhb a b)=some r→evD ctx 85 [(.d (D.int .u32 a)),(.d (D.int .u32 b))]=some (Zmg r):=by
 show ZG _ (fun r rhs=>rhs=some (Zmg r)) _
 unfold Zhb
 rw[Z4 ctx 85 ZEj _ rfl rfl]
 conv=>arg 3;whnf
 exact Zc rfl
def Zmh (r:Int):D:=(D.int .u32 r)
theorem ZqO {a:Int}{b:Int}:∀r,(Zhg a b)=some r→evD ctx 86 [(.d (D.int .u32 a)),(.d (D.int .u32 b))]=some (Zmh r):=by
 show ZG _ (fun r rhs=>rhs=some (Zmh r)) _
 unfold Zhg
 rw[Z4 ctx 86 ZFc _ rfl rfl]
 conv=>arg 3;whnf
 exact Zc rfl
def Zmx (r:Int):D:=(D.int .u32 r)
theorem ZqQ {a:Int}{b:Int}:∀r,(Zhe a b)=some r→evD ctx 87 [(.d (D.int .u32 a)),(.d (D.int .u32 b))]=some (Zmx r):=by
 show ZG _ (fun r rhs=>rhs=some (Zmx r)) _
 unfold Zhe
 rw[Z4 ctx 87 ZE7 _ rfl rfl]
 conv=>arg 3;whnf
 exact Zc rfl
def Zme (r:Int):D:=(D.int .u32 r)
theorem ZqW {a:Int}{b:Int}:∀r,(Zhk a b)=some r→evD ctx 88 [(.d (D.int .u32 a)),(.d (D.int .u32 b))]=some (Zme r):=by
 show ZG _ (fun r rhs=>rhs=some (Zme r)) _
 unfold Zhk
 rw[Z4 ctx 88 ZE5 _ rfl rfl]
 conv=>arg 3;whnf
 exact Zc rfl
def Zq6 (r:Int):D:=(Zb r)
def Zni (t0:Bool) (a:ZV) (b:(List Int)):(List (Int×Int))→Ex×List V×Zp
  | r=>(.exit 1,[(.ptr 0 0),(.mp 1)],[(.cells [(.d (Zb a.op)),(.d (Zb a.arg)),(.d (Zb a.work))]),(.mp (mpD Zb Zb r))])
theorem ZrE {t0:Bool}{a:ZV}{b:(List Int)}:∀(s0:Int×(List (Int×Int))) (r:(List (Int×Int))),lp (ZfQ b) s0=some r→lpW ctx 0 [3,7,19,20,21] [3,7] ZAC [(.ptr 0 0),(.mp 1),(.d (D.list t0 (List.map Zb b))),(.d (Zb (b.length:Int))),(.d (Zb s0.1))] [(.cells [(.d (Zb a.op)),(.d (Zb a.arg)),(.d (Zb a.work))]),(.mp (mpD Zb Zb s0.2))]=some ((Zni t0 a b) r):=by
 refine Z1 (Zni t0 a b) ?_
 intro s0 rcl ih
 show ZG _ _ (lpW _ _ _ _ _ _ _)
 unfold ZfQ
 rw[Z2]
 conv=>arg 3;whnf
 refine Zd rfl ?_ ?_<;>conv=>arg 3;whnf
 ·refine Zl rfl rfl fun x1 hx1=>?_;conv=>arg 3;whnf
  refine Zg (ZdX (f:=Zb) (g:=Zb) (fun ka kb:Int=>(ka==kb)) (fun _ _=>rfl) s0.2 s0.1 x1) ?_;conv=>arg 3;whnf
  exact Zf (ih _)
 ·exact Zc rfl
def Zm8 (t1:Bool) (c:(List Int)):Int→Ex×List V×Zp
  | r=>(.exit 3,[(.d (D.int .u32 r))],[])
theorem Zru {t1:Bool}{c:(List Int)}:∀(s6:Int×Int) (r:Int),lp (ZfT c) s6=some r→lpW ctx 0 [10,11,60,61,62] [11] ZsE [(.ptr 0 0),(.d (D.int .u32 s6.1)),(.d (D.list t1 (List.map Zb c))),(.d (Zb (c.length:Int))),(.d (Zb s6.2))] [(.cells [(.d (D.int .u32 0)),(.d (D.fn 85 []))])]=some ((Zm8 t1 c) r):=by
 refine Z1 (Zm8 t1 c) ?_
 intro s6 rcl ih
 show ZG _ _ (lpW _ _ _ _ _ _ _)
 unfold ZfT
 rw[Z2]
 conv=>arg 3;whnf
 refine Zd rfl ?_ ?_<;>conv=>arg 3;whnf
 ·refine Zl rfl rfl fun x7 hx7=>?_;conv=>arg 3;whnf
  refine Zj _ Ze1 rfl fun x8 hx8=>?_;conv=>arg 3;whnf
  refine Zj _ Zqr rfl fun x9 hx9=>?_;conv=>arg 3;whnf
  exact Zf (ih _)
 ·exact Zc rfl
def Zk8 (t1:Bool) (c:(List Int)):Int→Ex×List V×Zp
  | r=>(.exit 3,[(.d (D.int .u32 r))],[])
theorem Zp6 {t1:Bool}{c:(List Int)}:∀(s11:Int×Int) (r:Int),lp (ZeM c) s11=some r→lpW ctx 0 [10,11,60,61,62] [11] ZsE [(.ptr 0 0),(.d (D.int .u32 s11.1)),(.d (D.list t1 (List.map Zb c))),(.d (Zb (c.length:Int))),(.d (Zb s11.2))] [(.cells [(.d (D.int .u32 1)),(.d (D.fn 86 []))])]=some ((Zk8 t1 c) r):=by
 refine Z1 (Zk8 t1 c) ?_
 intro s11 rcl ih
 show ZG _ _ (lpW _ _ _ _ _ _ _)
 unfold ZeM
 rw[Z2]
 conv=>arg 3;whnf
 refine Zd rfl ?_ ?_<;>conv=>arg 3;whnf
 ·refine Zl rfl rfl fun x12 hx12=>?_;conv=>arg 3;whnf
  refine Zj _ Ze1 rfl fun x13 hx13=>?_;conv=>arg 3;whnf
  refine Zj _ ZqO rfl fun x14 hx14=>?_;conv=>arg 3;whnf
  exact Zf (ih _)
 ·exact Zc rfl
def Zk9 (t1:Bool) (c:(List Int)):Int→Ex×List V×Zp
  | r=>(.exit 3,[(.d (D.int .u32 r))],[])
theorem ZpF {t1:Bool}{c:(List Int)}:∀(s16:Int×Int) (r:Int),lp (ZeO c) s16=some r→lpW ctx 0 [10,11,60,61,62] [11] ZsE [(.ptr 0 0),(.d (D.int .u32 s16.1)),(.d (D.list t1 (List.map Zb c))),(.d (Zb (c.length:Int))),(.d (Zb s16.2))] [(.cells [(.d (D.int .u32 0)),(.d (D.fn 87 []))])]=some ((Zk9 t1 c) r):=by
 refine Z1 (Zk9 t1 c) ?_
 intro s16 rcl ih
 show ZG _ _ (lpW _ _ _ _ _ _ _)
 unfold ZeO
 rw[Z2]
 conv=>arg 3;whnf
 refine Zd rfl ?_ ?_<;>conv=>arg 3;whnf
 ·refine Zl rfl rfl fun x17 hx17=>?_;conv=>arg 3;whnf
  refine Zj _ Ze1 rfl fun x18 hx18=>?_;conv=>arg 3;whnf
  refine Zj _ ZqQ rfl fun x19 hx19=>?_;conv=>arg 3;whnf
  exact Zf (ih _)
 ·exact Zc rfl
def Zk6 (t1:Bool) (c:(List Int)):Int→Ex×List V×Zp
  | r=>(.exit 3,[(.d (D.int .u32 r))],[])
theorem ZpD {t1:Bool}{c:(List Int)}:∀(s21:Int×Int) (r:Int),lp (ZeB c) s21=some r→lpW ctx 0 [10,11,60,61,62] [11] ZsE [(.ptr 0 0),(.d (D.int .u32 s21.1)),(.d (D.list t1 (List.map Zb c))),(.d (Zb (c.length:Int))),(.d (Zb s21.2))] [(.cells [(.d (D.int .u32 7)),(.d (D.fn 88 []))])]=some ((Zk6 t1 c) r):=by
 refine Z1 (Zk6 t1 c) ?_
 intro s21 rcl ih
 show ZG _ _ (lpW _ _ _ _ _ _ _)
 unfold ZeB
 rw[Z2]
 conv=>arg 3;whnf
 refine Zd rfl ?_ ?_<;>conv=>arg 3;whnf
 ·refine Zl rfl rfl fun x22 hx22=>?_;conv=>arg 3;whnf
  refine Zj _ Ze1 rfl fun x23 hx23=>?_;conv=>arg 3;whnf
  refine Zj _ ZqW rfl fun x24 hx24=>?_;conv=>arg 3;whnf
  exact Zf (ih _)
 ·exact Zc rfl
theorem Zve {t0:Bool}{t1:Bool}{a:ZV}{b:(List Int)}{c:(List Int)}:∀r,(Zle a b c)=some r→evD ctx 26 [(.d (D.agg [(Zb a.op),(Zb a.arg),(Zb a.work)])),(.d (D.list t0 (List.map Zb b))),(.d (D.list t1 (List.map Zb c)))]=some (Zq6 r):=by
 show ZG _ (fun r rhs=>rhs=some (Zq6 r)) _
 unfold Zle
 rw[Z4 ctx 26 ZEi _ rfl rfl]
 conv=>arg 3;whnf
 refine Zd rfl ?_ ?_<;>conv=>arg 3;whnf
 ·refine Zk (Zt _ _) ?_;conv=>arg 3;whnf
  refine Ze _ (ZrE _) fun r2 hr2=>?_;conv=>arg 3;whnf
  refine Zg (ZbC (f:=Zb) (g:=Zb) (fun ka kb:Int=>(ka==kb)) (fun _ _=>rfl) r2 a.arg 0) ?_;conv=>arg 3;whnf
  refine Zj _ Ze1 rfl fun x3 hx3=>?_;conv=>arg 3;whnf
  exact Zc rfl
 ·refine Zd rfl ?_ ?_<;>conv=>arg 3;whnf
  ·refine Zj _ Ze1 rfl fun x4 hx4=>?_;conv=>arg 3;whnf
   exact Zc rfl
  ·refine Zd rfl ?_ ?_<;>conv=>arg 3;whnf
   ·exact Zc rfl
   ·refine Zd rfl ?_ ?_<;>conv=>arg 3;whnf
    ·exact Zc rfl
    ·refine Zj _ ZsM rfl fun x5 hx5=>?_;conv=>arg 3;whnf
     refine Zd rfl ?_ ?_
     ·conv=>arg 3;whnf
      refine Zw4 rfl ?_ ?_ ?_ ?_<;>conv=>arg 3;whnf
      ·refine Zg rfl ?_;conv=>arg 3;whnf
       refine Zk (Zt _ _) ?_;conv=>arg 3;whnf
       refine Ze _ (Zru _) fun r10 hr10=>?_;conv=>arg 3;whnf
       exact Zc rfl
      ·refine Zg rfl ?_;conv=>arg 3;whnf
       refine Zk (Zt _ _) ?_;conv=>arg 3;whnf
       refine Ze _ (Zp6 _) fun r15 hr15=>?_;conv=>arg 3;whnf
       exact Zc rfl
      ·conv=>arg 3;whnf
       refine Zg rfl ?_;conv=>arg 3;whnf
       refine Zk (Zt _ _) ?_;conv=>arg 3;whnf
       refine Ze _ (ZpF _) fun r20 hr20=>?_;conv=>arg 3;whnf
       exact Zc rfl
      ·conv=>arg 3;whnf
       refine Zg rfl ?_;conv=>arg 3;whnf
       refine Zk (Zt _ _) ?_;conv=>arg 3;whnf
       refine Ze _ (ZpD _) fun r25 hr25=>?_;conv=>arg 3;whnf
       exact Zc rfl
     ·exact ZQ
def ZmE (r:Zy):D:=(D.agg [(D.list true (List.map D.bool r.done)),(D.list true (List.map Zb r.vals))])
def Zj5 (t0:Bool) (t1:Bool) (t2:Bool) (t3:Bool) (t7:Bool) (a:Zi) (c:(List Int)) (d:Zy) (e:Int) (x3:Zh) (x5:(List Int)):(List Int)→Ex×List V×Zp
  | r=>(.exit 0,[(.d (D.list t7 (List.map Zb c))),(.ptr 0 0),(.ptr 1 0),(.ptr 2 0),(.d (Zb x3.part)),(.sl 3 1)],[(.cells (dV t0 t1 t2 t3 a)),(.cells [(.sl 4 1),(.sl 5 1)]),(.cells [(.sl 6 1),(.sl 7 1)]),(.arr 1 (List.map Zb r)),(.arr 1 (List.map D.bool (List.set d.done e.toNat true))),(.arr 1 (List.map Zb d.vals)),(.arr 1 []),(.arr 1 [])])
theorem Zob {t0:Bool}{t1:Bool}{t2:Bool}{t3:Bool}{t7:Bool}{a:Zi}{c:(List Int)}{d:Zy}{e:Int}{x3:Zh}{x5:(List Int)}:∀(s6:Int×(List Int)) (r:(List Int)),lp (Zeo d x5) s6=some r→lpW ctx 0 [2,5,8,10,11,12,44,45,46] [2,5,8,10,11,12] ZAJ [(.d (D.list t7 (List.map Zb c))),(.ptr 0 0),(.ptr 1 0),(.ptr 2 0),(.d (Zb x3.part)),(.sl 3 1),(.d (D.list true (List.map Zb x5))),(.d (Zb (x5.length:Int))),(.d (Zb s6.1))] [(.cells (dV t0 t1 t2 t3 a)),(.cells [(.sl 4 1),(.sl 5 1)]),(.cells [(.sl 6 1),(.sl 7 1)]),(.arr 1 (List.map Zb s6.2)),(.arr 1 (List.map D.bool (List.set d.done e.toNat true))),(.arr 1 (List.map Zb d.vals)),(.arr 1 []),(.arr 1 [])]=some ((Zj5 t0 t1 t2 t3 t7 a c d e x3 x5) r):=by
 refine Z1 (Zj5 t0 t1 t2 t3 t7 a c d e x3 x5) ?_
 intro s6 rcl ih
 show ZG _ _ (lpW _ _ _ _ _ _ _)
 unfold Zeo
 rw[Z2]
 conv=>arg 3;whnf
 refine Zd rfl ?_ ?_<;>conv=>arg 3;whnf
 ·refine Zl rfl rfl fun x7 hx7=>?_;conv=>arg 3;whnf
  refine Zl rfl rfl fun x8 hx8=>?_;conv=>arg 3;whnf
  refine Zg (ZD rfl hx8) ?_;conv=>arg 3;whnf
  refine Zah rfl ?_;conv=>arg 3;whnf
  refine Zd (Zcg Zb s6.2 1) ?_ ?_
  ·conv=>arg 3;whnf
   refine Zk (Zcf Zb s6.2 [x8]) ?_;conv=>arg 3;whnf
   exact Zf (ih _)
  ·exact ZQ
 ·exact Zc rfl
theorem Zlq {t0:Bool}{t1:Bool}{t2:Bool}{t3:Bool}{t4:Bool}{t5:Bool}{t6:Bool}{t7:Bool}{t8:Bool}{t9:Bool}{a:Zi}{b:Zi7}{c:(List Int)}{d:Zy}{e:Int}:∀r,(Zge a b c d e)=some r→evD ctx 30 [(.d (D.agg (dA t0 t1 t2 t3 a))),(.d (D.agg [(D.list t4 (List.map Zb b.dag.work)),(D.list t5 (List.map Zv b.dag.edges)),(D.list t6 (List.map Zar b.pieces))])),(.d (D.list t7 (List.map Zb c))),(.d (D.agg [(D.list t8 (List.map D.bool d.done)),(D.list t9 (List.map Zb d.vals))])),(.d (Zb e))]=some (ZmE r):=by
 show ZG _ (fun r rhs=>rhs=some (ZmE r)) _
 unfold Zge
 rw[Z4 ctx 30 ZEp _ rfl rfl]
 conv=>arg 3;whnf
 refine Ze _ Ziu fun x0 hx0=>?_;conv=>arg 3;whnf
 refine Ze _ Zi8 fun x1 hx1=>?_;conv=>arg 3;whnf
 refine Zl rfl rfl fun x2 hx2=>?_;conv=>arg 3;whnf
 refine Zg (ZD rfl hx2) ?_;conv=>arg 3;whnf
 refine Zk (ZaE D.bool d.done e.toNat true) ?_;conv=>arg 3;whnf
 refine Zl rfl rfl fun x3 hx3=>?_;conv=>arg 3;whnf
 refine Zd rfl ?_ ?_<;>conv=>arg 3;whnf
 ·exact Zc rfl
 ·refine Zj _ Zrs rfl fun x4 hx4=>?_;conv=>arg 3;whnf
  refine Zd rfl ?_ ?_<;>conv=>arg 3;whnf
  ·exact Zc rfl
  ·refine Zj _ Zrv rfl fun x5 hx5=>?_;conv=>arg 3;whnf
   refine Zk (Zt _ _) ?_;conv=>arg 3;whnf
   refine Ze _ (Zob _) fun r9 hr9=>?_;conv=>arg 3;whnf
   refine Zl rfl rfl fun x10 hx10=>?_;conv=>arg 3;whnf
   refine Zj _ Zve rfl fun x11 hx11=>?_;conv=>arg 3;whnf
   refine Zl rfl rfl fun x12 hx12=>?_;conv=>arg 3;whnf
   refine Zg (ZD rfl hx12) ?_;conv=>arg 3;whnf
   refine Zk (ZaE Zb d.vals x3.part.toNat x11) ?_;conv=>arg 3;whnf
   exact Zc rfl
def Zk1 (r:Bool):D:=(D.bool r)
theorem Zqd {t0:Bool}{t1:Bool}{a:Zn}{b0:(List Bool)}{b1:(List Int)}:∀r,(ZdB a b0)=some r→evD ctx 52 [(.d (D.agg [(Zb a.src),(Zb a.dst)])),(.d (D.rptr [(D.list t0 (List.map D.bool b0)),(D.list t1 (List.map Zb b1))]))]=some (Zk1 r):=by
 show ZG _ (fun r rhs=>rhs=some (Zk1 r)) _
 unfold ZdB
 rw[Z4 ctx 52 ZFE _ rfl rfl]
 conv=>arg 3;whnf
 refine Zl rfl rfl fun x0 hx0=>?_;conv=>arg 3;whnf
 refine Zd rfl ?_ ?_<;>conv=>arg 3;whnf
 ·refine Zl rfl rfl fun x1 hx1=>?_;conv=>arg 3;whnf
  refine Zd rfl ?_ ?_<;>conv=>arg 3;whnf
  ·exact Zc rfl
  ·exact Zc rfl
 ·exact Zc rfl
def Zcw (r:Int):D:=(Zb r)
def Zb7 (t0:Bool) (t1:Bool) (t2:Bool) (a:(List Zn)) (b0:(List Bool)) (b1:(List Int)):(Int⊕Unit)→Ex×List V×Zp
  | (.inl r)=>(.ret,[(.d (Zb r))],[])
  | (.inr r)=>(.exit 0,[.bad],[])
theorem ZeK {t0:Bool}{t1:Bool}{t2:Bool}{a:(List Zn)}{b0:(List Bool)}{b1:(List Int)}:∀(s0:Int) (r:(Int⊕Unit)),lp (Zak a (fun z0=>ZdB z0 b0)) s0=some r→lpW ctx 0 [0,1,7,8] [4] ZxG [(.d (D.list t0 (List.map Zv a))),(.d (D.fn 52 [(D.rptr [(D.list t1 (List.map D.bool b0)),(D.list t2 (List.map Zb b1))])])),(.d (Zb (a.length:Int))),(.d (Zb s0))] []=some ((Zb7 t0 t1 t2 a b0 b1) r):=by
 refine Z1 (Zb7 t0 t1 t2 a b0 b1) ?_
 intro s0 rcl ih
 show ZG _ _ (lpW _ _ _ _ _ _ _)
 unfold Zak
 rw[Z2]
 conv=>arg 3;whnf
 refine Zd rfl ?_ ?_<;>conv=>arg 3;whnf
 ·refine Zl rfl rfl fun x1 hx1=>?_;conv=>arg 3;whnf
  refine Zj _ Zqd rfl fun x2 hx2=>?_;conv=>arg 3;whnf
  refine Zd rfl ?_ ?_<;>conv=>arg 3;whnf
  ·exact Zc rfl
  ·exact Zf (ih _)
 ·exact Zc rfl
theorem Ze6 {t0:Bool}{t1:Bool}{t2:Bool}{a:(List Zn)}{b0:(List Bool)}{b1:(List Int)}:∀r,(ZaW a (fun z0=>ZdB z0 b0))=some r→evD ctx 89 [(.d (D.list t0 (List.map Zv a))),(.d (D.fn 52 [(D.rptr [(D.list t1 (List.map D.bool b0)),(D.list t2 (List.map Zb b1))])]))]=some (Zcw r):=by
 show ZG _ (fun r rhs=>rhs=some (Zcw r)) _
 unfold ZaW
 rw[Z4 ctx 89 ZC5 _ rfl rfl]
 conv=>arg 3;whnf
 refine Zk (Zt _ _) ?_;conv=>arg 3;whnf
 refine Ze _ (ZeK _) fun r3 hr3=>?_
 clear hr3
 rcases r3 with r3 | r3
 ·conv=>arg 3;whnf
  exact Zc rfl
 ·conv=>arg 3;whnf
  exact Zc rfl
def Zb4 (r:Bool):D:=(D.bool r)
theorem ZeH {t0:Bool}{t1:Bool}{t2:Bool}{a:(List Zn)}{b0:(List Bool)}{b1:(List Int)}:∀r,(Z7 a (fun z0=>ZdB z0 b0))=some r→evD ctx 51 [(.d (D.list t0 (List.map Zv a))),(.d (D.fn 52 [(D.rptr [(D.list t1 (List.map D.bool b0)),(D.list t2 (List.map Zb b1))])]))]=some (Zb4 r):=by
 show ZG _ (fun r rhs=>rhs=some (Zb4 r)) _
 unfold Z7
 rw[Z4 ctx 51 ZC8 _ rfl rfl]
 conv=>arg 3;whnf
 refine Zj _ Ze6 rfl fun x0 hx0=>?_;conv=>arg 3;whnf
 refine Zd rfl ?_ ?_<;>conv=>arg 3;whnf
 ·exact Zc rfl
 ·exact Zc rfl
def Zny (r:Bool):D:=(D.bool r)
theorem ZiR {t0:Bool}{t1:Bool}{t2:Bool}{t3:Bool}{t4:Bool}{t5:Bool}{t6:Bool}{t7:Bool}{a:Zi}{b:Zan}{c:Zy}:∀r,(ZfP a b c)=some r→evD ctx 28 [(.d (D.agg (dA t0 t1 t2 t3 a))),(.d (D.agg [(D.list t4 (List.map Zb b.work)),(D.list t5 (List.map Zv b.edges))])),(.d (D.agg [(D.list t6 (List.map D.bool c.done)),(D.list t7 (List.map Zb c.vals))]))]=some (Zny r):=by
 show ZG _ (fun r rhs=>rhs=some (Zny r)) _
 unfold ZfP
 rw[Z4 ctx 28 ZEE _ rfl rfl]
 conv=>arg 3;whnf
 refine Zk (Zt _ _) ?_;conv=>arg 3;whnf
 refine Zk (Zt _ _) ?_;conv=>arg 3;whnf
 refine Zd rfl ?_ ?_<;>conv=>arg 3;whnf
 ·exact Zc rfl
 ·refine Zk (Zt _ _) ?_;conv=>arg 3;whnf
  refine Zk (Zt _ _) ?_;conv=>arg 3;whnf
  refine Zd rfl ?_ ?_<;>conv=>arg 3;whnf
  ·exact Zc rfl
  ·refine Zj _ ZeH rfl fun x0 hx0=>?_;conv=>arg 3;whnf
   refine Zd rfl ?_ ?_<;>conv=>arg 3;whnf
   ·exact Zc rfl
   ·exact Zc rfl
def Zlc (r:Bool):D:=(D.bool r)
theorem Zqj {t0:Bool}{t1:Bool}{a:Zn}{b0:Int}{c0:(List Bool)}{c1:(List Int)}:∀r,(Zdx a b0 c0)=some r→evD ctx 53 [(.d (D.agg [(Zb a.src),(Zb a.dst)])),(.d (D.rptr [(Zb b0)])),(.d (D.rptr [(D.list t0 (List.map D.bool c0)),(D.list t1 (List.map Zb c1))]))]=some (Zlc r):=by
 show ZG _ (fun r rhs=>rhs=some (Zlc r)) _
 unfold Zdx
 rw[Z4 ctx 53 ZFN _ rfl rfl]
 conv=>arg 3;whnf
 refine Zd rfl ?_ ?_<;>conv=>arg 3;whnf
 ·refine Zl rfl rfl fun x0 hx0=>?_;conv=>arg 3;whnf
  refine Zd rfl ?_ ?_<;>conv=>arg 3;whnf
  ·exact Zc rfl
  ·exact Zc rfl
 ·exact Zc rfl
def Zcs (r:Int):D:=(Zb r)
def Zb3 (t0:Bool) (t1:Bool) (t2:Bool) (a:(List Zn)) (b0:Int) (b1:(List Bool)) (b2:(List Int)):(Int⊕Unit)→Ex×List V×Zp
  | (.inl r)=>(.ret,[(.d (Zb r))],[])
  | (.inr r)=>(.exit 0,[.bad],[])
theorem ZeC {t0:Bool}{t1:Bool}{t2:Bool}{a:(List Zn)}{b0:Int}{b1:(List Bool)}{b2:(List Int)}:∀(s0:Int) (r:(Int⊕Unit)),lp (Zak a (fun z0=>Zdx z0 b0 b1)) s0=some r→lpW ctx 0 [0,1,7,8] [4] ZxG [(.d (D.list t0 (List.map Zv a))),(.d (D.fn 53 [(D.rptr [(Zb b0)]),(D.rptr [(D.list t1 (List.map D.bool b1)),(D.list t2 (List.map Zb b2))])])),(.d (Zb (a.length:Int))),(.d (Zb s0))] []=some ((Zb3 t0 t1 t2 a b0 b1 b2) r):=by
 refine Z1 (Zb3 t0 t1 t2 a b0 b1 b2) ?_
 intro s0 rcl ih
 show ZG _ _ (lpW _ _ _ _ _ _ _)
 unfold Zak
 rw[Z2]
 conv=>arg 3;whnf
 refine Zd rfl ?_ ?_<;>conv=>arg 3;whnf
 ·refine Zl rfl rfl fun x1 hx1=>?_;conv=>arg 3;whnf
  refine Zj _ Zqj rfl fun x2 hx2=>?_;conv=>arg 3;whnf
  refine Zd rfl ?_ ?_<;>conv=>arg 3;whnf
  ·exact Zc rfl
  ·exact Zf (ih _)
 ·exact Zc rfl
theorem Zfe {t0:Bool}{t1:Bool}{t2:Bool}{a:(List Zn)}{b0:Int}{b1:(List Bool)}{b2:(List Int)}:∀r,(ZaW a (fun z0=>Zdx z0 b0 b1))=some r→evD ctx 89 [(.d (D.list t0 (List.map Zv a))),(.d (D.fn 53 [(D.rptr [(Zb b0)]),(D.rptr [(D.list t1 (List.map D.bool b1)),(D.list t2 (List.map Zb b2))])]))]=some (Zcs r):=by
 show ZG _ (fun r rhs=>rhs=some (Zcs r)) _
 unfold ZaW
 rw[Z4 ctx 89 ZC5 _ rfl rfl]
 conv=>arg 3;whnf
 refine Zk (Zt _ _) ?_;conv=>arg 3;whnf
 refine Ze _ (ZeC _) fun r3 hr3=>?_
 clear hr3
 rcases r3 with r3 | r3
 ·conv=>arg 3;whnf
  exact Zc rfl
 ·conv=>arg 3;whnf
  exact Zc rfl
def Zb9 (r:Bool):D:=(D.bool r)
theorem ZeF {t0:Bool}{t1:Bool}{t2:Bool}{a:(List Zn)}{b0:Int}{b1:(List Bool)}{b2:(List Int)}:∀r,(Z7 a (fun z0=>Zdx z0 b0 b1))=some r→evD ctx 51 [(.d (D.list t0 (List.map Zv a))),(.d (D.fn 53 [(D.rptr [(Zb b0)]),(D.rptr [(D.list t1 (List.map D.bool b1)),(D.list t2 (List.map Zb b2))])]))]=some (Zb9 r):=by
 show ZG _ (fun r rhs=>rhs=some (Zb9 r)) _
 unfold Z7
 rw[Z4 ctx 51 ZC8 _ rfl rfl]
 conv=>arg 3;whnf
 refine Zj _ Zfe rfl fun x0 hx0=>?_;conv=>arg 3;whnf
 refine Zd rfl ?_ ?_<;>conv=>arg 3;whnf
 ·exact Zc rfl
 ·exact Zc rfl
def Zm2 (r:Bool):D:=(D.bool r)
theorem Zmk {t0:Bool}{t1:Bool}{t2:Bool}{t3:Bool}{a:Zan}{b:Zy}{c:Int}:∀r,(ZgK a b c)=some r→evD ctx 29 [(.d (D.agg [(D.list t0 (List.map Zb a.work)),(D.list t1 (List.map Zv a.edges))])),(.d (D.agg [(D.list t2 (List.map D.bool b.done)),(D.list t3 (List.map Zb b.vals))])),(.d (Zb c))]=some (Zm2 r):=by
 show ZG _ (fun r rhs=>rhs=some (Zm2 r)) _
 unfold ZgK
 rw[Z4 ctx 29 ZEG _ rfl rfl]
 conv=>arg 3;whnf
 refine Zj _ ZeF rfl fun x0 hx0=>?_;conv=>arg 3;whnf
 refine Zd rfl ?_ ?_<;>conv=>arg 3;whnf
 ·exact Zc rfl
 ·exact Zc rfl
def Zmj (r:(Zy×Int)):D:=(D.tup [(D.agg [(D.list true (List.map D.bool r.1.done)),(D.list true (List.map Zb r.1.vals))]),(Zb r.2)])
theorem Zq1 {t0:Bool}{t1:Bool}{t2:Bool}{t3:Bool}{t4:Bool}{t5:Bool}{t6:Bool}{a:Zi}{b:(List Int)}{c:Zy}{d:Int}:∀r,(Zg2 a b c d)=some r→evD ctx 8 [(.d (D.agg (dA t0 t1 t2 t3 a))),(.d (D.list t4 (List.map Zb b))),(.d (D.agg [(D.list t5 (List.map D.bool c.done)),(D.list t6 (List.map Zb c.vals))])),(.d (Zb d))]=some (Zmj r):=by
 show ZG _ (fun r rhs=>rhs=some (Zmj r)) _
 unfold Zg2
 rw[Z4 ctx 8 fn8 _ rfl rfl]
 conv=>arg 3;whnf
 refine Zj _ Zib rfl fun x0 hx0=>?_;conv=>arg 3;whnf
 refine Zd rfl ?_ ?_<;>conv=>arg 3;whnf
 ·refine Zd rfl ?_ ?_<;>conv=>arg 3;whnf
  ·exact Zc rfl
  ·refine Zj _ Zlq rfl fun x1 hx1=>?_;conv=>arg 3;whnf
   exact Zc rfl
 ·refine Zj _ ZiR rfl fun x2 hx2=>?_;conv=>arg 3;whnf
  refine Zd rfl ?_ ?_<;>conv=>arg 3;whnf
  ·refine Zd rfl ?_ ?_<;>conv=>arg 3;whnf
   ·refine Zah rfl ?_;conv=>arg 3;whnf
    exact Zc rfl
   ·refine Zk (Zt _ _) ?_;conv=>arg 3;whnf
    refine Zd rfl ?_ ?_<;>conv=>arg 3;whnf
    ·refine Zah rfl ?_;conv=>arg 3;whnf
     exact Zc rfl
    ·refine Zl rfl rfl fun x3 hx3=>?_;conv=>arg 3;whnf
     refine Zd rfl ?_ ?_<;>conv=>arg 3;whnf
     ·refine Zah rfl ?_;conv=>arg 3;whnf
      exact Zc rfl
     ·refine Zj _ Zmk rfl fun x4 hx4=>?_;conv=>arg 3;whnf
      refine Zd rfl ?_ ?_<;>conv=>arg 3;whnf
      ·refine Zah rfl ?_;conv=>arg 3;whnf
       exact Zc rfl
      ·refine Zd rfl ?_ ?_<;>conv=>arg 3;whnf
       ·exact Zc rfl
       ·refine Zj _ Zlq rfl fun x5 hx5=>?_;conv=>arg 3;whnf
        exact Zc rfl
  ·refine Zah rfl ?_;conv=>arg 3;whnf
   exact Zc rfl
def ZoA (r:(Int×Bool)):D:=(D.tup [(Zb r.1),(D.bool r.2)])
def Zlv (a:Int):(Int⊕Unit)→Ex×List V×Zp
  | (.inl r)=>(.ret,[(.d (Zb r)),(.d (D.bool true))],[])
  | (.inr r)=>(.exit 0,[.bad,.bad],[])
theorem ZpM {a:Int}:∀(s0:Int×Int) (r:(Int⊕Unit)),lp (ZcY a) s0=some r→lpW ctx 0 [0,4,5] [2,3] Zyl [(.d (Zb a)),(.d (Zb s0.1)),(.d (Zb s0.2))] []=some ((Zlv a) r):=by
 refine Z1 (Zlv a) ?_
 intro s0 rcl ih
 show ZG _ _ (lpW _ _ _ _ _ _ _)
 unfold ZcY
 rw[Z2]
 conv=>arg 3;whnf
 refine Zd rfl ?_ ?_<;>conv=>arg 3;whnf
 ·refine Zd rfl ?_ ?_<;>conv=>arg 3;whnf
  ·exact Zc rfl
  ·exact Zf (ih _)
 ·exact Zc rfl
theorem Zsb {a:Int}:∀r,(ZiD a)=some r→evD ctx 108 [(.d (Zb a))]=some (ZoA r):=by
 show ZG _ (fun r rhs=>rhs=some (ZoA r)) _
 unfold ZiD
 rw[Z4 ctx 108 ZAw _ rfl rfl]
 conv=>arg 3;whnf
 refine Ze _ (ZpM _) fun r1 hr1=>?_
 clear hr1
 rcases r1 with r1 | r1
 ·conv=>arg 3;whnf
  exact Zc rfl
 ·conv=>arg 3;whnf
  exact Zc rfl
def ZmM (r:Bool):D:=(D.bool r)
theorem Zrz {t0:Bool}{t1:Bool}{t2:Bool}{t3:Bool}{a:Zi}:∀r,(ZhS a)=some r→evD ctx 91 [(.d (D.agg (dA t0 t1 t2 t3 a)))]=some (ZmM r):=by
 show ZG _ (fun r rhs=>rhs=some (ZmM r)) _
 unfold ZhS
 rw[Z4 ctx 91 ZEQ _ rfl rfl]
 conv=>arg 3;whnf
 refine Zj _ Zsb rfl fun x0 hx0=>?_;conv=>arg 3;whnf
 refine Zd rfl ?_ ?_<;>conv=>arg 3;whnf
 ·refine Zd rfl ?_ ?_<;>conv=>arg 3;whnf
  ·refine Zd rfl ?_ ?_<;>conv=>arg 3;whnf
   ·refine Zd rfl ?_ ?_<;>conv=>arg 3;whnf
    ·exact Zc rfl
    ·exact Zc rfl
   ·exact Zc rfl
  ·exact Zc rfl
 ·exact Zc rfl
def Zl8 (r:Bool):D:=(D.bool r)
def ZjS (t0:Bool) (t1:Bool) (t2:Bool) (t3:Bool) (a:Zi):(Unit⊕Unit)→Ex×List V×Zp
  | (.inl r)=>(.ret,[(.d (D.bool false))],[])
  | (.inr r)=>(.exit 0,[.bad],[])
theorem Zn4 {t0:Bool}{t1:Bool}{t2:Bool}{t3:Bool}{a:Zi}:∀(s0:Int) (r:(Unit⊕Unit)),lp (Zek a) s0=some r→lpW ctx 0 [1,3] [2] ZBy [(.ptr 0 0),(.d (Zb s0))] [(.cells (dV t0 t1 t2 t3 a))]=some ((ZjS t0 t1 t2 t3 a) r):=by
 refine Z1 (ZjS t0 t1 t2 t3 a) ?_
 intro s0 rcl ih
 show ZG _ _ (lpW _ _ _ _ _ _ _)
 unfold Zek
 rw[Z2]
 conv=>arg 3;whnf
 refine Zk (Zt _ _) ?_;conv=>arg 3;whnf
 refine Zd rfl ?_ ?_<;>conv=>arg 3;whnf
 ·refine Zl rfl rfl fun x1 hx1=>?_;conv=>arg 3;whnf
  refine Zd rfl ?_ ?_<;>conv=>arg 3;whnf
  ·exact Zc rfl
  ·refine Zd rfl ?_ ?_<;>conv=>arg 3;whnf
   ·exact Zc rfl
   ·refine Zd rfl ?_ ?_<;>conv=>arg 3;whnf
    ·exact Zc rfl
    ·refine Zd rfl ?_ ?_<;>conv=>arg 3;whnf
     ·exact Zc rfl
     ·refine Zd rfl ?_ ?_<;>conv=>arg 3;whnf
      ·exact Zc rfl
      ·refine Zd rfl ?_ ?_<;>conv=>arg 3;whnf
       ·exact Zc rfl
       ·exact Zf (ih _)
 ·exact Zc rfl
theorem ZqM {t0:Bool}{t1:Bool}{t2:Bool}{t3:Bool}{a:Zi}:∀r,(Zhj a)=some r→evD ctx 92 [(.d (D.agg (dA t0 t1 t2 t3 a)))]=some (Zl8 r):=by
 show ZG _ (fun r rhs=>rhs=some (Zl8 r)) _
 unfold Zhj
 rw[Z4 ctx 92 ZEb _ rfl rfl]
 conv=>arg 3;whnf
 refine Ze _ (Zn4 _) fun r2 hr2=>?_
 clear hr2
 rcases r2 with r2 | r2
 ·conv=>arg 3;whnf
  exact Zc rfl
 ·conv=>arg 3;whnf
  exact Zc rfl
def Znc (r:Bool):D:=(D.bool r)
theorem Zf1 {t0:Bool}{t1:Bool}{t2:Bool}{t3:Bool}{a:Zi}{b:Int}:∀r,(Zd8 a b)=some r→evD ctx 109 [(.d (D.agg (dA t0 t1 t2 t3 a))),(.d (Zb b))]=some (Znc r):=by
 show ZG _ (fun r rhs=>rhs=some (Znc r)) _
 unfold Zd8
 rw[Z4 ctx 109 ZAP _ rfl rfl]
 conv=>arg 3;whnf
 refine Zd rfl ?_ ?_<;>conv=>arg 3;whnf
 ·refine Zk (Zt _ _) ?_;conv=>arg 3;whnf
  refine Zd rfl ?_ ?_<;>conv=>arg 3;whnf
  ·exact Zc rfl
  ·exact Zc rfl
 ·exact Zc rfl
def Zmm (r:Bool):D:=(D.bool r)
def Zjn (t0:Bool) (t1:Bool) (t2:Bool) (t3:Bool) (a:Zi) (s0:Int) (x1:Zn):(Unit⊕Unit)→Ex×List V×Zp
  | (.inl r)=>(.ret,[(.ptr 0 0),(.d (D.bool false)),(.d (Zb s0))],[(.cells (dV t0 t1 t2 t3 a))])
  | (.inr r)=>(.exit 2,[(.ptr 0 0),.bad,(.d (Zb s0))],[(.cells (dV t0 t1 t2 t3 a))])
theorem Zoe {t0:Bool}{t1:Bool}{t2:Bool}{t3:Bool}{a:Zi}{s0:Int}{x1:Zn}:∀(s4:Int) (r:(Unit⊕Unit)),lp (Zel a s0 x1) s4=some r→lpW ctx 0 [1,3,4,5] [1,2,3] ZBx [(.ptr 0 0),(.d (Zb s0)),(.ptr 1 0),(.d (Zb s4))] [(.cells (dV t0 t1 t2 t3 a)),(.cells [(.d (Zb x1.src)),(.d (Zb x1.dst))])]=some ((Zjn t0 t1 t2 t3 a s0 x1) r):=by
 refine Z1 (Zjn t0 t1 t2 t3 a s0 x1) ?_
 intro s4 rcl ih
 show ZG _ _ (lpW _ _ _ _ _ _ _)
 unfold Zel
 rw[Z2]
 conv=>arg 3;whnf
 refine Zd rfl ?_ ?_<;>conv=>arg 3;whnf
 ·refine Zl rfl rfl fun x5 hx5=>?_;conv=>arg 3;whnf
  refine Zd rfl ?_ ?_<;>conv=>arg 3;whnf
  ·refine Zg (Za7 rfl hx5) ?_;conv=>arg 3;whnf
   refine Zd rfl ?_ ?_<;>conv=>arg 3;whnf
   ·exact Zc rfl
   ·exact Zf (ih _)
  ·exact Zf (ih _)
 ·exact Zc rfl
def Zjw (t0:Bool) (t1:Bool) (t2:Bool) (t3:Bool) (a:Zi):(Unit⊕Unit)→Ex×List V×Zp
  | (.inl r)=>(.ret,[(.d (D.bool false))],[])
  | (.inr r)=>(.exit 0,[.bad],[])
theorem Zop {t0:Bool}{t1:Bool}{t2:Bool}{t3:Bool}{a:Zi}:∀(s0:Int) (r:(Unit⊕Unit)),lp (Zep a) s0=some r→lpW ctx 0 [1,3] [2] ZzR [(.ptr 0 0),(.d (Zb s0))] [(.cells (dV t0 t1 t2 t3 a))]=some ((Zjw t0 t1 t2 t3 a) r):=by
 refine Z1 (Zjw t0 t1 t2 t3 a) ?_
 intro s0 rcl ih
 show ZG _ _ (lpW _ _ _ _ _ _ _)
 unfold Zep
 rw[Z2]
 conv=>arg 3;whnf
 refine Zk (Zt _ _) ?_;conv=>arg 3;whnf
 refine Zd rfl ?_ ?_<;>conv=>arg 3;whnf
 ·refine Zl rfl rfl fun x1 hx1=>?_;conv=>arg 3;whnf
  refine Zj _ Zf1 rfl fun x2 hx2=>?_;conv=>arg 3;whnf
  refine Zd rfl ?_ ?_<;>conv=>arg 3;whnf
  ·refine Zj _ Zf1 rfl fun x3 hx3=>?_;conv=>arg 3;whnf
   refine Zd rfl ?_ ?_<;>conv=>arg 3;whnf
   ·refine Zd rfl ?_ ?_<;>conv=>arg 3;whnf
    ·exact Zc rfl
    ·refine Ze _ (Zoe _) fun r6 hr6=>?_
     clear hr6
     rcases r6 with r6 | r6
     ·conv=>arg 3;whnf
      exact Zc rfl
     ·conv=>arg 3;whnf
      exact Zf (ih _)
   ·exact Zc rfl
  ·exact Zc rfl
 ·exact Zc rfl
theorem ZqI {t0:Bool}{t1:Bool}{t2:Bool}{t3:Bool}{a:Zi}:∀r,(Zhc a)=some r→evD ctx 93 [(.d (D.agg (dA t0 t1 t2 t3 a)))]=some (Zmm r):=by
 show ZG _ (fun r rhs=>rhs=some (Zmm r)) _
 unfold Zhc
 rw[Z4 ctx 93 ZE4 _ rfl rfl]
 conv=>arg 3;whnf
 refine Ze _ (Zop _) fun r7 hr7=>?_
 clear hr7
 rcases r7 with r7 | r7
 ·conv=>arg 3;whnf
  exact Zc rfl
 ·conv=>arg 3;whnf
  exact Zc rfl
def Zkw (r:Bool):D:=(D.bool r)
def ZiJ (t0:Bool) (t1:Bool) (t2:Bool) (t3:Bool) (a:Zi) (s0:Int) (x1:Zm):(Unit⊕Unit)→Ex×List V×Zp
  | (.inl r)=>(.ret,[(.ptr 0 0),(.d (D.bool false)),(.d (Zb s0))],[(.cells (dV t0 t1 t2 t3 a))])
  | (.inr r)=>(.exit 2,[(.ptr 0 0),.bad,(.d (Zb s0))],[(.cells (dV t0 t1 t2 t3 a))])
theorem ZmK {t0:Bool}{t1:Bool}{t2:Bool}{t3:Bool}{a:Zi}{s0:Int}{x1:Zm}:∀(s5:Int) (r:(Unit⊕Unit)),lp (Zdl a s0 x1) s5=some r→lpW ctx 0 [1,3,4,5] [1,2,3] ZAB [(.ptr 0 0),(.d (Zb s0)),(.ptr 1 0),(.d (Zb s5))] [(.cells (dV t0 t1 t2 t3 a)),(.cells [(.d (Zb x1.maker)),(.d (Zb x1.user)),(.d (Zb x1.pos))])]=some ((ZiJ t0 t1 t2 t3 a s0 x1) r):=by
 refine Z1 (ZiJ t0 t1 t2 t3 a s0 x1) ?_
 intro s5 rcl ih
 show ZG _ _ (lpW _ _ _ _ _ _ _)
 unfold Zdl
 rw[Z2]
 conv=>arg 3;whnf
 refine Zd rfl ?_ ?_<;>conv=>arg 3;whnf
 ·refine Zl rfl rfl fun x6 hx6=>?_;conv=>arg 3;whnf
  refine Zd rfl ?_ ?_<;>conv=>arg 3;whnf
  ·refine Zg (Za7 rfl hx6) ?_;conv=>arg 3;whnf
   refine Zd rfl ?_ ?_<;>conv=>arg 3;whnf
   ·exact Zc rfl
   ·exact Zf (ih _)
  ·exact Zf (ih _)
 ·exact Zc rfl
def Zir (t0:Bool) (t1:Bool) (t2:Bool) (t3:Bool) (a:Zi):(Unit⊕Unit)→Ex×List V×Zp
  | (.inl r)=>(.ret,[(.d (D.bool false))],[])
  | (.inr r)=>(.exit 0,[.bad],[])
theorem ZmF {t0:Bool}{t1:Bool}{t2:Bool}{t3:Bool}{a:Zi}:∀(s0:Int) (r:(Unit⊕Unit)),lp (Zdm a) s0=some r→lpW ctx 0 [1,3] [2] ZAE [(.ptr 0 0),(.d (Zb s0))] [(.cells (dV t0 t1 t2 t3 a))]=some ((Zir t0 t1 t2 t3 a) r):=by
 refine Z1 (Zir t0 t1 t2 t3 a) ?_
 intro s0 rcl ih
 show ZG _ _ (lpW _ _ _ _ _ _ _)
 unfold Zdm
 rw[Z2]
 conv=>arg 3;whnf
 refine Zk (Zt _ _) ?_;conv=>arg 3;whnf
 refine Zd rfl ?_ ?_<;>conv=>arg 3;whnf
 ·refine Zl rfl rfl fun x1 hx1=>?_;conv=>arg 3;whnf
  refine Zj _ Zf1 rfl fun x2 hx2=>?_;conv=>arg 3;whnf
  refine Zd rfl ?_ ?_<;>conv=>arg 3;whnf
  ·refine Zj _ Zf1 rfl fun x3 hx3=>?_;conv=>arg 3;whnf
   refine Zd rfl ?_ ?_<;>conv=>arg 3;whnf
   ·refine Zd rfl ?_ ?_<;>conv=>arg 3;whnf
    ·exact Zc rfl
    ·refine Zd rfl ?_ ?_<;>conv=>arg 3;whnf
     ·exact Zc rfl
     ·refine Zl rfl rfl fun x4 hx4=>?_;conv=>arg 3;whnf
      refine Zd rfl ?_ ?_<;>conv=>arg 3;whnf
      ·exact Zc rfl
      ·refine Ze _ (ZmK _) fun r7 hr7=>?_
       clear hr7
       rcases r7 with r7 | r7
       ·conv=>arg 3;whnf
        exact Zc rfl
       ·conv=>arg 3;whnf
        exact Zf (ih _)
   ·exact Zc rfl
  ·exact Zc rfl
 ·exact Zc rfl
theorem Zo2 {t0:Bool}{t1:Bool}{t2:Bool}{t3:Bool}{a:Zi}:∀r,(Zf0 a)=some r→evD ctx 94 [(.d (D.agg (dA t0 t1 t2 t3 a)))]=some (Zkw r):=by
 show ZG _ (fun r rhs=>rhs=some (Zkw r)) _
 unfold Zf0
 rw[Z4 ctx 94 ZFl _ rfl rfl]
 conv=>arg 3;whnf
 refine Ze _ (ZmF _) fun r8 hr8=>?_
 clear hr8
 rcases r8 with r8 | r8
 ·conv=>arg 3;whnf
  exact Zc rfl
 ·conv=>arg 3;whnf
  exact Zc rfl
def ZoL (r:Bool):D:=(D.bool r)
def ZkU (t0:Bool) (t1:Bool) (t2:Bool) (t3:Bool) (t4:Bool) (a:Zi) (b:(List Int)):(Unit⊕Unit)→Ex×List V×Zp
  | (.inl r)=>(.ret,[(.d (D.list t4 (List.map Zb b))),(.d (D.bool false))],[])
  | (.inr r)=>(.exit 0,[(.d (D.list t4 (List.map Zb b))),.bad],[])
theorem ZpE {t0:Bool}{t1:Bool}{t2:Bool}{t3:Bool}{t4:Bool}{a:Zi}{b:(List Int)}:∀(s0:Int) (r:(Unit⊕Unit)),lp (ZfH a b) s0=some r→lpW ctx 0 [1,2,5] [1,4] ZyI [(.d (D.list t4 (List.map Zb b))),(.ptr 0 0),(.d (Zb s0))] [(.cells (dV t0 t1 t2 t3 a))]=some ((ZkU t0 t1 t2 t3 t4 a b) r):=by
 refine Z1 (ZkU t0 t1 t2 t3 t4 a b) ?_
 intro s0 rcl ih
 show ZG _ _ (lpW _ _ _ _ _ _ _)
 unfold ZfH
 rw[Z2]
 conv=>arg 3;whnf
 refine Zk (Zt _ _) ?_;conv=>arg 3;whnf
 refine Zd rfl ?_ ?_<;>conv=>arg 3;whnf
 ·refine Zl rfl rfl fun x1 hx1=>?_;conv=>arg 3;whnf
  refine Zj _ Zf1 rfl fun x2 hx2=>?_;conv=>arg 3;whnf
  refine Zd rfl ?_ ?_<;>conv=>arg 3;whnf
  ·refine Zd rfl ?_ ?_<;>conv=>arg 3;whnf
   ·refine Zl rfl rfl fun x3 hx3=>?_;conv=>arg 3;whnf
    refine Zg (Za7 rfl hx1) ?_;conv=>arg 3;whnf
    refine Zd rfl ?_ ?_<;>conv=>arg 3;whnf
    ·exact Zc rfl
    ·exact Zf (ih _)
   ·exact Zf (ih _)
  ·exact Zc rfl
 ·exact Zc rfl
theorem Znt {t0:Bool}{t1:Bool}{t2:Bool}{t3:Bool}{t4:Bool}{a:Zi}{b:(List Int)}:∀r,(Zhz a b)=some r→evD ctx 110 [(.d (D.agg (dA t0 t1 t2 t3 a))),(.d (D.list t4 (List.map Zb b)))]=some (ZoL r):=by
 show ZG _ (fun r rhs=>rhs=some (ZoL r)) _
 unfold Zhz
 rw[Z4 ctx 110 ZAu _ rfl rfl]
 conv=>arg 3;whnf
 refine Ze _ (ZpE _) fun r4 hr4=>?_
 clear hr4
 rcases r4 with r4 | r4
 ·conv=>arg 3;whnf
  exact Zc rfl
 ·conv=>arg 3;whnf
  refine Zk (Zt _ _) ?_;conv=>arg 3;whnf
  refine Zd rfl ?_ ?_<;>conv=>arg 3;whnf
  ·exact Zc rfl
  ·exact Zc rfl
def ZoI (r:Bool):D:=(D.bool r)
def Zlf (t0:Bool) (a:(List Int)) (b:Int):(Unit⊕Unit)→Ex×List V×Zp
  | (.inl r)=>(.ret,[(.d (D.bool true))],[])
  | (.inr r)=>(.exit 0,[.bad],[])
theorem ZpP {t0:Bool}{a:(List Int)}{b:Int}:∀(s0:Int) (r:(Unit⊕Unit)),lp (ZfE a b) s0=some r→lpW ctx 0 [0,1,5] [4] Zx6 [(.d (D.list t0 (List.map Zb a))),(.d (Zb b)),(.d (Zb s0))] []=some ((Zlf t0 a b) r):=by
 refine Z1 (Zlf t0 a b) ?_
 intro s0 rcl ih
 show ZG _ _ (lpW _ _ _ _ _ _ _)
 unfold ZfE
 rw[Z2]
 conv=>arg 3;whnf
 refine Zk (Zt _ _) ?_;conv=>arg 3;whnf
 refine Zd rfl ?_ ?_<;>conv=>arg 3;whnf
 ·refine Zl rfl rfl fun x1 hx1=>?_;conv=>arg 3;whnf
  refine Zd rfl ?_ ?_<;>conv=>arg 3;whnf
  ·exact Zc rfl
  ·exact Zf (ih _)
 ·exact Zc rfl
theorem ZsF {t0:Bool}{a:(List Int)}{b:Int}:∀r,(Ziz a b)=some r→evD ctx 111 [(.d (D.list t0 (List.map Zb a))),(.d (Zb b))]=some (ZoI r):=by
 show ZG _ (fun r rhs=>rhs=some (ZoI r)) _
 unfold Ziz
 rw[Z4 ctx 111 ZzO _ rfl rfl]
 conv=>arg 3;whnf
 refine Ze _ (ZpP _) fun r2 hr2=>?_
 clear hr2
 rcases r2 with r2 | r2
 ·conv=>arg 3;whnf
  exact Zc rfl
 ·conv=>arg 3;whnf
  exact Zc rfl
def ZjD (r:Bool):D:=(D.bool r)
def ZhX (t0:Bool) (t1:Bool) (t2:Bool) (t3:Bool) (a:Zi) (s0:Int) (x1:Zs):(Unit⊕Unit)→Ex×List V×Zp
  | (.inl r)=>(.ret,[(.ptr 0 0),(.d (D.bool false)),(.d (Zb s0))],[(.cells (dV t0 t1 t2 t3 a))])
  | (.inr r)=>(.exit 2,[(.ptr 0 0),.bad,(.d (Zb s0))],[(.cells (dV t0 t1 t2 t3 a))])
theorem ZlW {t0:Bool}{t1:Bool}{t2:Bool}{t3:Bool}{a:Zi}{s0:Int}{x1:Zs}:∀(s4:Int) (r:(Unit⊕Unit)),lp (Zc2 x1) s4=some r→lpW ctx 0 [1,3,4,5] [1,2,3] ZA4 [(.ptr 0 0),(.d (Zb s0)),(.ptr 1 0),(.d (Zb s4))] [(.cells (dV t0 t1 t2 t3 a)),(.cells [(.d (D.list true (List.map Zb x1.ins))),(.d (D.list true (List.map Zb x1.outs)))])]=some ((ZhX t0 t1 t2 t3 a s0 x1) r):=by
 refine Z1 (ZhX t0 t1 t2 t3 a s0 x1) ?_
 intro s4 rcl ih
 show ZG _ _ (lpW _ _ _ _ _ _ _)
 unfold Zc2
 rw[Z2]
 conv=>arg 3;whnf
 refine Zk (Zt _ _) ?_;conv=>arg 3;whnf
 refine Zd rfl ?_ ?_<;>conv=>arg 3;whnf
 ·refine Zl rfl rfl fun x5 hx5=>?_;conv=>arg 3;whnf
  refine Zj _ ZsF rfl fun x6 hx6=>?_;conv=>arg 3;whnf
  refine Zd rfl ?_ ?_<;>conv=>arg 3;whnf
  ·exact Zc rfl
  ·exact Zf (ih _)
 ·exact Zc rfl
def ZhZ (t0:Bool) (t1:Bool) (t2:Bool) (t3:Bool) (a:Zi):(Unit⊕Unit)→Ex×List V×Zp
  | (.inl r)=>(.ret,[(.d (D.bool false))],[])
  | (.inr r)=>(.exit 0,[.bad],[])
theorem ZlR {t0:Bool}{t1:Bool}{t2:Bool}{t3:Bool}{a:Zi}:∀(s0:Int) (r:(Unit⊕Unit)),lp (Zc3 a) s0=some r→lpW ctx 0 [1,3] [2] ZCi [(.ptr 0 0),(.d (Zb s0))] [(.cells (dV t0 t1 t2 t3 a))]=some ((ZhZ t0 t1 t2 t3 a) r):=by
 refine Z1 (ZhZ t0 t1 t2 t3 a) ?_
 intro s0 rcl ih
 show ZG _ _ (lpW _ _ _ _ _ _ _)
 unfold Zc3
 rw[Z2]
 conv=>arg 3;whnf
 refine Zk (Zt _ _) ?_;conv=>arg 3;whnf
 refine Zd rfl ?_ ?_<;>conv=>arg 3;whnf
 ·refine Zl rfl rfl fun x1 hx1=>?_;conv=>arg 3;whnf
  refine Zj _ Znt rfl fun x2 hx2=>?_;conv=>arg 3;whnf
  refine Zd rfl ?_ ?_<;>conv=>arg 3;whnf
  ·refine Zj _ Znt rfl fun x3 hx3=>?_;conv=>arg 3;whnf
   refine Zd rfl ?_ ?_<;>conv=>arg 3;whnf
   ·refine Ze _ (ZlW _) fun r7 hr7=>?_
    clear hr7
    rcases r7 with r7 | r7
    ·conv=>arg 3;whnf
     exact Zc rfl
    ·conv=>arg 3;whnf
     exact Zf (ih _)
   ·exact Zc rfl
  ·exact Zc rfl
 ·exact Zc rfl
theorem ZnV {t0:Bool}{t1:Bool}{t2:Bool}{t3:Bool}{a:Zi}:∀r,(ZfA a)=some r→evD ctx 95 [(.d (D.agg (dA t0 t1 t2 t3 a)))]=some (ZjD r):=by
 show ZG _ (fun r rhs=>rhs=some (ZjD r)) _
 unfold ZfA
 rw[Z4 ctx 95 ZEZ _ rfl rfl]
 conv=>arg 3;whnf
 refine Ze _ (ZlR _) fun r8 hr8=>?_
 clear hr8
 rcases r8 with r8 | r8
 ·conv=>arg 3;whnf
  exact Zc rfl
 ·conv=>arg 3;whnf
  exact Zc rfl
def Zmn (r:Int):D:=(Zb r)
theorem ZqH {t0:Bool}{t1:Bool}{t2:Bool}{t3:Bool}{a:Zi}:∀r,(Zg9 a)=some r→evD ctx 62 [(.d (D.agg (dA t0 t1 t2 t3 a)))]=some (Zmn r):=by
 show ZG _ (fun r rhs=>rhs=some (Zmn r)) _
 unfold Zg9
 rw[Z4 ctx 62 ZEC _ rfl rfl]
 conv=>arg 3;whnf
 refine Zk (Zt _ _) ?_;conv=>arg 3;whnf
 refine Zd rfl ?_ ?_<;>conv=>arg 3;whnf
 ·exact Zc rfl
 ·refine Zk (Zt _ _) ?_;conv=>arg 3;whnf
  refine Zd rfl ?_ ?_<;>conv=>arg 3;whnf
  ·exact Zc rfl
  ·refine Zk (Zt _ _) ?_;conv=>arg 3;whnf
   refine Zd rfl ?_ ?_<;>conv=>arg 3;whnf
   ·exact Zc rfl
   ·refine Zk (Zt _ _) ?_;conv=>arg 3;whnf
    refine Zd rfl ?_ ?_<;>conv=>arg 3;whnf
    ·exact Zc rfl
    ·refine Zk (Zt _ _) ?_;conv=>arg 3;whnf
     refine Zd rfl ?_ ?_<;>conv=>arg 3;whnf
     ·exact Zc rfl
     ·refine Zj _ Zrz rfl fun x0 hx0=>?_;conv=>arg 3;whnf
      refine Zd rfl ?_ ?_<;>conv=>arg 3;whnf
      ·refine Zj _ ZqM rfl fun x1 hx1=>?_;conv=>arg 3;whnf
       refine Zd rfl ?_ ?_<;>conv=>arg 3;whnf
       ·refine Zj _ ZqI rfl fun x2 hx2=>?_;conv=>arg 3;whnf
        refine Zd rfl ?_ ?_<;>conv=>arg 3;whnf
        ·refine Zj _ Zo2 rfl fun x3 hx3=>?_;conv=>arg 3;whnf
         refine Zd rfl ?_ ?_<;>conv=>arg 3;whnf
         ·refine Zj _ ZnV rfl fun x4 hx4=>?_;conv=>arg 3;whnf
          refine Zd rfl ?_ ?_<;>conv=>arg 3;whnf
          ·exact Zc rfl
          ·exact Zc rfl
         ·exact Zc rfl
        ·exact Zc rfl
       ·exact Zc rfl
      ·exact Zc rfl
def Zkg (r:(List Int)):D:=(D.list true (List.map Zb r))
def ZiC (t0:Bool) (t1:Bool) (t2:Bool) (t3:Bool) (a:Zi) (b:Int) (s0:Int×(List Int)):(List Int)→Ex×List V×Zp
  | r=>(.exit 2,[(.d (Zb b)),(.ptr 0 0),(.sl 1 1),(.d (Zb s0.1))],[(.cells (dV t0 t1 t2 t3 a)),(.arr 1 (List.map Zb r))])
theorem ZmG {t0:Bool}{t1:Bool}{t2:Bool}{t3:Bool}{a:Zi}{b:Int}{s0:Int×(List Int)}:∀(s1:Int×(List Int)) (r:(List Int)),lp (ZcI a b s0) s1=some r→lpW ctx 0 [1,2,5,6,7] [1,2,5,6] ZCw [(.d (Zb b)),(.ptr 0 0),(.sl 1 1),(.d (Zb s0.1)),(.d (Zb s1.1))] [(.cells (dV t0 t1 t2 t3 a)),(.arr 1 (List.map Zb s1.2))]=some ((ZiC t0 t1 t2 t3 a b s0) r):=by
 refine Z1 (ZiC t0 t1 t2 t3 a b s0) ?_
 intro s1 rcl ih
 show ZG _ _ (lpW _ _ _ _ _ _ _)
 unfold ZcI
 rw[Z2]
 conv=>arg 3;whnf
 refine Zk (Zt _ _) ?_;conv=>arg 3;whnf
 refine Zd rfl ?_ ?_<;>conv=>arg 3;whnf
 ·refine Zl rfl rfl fun x2 hx2=>?_;conv=>arg 3;whnf
  refine Zd rfl ?_ ?_<;>conv=>arg 3;whnf
  ·refine Zg (Za7 rfl hx2) ?_;conv=>arg 3;whnf
   refine Zd rfl ?_ ?_<;>conv=>arg 3;whnf
   ·refine Zah rfl ?_;conv=>arg 3;whnf
    refine Zd (Zcg Zb s1.2 1) ?_ ?_
    ·conv=>arg 3;whnf
     refine Zk (Zcf Zb s1.2 [s1.1]) ?_;conv=>arg 3;whnf
     exact Zf (ih _)
    ·exact ZQ
   ·exact Zf (ih _)
  ·exact Zf (ih _)
 ·exact Zc rfl
def ZiB (t0:Bool) (t1:Bool) (t2:Bool) (t3:Bool) (a:Zi) (b:Int):(List Int)→Ex×List V×Zp
  | r=>(.exit 0,[(.sl 0 1)],[(.arr 1 (List.map Zb r))])
theorem ZmH {t0:Bool}{t1:Bool}{t2:Bool}{t3:Bool}{a:Zi}{b:Int}:∀(s0:Int×(List Int)) (r:(List Int)),lp (ZeR a b) s0=some r→lpW ctx 0 [1,2,5,6] [5] ZAy [(.d (Zb b)),(.ptr 0 0),(.sl 1 1),(.d (Zb s0.1))] [(.cells (dV t0 t1 t2 t3 a)),(.arr 1 (List.map Zb s0.2))]=some ((ZiB t0 t1 t2 t3 a b) r):=by
 refine Z1 (ZiB t0 t1 t2 t3 a b) ?_
 intro s0 rcl ih
 show ZG _ _ (lpW _ _ _ _ _ _ _)
 unfold ZeR
 rw[Z2]
 conv=>arg 3;whnf
 refine Zd rfl ?_ ?_<;>conv=>arg 3;whnf
 ·refine Ze _ (ZmG _) fun r3 hr3=>?_;conv=>arg 3;whnf
  exact Zf (ih _)
 ·exact Zc rfl
theorem Zhs {t0:Bool}{t1:Bool}{t2:Bool}{t3:Bool}{a:Zi}{b:Int}:∀r,(Zc4 a b)=some r→evD ctx 59 [(.d (D.agg (dA t0 t1 t2 t3 a))),(.d (Zb b))]=some (Zkg r):=by
 show ZG _ (fun r rhs=>rhs=some (Zkg r)) _
 unfold Zc4
 rw[Z4 ctx 59 ZEm _ rfl rfl]
 conv=>arg 3;whnf
 refine Ze _ (ZmH _) fun r4 hr4=>?_;conv=>arg 3;whnf
 exact Zc rfl
def ZmD (r:(List Int)):D:=(D.list true (List.map Zb r))
def Zj8 (t0:Bool) (t1:Bool) (t2:Bool) (t3:Bool) (a:Zi) (b:Int) (x0:(List Int)):(Int×(List Int))→Ex×List V×Zp
  | r=>(.exit 0,[(.d (Zb b)),(.ptr 0 0),(.sl 1 1),(.d (Zb r.1))],[(.cells (dV t0 t1 t2 t3 a)),(.arr 1 (List.map Zb r.2))])
theorem ZnT {t0:Bool}{t1:Bool}{t2:Bool}{t3:Bool}{a:Zi}{b:Int}{x0:(List Int)}:∀(s1:Int×Int×(List Int)) (r:(Int×(List Int))),lp (Zdp a x0) s1=some r→lpW ctx 0 [1,2,5,6,7,8] [1,2,5,6] ZB5 [(.d (Zb b)),(.ptr 0 0),(.sl 1 1),(.d (Zb s1.1)),(.d (D.list true (List.map Zb x0))),(.d (Zb s1.2.1))] [(.cells (dV t0 t1 t2 t3 a)),(.arr 1 (List.map Zb s1.2.2))]=some ((Zj8 t0 t1 t2 t3 a b x0) r):=by
 refine Z1 (Zj8 t0 t1 t2 t3 a b x0) ?_
 intro s1 rcl ih
 show ZG _ _ (lpW _ _ _ _ _ _ _)
 unfold Zdp
 rw[Z2]
 conv=>arg 3;whnf
 refine Zk (Zt _ _) ?_;conv=>arg 3;whnf
 refine Zd rfl ?_ ?_<;>conv=>arg 3;whnf
 ·refine Zl rfl rfl fun x2 hx2=>?_;conv=>arg 3;whnf
  refine Zl rfl rfl fun x3 hx3=>?_;conv=>arg 3;whnf
  refine Zah rfl ?_;conv=>arg 3;whnf
  refine Zd (Zcg Zb s1.2.2 1) ?_ ?_
  ·conv=>arg 3;whnf
   refine Zk (Zcf Zb s1.2.2 [(w64 (x3.pos-s1.1))]) ?_;conv=>arg 3;whnf
   exact Zf (ih _)
  ·exact ZQ
 ·exact Zc rfl
theorem Zlw {t0:Bool}{t1:Bool}{t2:Bool}{t3:Bool}{a:Zi}{b:Int}:∀r,(Zgg a b)=some r→evD ctx 65 [(.d (D.agg (dA t0 t1 t2 t3 a))),(.d (Zb b))]=some (ZmD r):=by
 show ZG _ (fun r rhs=>rhs=some (ZmD r)) _
 unfold Zgg
 rw[Z4 ctx 65 ZFR _ rfl rfl]
 conv=>arg 3;whnf
 refine Zj _ Zhs rfl fun x0 hx0=>?_;conv=>arg 3;whnf
 refine Ze _ (ZnT _) fun r4 hr4=>?_;conv=>arg 3;whnf
 refine Zl rfl rfl fun x5 hx5=>?_;conv=>arg 3;whnf
 refine Zah rfl ?_;conv=>arg 3;whnf
 refine Zd (Zcg Zb r4.2 1) ?_ ?_
 ·conv=>arg 3;whnf
  refine Zk (Zcf Zb r4.2 [(w64 (x5.work-r4.1))]) ?_;conv=>arg 3;whnf
  exact Zc rfl
 ·exact ZQ
def Zmp (r:Int):D:=(Zb r)
def ZjR (t0:Bool) (t1:Bool) (t2:Bool) (t3:Bool) (a:Zi) (b:Int):Int→Ex×List V×Zp
  | r=>(.exit 0,[(.d (Zb r))],[])
theorem ZnW {t0:Bool}{t1:Bool}{t2:Bool}{t3:Bool}{a:Zi}{b:Int}:∀(s0:Int×Int) (r:Int),lp (Zdh a b) s0=some r→lpW ctx 0 [1,2,5,6] [5] ZBt [(.d (Zb b)),(.ptr 0 0),(.d (Zb s0.1)),(.d (Zb s0.2))] [(.cells (dV t0 t1 t2 t3 a))]=some ((ZjR t0 t1 t2 t3 a b) r):=by
 refine Z1 (ZjR t0 t1 t2 t3 a b) ?_
 intro s0 rcl ih
 show ZG _ _ (lpW _ _ _ _ _ _ _)
 unfold Zdh
 rw[Z2]
 conv=>arg 3;whnf
 refine Zd rfl ?_ ?_<;>conv=>arg 3;whnf
 ·refine Zj _ Zlw rfl fun x1 hx1=>?_;conv=>arg 3;whnf
  refine Zk (Zt _ _) ?_;conv=>arg 3;whnf
  exact Zf (ih _)
 ·exact Zc rfl
theorem Zet {t0:Bool}{t1:Bool}{t2:Bool}{t3:Bool}{a:Zi}{b:Int}:∀r,(ZcC a b)=some r→evD ctx 58 [(.d (D.agg (dA t0 t1 t2 t3 a))),(.d (Zb b))]=some (Zmp r):=by
 show ZG _ (fun r rhs=>rhs=some (Zmp r)) _
 unfold ZcC
 rw[Z4 ctx 58 ZEz _ rfl rfl]
 conv=>arg 3;whnf
 refine Ze _ (ZnW _) fun r2 hr2=>?_;conv=>arg 3;whnf
 exact Zc rfl
def ZmC (r:Int):D:=(Zb r)
theorem ZgL {t0:Bool}{t1:Bool}{t2:Bool}{t3:Bool}{a:Zi}{b:Int}:∀r,(Zeb a b)=some r→evD ctx 32 [(.d (D.agg (dA t0 t1 t2 t3 a))),(.d (Zb b))]=some (ZmC r):=by
 show ZG _ (fun r rhs=>rhs=some (ZmC r)) _
 unfold Zeb
 rw[Z4 ctx 32 ZEF _ rfl rfl]
 conv=>arg 3;whnf
 refine Zj _ Zet rfl fun x0 hx0=>?_;conv=>arg 3;whnf
 exact Zc rfl
def Zms (r:Int):D:=(Zb r)
def Zjo (t0:Bool) (t1:Bool) (t2:Bool) (t3:Bool) (a:Zi) (b:Zm) (x0:(List Int)):(Int⊕Unit)→Ex×List V×Zp
  | (.inl r)=>(.ret,[(.d (Zb r))],[])
  | (.inr r)=>(.exit 0,[.bad],[])
theorem ZnZ {t0:Bool}{t1:Bool}{t2:Bool}{t3:Bool}{a:Zi}{b:Zm}{x0:(List Int)}:∀(s1:Int) (r:(Int⊕Unit)),lp (Zes a b x0) s1=some r→lpW ctx 0 [2,3,5,6] [4] ZBe [(.ptr 0 0),(.ptr 1 0),(.d (D.list true (List.map Zb x0))),(.d (Zb s1))] [(.cells (dV t0 t1 t2 t3 a)),(.cells [(.d (Zb b.maker)),(.d (Zb b.user)),(.d (Zb b.pos))])]=some ((Zjo t0 t1 t2 t3 a b x0) r):=by
 refine Z1 (Zjo t0 t1 t2 t3 a b x0) ?_
 intro s1 rcl ih
 show ZG _ _ (lpW _ _ _ _ _ _ _)
 unfold Zes
 rw[Z2]
 conv=>arg 3;whnf
 refine Zk (Zt _ _) ?_;conv=>arg 3;whnf
 refine Zd rfl ?_ ?_<;>conv=>arg 3;whnf
 ·refine Zl rfl rfl fun x2 hx2=>?_;conv=>arg 3;whnf
  refine Zl rfl rfl fun x3 hx3=>?_;conv=>arg 3;whnf
  refine Zd rfl ?_ ?_<;>conv=>arg 3;whnf
  ·refine Zj _ Zet rfl fun x4 hx4=>?_;conv=>arg 3;whnf
   exact Zc rfl
  ·exact Zf (ih _)
 ·exact Zc rfl
theorem ZqL {t0:Bool}{t1:Bool}{t2:Bool}{t3:Bool}{a:Zi}{b:Zm}:∀r,(Zhm a b)=some r→evD ctx 66 [(.d (D.agg (dA t0 t1 t2 t3 a))),(.d (D.agg [(Zb b.maker),(Zb b.user),(Zb b.pos)]))]=some (Zms r):=by
 show ZG _ (fun r rhs=>rhs=some (Zms r)) _
 unfold Zhm
 rw[Z4 ctx 66 ZET _ rfl rfl]
 conv=>arg 3;whnf
 refine Zj _ Zhs rfl fun x0 hx0=>?_;conv=>arg 3;whnf
 refine Ze _ (ZnZ _) fun r5 hr5=>?_
 clear hr5
 rcases r5 with r5 | r5
 ·conv=>arg 3;whnf
  exact Zc rfl
 ·conv=>arg 3;whnf
  exact Zc rfl
def Zmw (r:Zi7):D:=(D.agg [(D.list true (List.map Zb r.dag.work)),(D.list true (List.map Zv r.dag.edges)),(D.list true (List.map Zar r.pieces))])
def Zjv (t0:Bool) (t1:Bool) (t2:Bool) (t3:Bool) (a:Zi) (s0:Int×(List Zn)×(List Int)×(List Zh)) (x1:(List Int)):((List Zn)×(List Int)×(List Zh))→Ex×List V×Zp
  | r=>(.exit 2,[(.ptr 0 0),(.ptr 1 0),(.ptr 2 0),(.sl 3 2),(.d (Zb s0.1))],[(.cells (dV t0 t1 t2 t3 a)),(.cells [(.sl 4 1),(.sl 5 2),(.sl 6 2)]),(.cells [(.sl 7 1),(.sl 8 2),(.sl 9 2)]),(.arr 2 (List.map Zv r.1)),(.arr 1 []),(.arr 2 []),(.arr 2 []),(.arr 1 (List.map Zb r.2.1)),(.arr 2 []),(.arr 2 (List.map Zar r.2.2))])
theorem Zog {t0:Bool}{t1:Bool}{t2:Bool}{t3:Bool}{a:Zi}{s0:Int×(List Zn)×(List Int)×(List Zh)}{x1:(List Int)}:∀(s2:Int×(List Zn)×(List Int)×(List Zh)) (r:((List Zn)×(List Int)×(List Zh))),lp (Zdi a s0 x1) s2=some r→lpW ctx 0 [1,2,3,4,5,6,7] [1,2,3,4,5] ZAh [(.ptr 0 0),(.ptr 1 0),(.ptr 2 0),(.sl 3 2),(.d (Zb s0.1)),(.d (D.list true (List.map Zb x1))),(.d (Zb s2.1))] [(.cells (dV t0 t1 t2 t3 a)),(.cells [(.sl 4 1),(.sl 5 2),(.sl 6 2)]),(.cells [(.sl 7 1),(.sl 8 2),(.sl 9 2)]),(.arr 2 (List.map Zv s2.2.1)),(.arr 1 []),(.arr 2 []),(.arr 2 []),(.arr 1 (List.map Zb s2.2.2.1)),(.arr 2 []),(.arr 2 (List.map Zar s2.2.2.2))]=some ((Zjv t0 t1 t2 t3 a s0 x1) r):=by
 refine Z1 (Zjv t0 t1 t2 t3 a s0 x1) ?_
 intro s2 rcl ih
 show ZG _ _ (lpW _ _ _ _ _ _ _)
 unfold Zdi
 rw[Z2]
 conv=>arg 3;whnf
 refine Zk (Zt _ _) ?_;conv=>arg 3;whnf
 refine Zd rfl ?_ ?_<;>conv=>arg 3;whnf
 ·refine Zah rfl ?_;conv=>arg 3;whnf
  refine Zd (Zcg Zar s2.2.2.2 1) ?_ ?_
  ·conv=>arg 3;whnf
   refine Zk (Zcf Zar s2.2.2.2 [(Zh.mk s0.1 s2.1)]) ?_;conv=>arg 3;whnf
   refine Zl rfl rfl fun x3 hx3=>?_;conv=>arg 3;whnf
   refine Zah rfl ?_;conv=>arg 3;whnf
   refine Zd (Zcg Zb s2.2.2.1 1) ?_ ?_
   ·conv=>arg 3;whnf
    refine Zk (Zcf Zb s2.2.2.1 [x3]) ?_;conv=>arg 3;whnf
    refine Zd rfl ?_ ?_<;>conv=>arg 3;whnf
    ·refine Zj _ Zet rfl fun x4 hx4=>?_;conv=>arg 3;whnf
     refine Zj _ Zet rfl fun x5 hx5=>?_;conv=>arg 3;whnf
     refine Zah rfl ?_;conv=>arg 3;whnf
     refine Zd (Zcg Zv s2.2.1 1) ?_ ?_
     ·conv=>arg 3;whnf
      refine Zk (Zcf Zv s2.2.1 [(Zn.mk (w64 ((w64 (x4+s2.1))-1)) (w64 (x5+s2.1)))]) ?_;conv=>arg 3;whnf
      exact Zf (ih _)
     ·exact ZQ
    ·exact Zf (ih _)
   ·exact ZQ
  ·exact ZQ
 ·exact Zc rfl
def ZjU (t0:Bool) (t1:Bool) (t2:Bool) (t3:Bool) (a:Zi):((List Zn)×(List Int)×(List Zh))→Ex×List V×Zp
  | r=>(.exit 0,[(.ptr 0 0),(.ptr 1 0),(.ptr 2 0),(.sl 3 2)],[(.cells (dV t0 t1 t2 t3 a)),(.cells [(.sl 4 1),(.sl 5 2),(.sl 6 2)]),(.cells [(.sl 7 1),(.sl 8 2),(.sl 9 2)]),(.arr 2 (List.map Zv r.1)),(.arr 1 []),(.arr 2 []),(.arr 2 []),(.arr 1 (List.map Zb r.2.1)),(.arr 2 []),(.arr 2 (List.map Zar r.2.2))])
theorem Zol {t0:Bool}{t1:Bool}{t2:Bool}{t3:Bool}{a:Zi}:∀(s0:Int×(List Zn)×(List Int)×(List Zh)) (r:((List Zn)×(List Int)×(List Zh))),lp (Zdq a) s0=some r→lpW ctx 0 [1,2,3,4,5] [1,2,3,4] ZAV [(.ptr 0 0),(.ptr 1 0),(.ptr 2 0),(.sl 3 2),(.d (Zb s0.1))] [(.cells (dV t0 t1 t2 t3 a)),(.cells [(.sl 4 1),(.sl 5 2),(.sl 6 2)]),(.cells [(.sl 7 1),(.sl 8 2),(.sl 9 2)]),(.arr 2 (List.map Zv s0.2.1)),(.arr 1 []),(.arr 2 []),(.arr 2 []),(.arr 1 (List.map Zb s0.2.2.1)),(.arr 2 []),(.arr 2 (List.map Zar s0.2.2.2))]=some ((ZjU t0 t1 t2 t3 a) r):=by
 refine Z1 (ZjU t0 t1 t2 t3 a) ?_
 intro s0 rcl ih
 show ZG _ _ (lpW _ _ _ _ _ _ _)
 unfold Zdq
 rw[Z2]
 conv=>arg 3;whnf
 refine Zk (Zt _ _) ?_;conv=>arg 3;whnf
 refine Zd rfl ?_ ?_<;>conv=>arg 3;whnf
 ·refine Zj _ Zlw rfl fun x1 hx1=>?_;conv=>arg 3;whnf
  refine Ze _ (Zog _) fun r6 hr6=>?_;conv=>arg 3;whnf
  exact Zf (ih _)
 ·exact Zc rfl
def Zju (t0:Bool) (t1:Bool) (t2:Bool) (t3:Bool) (a:Zi) (r7:((List Zn)×(List Int)×(List Zh))):(List Zn)→Ex×List V×Zp
  | r=>(.exit 4,[(.ptr 0 0),(.ptr 1 0),(.ptr 2 0),(.sl 3 2)],[(.cells (dV t0 t1 t2 t3 a)),(.cells [(.sl 4 1),(.sl 5 2),(.sl 6 2)]),(.cells [(.sl 7 1),(.sl 8 2),(.sl 9 2)]),(.arr 2 (List.map Zv r)),(.arr 1 []),(.arr 2 []),(.arr 2 []),(.arr 1 (List.map Zb r7.2.1)),(.arr 2 []),(.arr 2 (List.map Zar r7.2.2))])
theorem Zn8 {t0:Bool}{t1:Bool}{t2:Bool}{t3:Bool}{a:Zi}{r7:((List Zn)×(List Int)×(List Zh))}:∀(s8:Int×(List Zn)) (r:(List Zn)),lp (Zdn a) s8=some r→lpW ctx 0 [1,2,3,4,8] [1,2,3,4] ZBs [(.ptr 0 0),(.ptr 1 0),(.ptr 2 0),(.sl 3 2),(.d (Zb s8.1))] [(.cells (dV t0 t1 t2 t3 a)),(.cells [(.sl 4 1),(.sl 5 2),(.sl 6 2)]),(.cells [(.sl 7 1),(.sl 8 2),(.sl 9 2)]),(.arr 2 (List.map Zv s8.2)),(.arr 1 []),(.arr 2 []),(.arr 2 []),(.arr 1 (List.map Zb r7.2.1)),(.arr 2 []),(.arr 2 (List.map Zar r7.2.2))]=some ((Zju t0 t1 t2 t3 a r7) r):=by
 refine Z1 (Zju t0 t1 t2 t3 a r7) ?_
 intro s8 rcl ih
 show ZG _ _ (lpW _ _ _ _ _ _ _)
 unfold Zdn
 rw[Z2]
 conv=>arg 3;whnf
 refine Zk (Zt _ _) ?_;conv=>arg 3;whnf
 refine Zd rfl ?_ ?_<;>conv=>arg 3;whnf
 ·refine Zl rfl rfl fun x9 hx9=>?_;conv=>arg 3;whnf
  refine Zj _ ZgL rfl fun x10 hx10=>?_;conv=>arg 3;whnf
  refine Zg (Za7 rfl hx9) ?_;conv=>arg 3;whnf
  refine Zj _ Zet rfl fun x11 hx11=>?_;conv=>arg 3;whnf
  refine Zah rfl ?_;conv=>arg 3;whnf
  refine Zd (Zcg Zv s8.2 1) ?_ ?_
  ·conv=>arg 3;whnf
   refine Zk (Zcf Zv s8.2 [(Zn.mk x10 x11)]) ?_;conv=>arg 3;whnf
   exact Zf (ih _)
  ·exact ZQ
 ·exact Zc rfl
def Zj1 (t0:Bool) (t1:Bool) (t2:Bool) (t3:Bool) (a:Zi) (r7:((List Zn)×(List Int)×(List Zh))):(List Zn)→Ex×List V×Zp
  | r=>(.exit 6,[(.ptr 0 0),(.ptr 1 0),(.ptr 2 0),(.sl 3 2)],[(.cells (dV t0 t1 t2 t3 a)),(.cells [(.sl 4 1),(.sl 5 2),(.sl 6 2)]),(.cells [(.sl 7 1),(.sl 8 2),(.sl 9 2)]),(.arr 2 (List.map Zv r)),(.arr 1 []),(.arr 2 []),(.arr 2 []),(.arr 1 (List.map Zb r7.2.1)),(.arr 2 []),(.arr 2 (List.map Zar r7.2.2))])
theorem Zoa {t0:Bool}{t1:Bool}{t2:Bool}{t3:Bool}{a:Zi}{r7:((List Zn)×(List Int)×(List Zh))}:∀(s13:Int×(List Zn)) (r:(List Zn)),lp (Zdf a) s13=some r→lpW ctx 0 [1,2,3,4,9] [1,2,3,4] ZAp [(.ptr 0 0),(.ptr 1 0),(.ptr 2 0),(.sl 3 2),(.d (Zb s13.1))] [(.cells (dV t0 t1 t2 t3 a)),(.cells [(.sl 4 1),(.sl 5 2),(.sl 6 2)]),(.cells [(.sl 7 1),(.sl 8 2),(.sl 9 2)]),(.arr 2 (List.map Zv s13.2)),(.arr 1 []),(.arr 2 []),(.arr 2 []),(.arr 1 (List.map Zb r7.2.1)),(.arr 2 []),(.arr 2 (List.map Zar r7.2.2))]=some ((Zj1 t0 t1 t2 t3 a r7) r):=by
 refine Z1 (Zj1 t0 t1 t2 t3 a r7) ?_
 intro s13 rcl ih
 show ZG _ _ (lpW _ _ _ _ _ _ _)
 unfold Zdf
 rw[Z2]
 conv=>arg 3;whnf
 refine Zk (Zt _ _) ?_;conv=>arg 3;whnf
 refine Zd rfl ?_ ?_<;>conv=>arg 3;whnf
 ·refine Zl rfl rfl fun x14 hx14=>?_;conv=>arg 3;whnf
  refine Zj _ ZgL rfl fun x15 hx15=>?_;conv=>arg 3;whnf
  refine Zg (Za7 rfl hx14) ?_;conv=>arg 3;whnf
  refine Zj _ ZqL rfl fun x16 hx16=>?_;conv=>arg 3;whnf
  refine Zah rfl ?_;conv=>arg 3;whnf
  refine Zd (Zcg Zv s13.2 1) ?_ ?_
  ·conv=>arg 3;whnf
   refine Zk (Zcf Zv s13.2 [(Zn.mk x15 x16)]) ?_;conv=>arg 3;whnf
   exact Zf (ih _)
  ·exact ZQ
 ·exact Zc rfl
def Zj4 (t0:Bool) (t1:Bool) (t2:Bool) (t3:Bool) (a:Zi) (s18:Int×(List Zn)×(List Int)×(List Zh)) (x19:Zs):(List Zn)→Ex×List V×Zp
  | r=>(.exit 10,[(.ptr 0 0),(.ptr 1 0),(.ptr 2 0),(.sl 3 2),(.d (Zb s18.1)),(.d (Zb (s18.2.2.2.length:Int))),(.ptr 4 0)],[(.cells (dV t0 t1 t2 t3 a)),(.cells [(.sl 5 1),(.sl 6 2),(.sl 7 2)]),(.cells [(.sl 8 1),(.sl 9 2),(.sl 10 2)]),(.arr 2 (List.map Zv r)),(.cells [(.d (D.list true (List.map Zb x19.ins))),(.d (D.list true (List.map Zb x19.outs)))]),(.arr 1 []),(.arr 2 []),(.arr 2 []),(.arr 1 (List.map Zb (s18.2.2.1++[1]))),(.arr 2 []),(.arr 2 (List.map Zar (s18.2.2.2++[(Zh.mk (-1) s18.1)])))])
theorem Zn9 {t0:Bool}{t1:Bool}{t2:Bool}{t3:Bool}{a:Zi}{s18:Int×(List Zn)×(List Int)×(List Zh)}{x19:Zs}:∀(s20:Int×(List Zn)) (r:(List Zn)),lp (Zez a s18 x19) s20=some r→lpW ctx 0 [1,2,3,4,10,11,12,13] [1,2,3,4,10,11,12] ZA6 [(.ptr 0 0),(.ptr 1 0),(.ptr 2 0),(.sl 3 2),(.d (Zb s18.1)),(.d (Zb (s18.2.2.2.length:Int))),(.ptr 4 0),(.d (Zb s20.1))] [(.cells (dV t0 t1 t2 t3 a)),(.cells [(.sl 5 1),(.sl 6 2),(.sl 7 2)]),(.cells [(.sl 8 1),(.sl 9 2),(.sl 10 2)]),(.arr 2 (List.map Zv s20.2)),(.cells [(.d (D.list true (List.map Zb x19.ins))),(.d (D.list true (List.map Zb x19.outs)))]),(.arr 1 []),(.arr 2 []),(.arr 2 []),(.arr 1 (List.map Zb (s18.2.2.1++[1]))),(.arr 2 []),(.arr 2 (List.map Zar (s18.2.2.2++[(Zh.mk (-1) s18.1)])))]=some ((Zj4 t0 t1 t2 t3 a s18 x19) r):=by
 refine Z1 (Zj4 t0 t1 t2 t3 a s18 x19) ?_
 intro s20 rcl ih
 show ZG _ _ (lpW _ _ _ _ _ _ _)
 unfold Zez
 rw[Z2]
 conv=>arg 3;whnf
 refine Zk (Zt _ _) ?_;conv=>arg 3;whnf
 refine Zd rfl ?_ ?_<;>conv=>arg 3;whnf
 ·refine Zl rfl rfl fun x21 hx21=>?_;conv=>arg 3;whnf
  refine Zj _ ZgL rfl fun x22 hx22=>?_;conv=>arg 3;whnf
  refine Zah rfl ?_;conv=>arg 3;whnf
  refine Zd (Zcg Zv s20.2 1) ?_ ?_
  ·conv=>arg 3;whnf
   refine Zk (Zcf Zv s20.2 [(Zn.mk x22 (s18.2.2.2.length:Int))]) ?_;conv=>arg 3;whnf
   exact Zf (ih _)
  ·exact ZQ
 ·exact Zc rfl
def Zjz (t0:Bool) (t1:Bool) (t2:Bool) (t3:Bool) (a:Zi) (s18:Int×(List Zn)×(List Int)×(List Zh)) (x19:Zs):(List Zn)→Ex×List V×Zp
  | r=>(.exit 12,[(.ptr 0 0),(.ptr 1 0),(.ptr 2 0),(.sl 3 2),(.d (Zb s18.1))],[(.cells (dV t0 t1 t2 t3 a)),(.cells [(.sl 4 1),(.sl 5 2),(.sl 6 2)]),(.cells [(.sl 7 1),(.sl 8 2),(.sl 9 2)]),(.arr 2 (List.map Zv r)),(.arr 1 []),(.arr 2 []),(.arr 2 []),(.arr 1 (List.map Zb (s18.2.2.1++[1]))),(.arr 2 []),(.arr 2 (List.map Zar (s18.2.2.2++[(Zh.mk (-1) s18.1)])))])
theorem Zon {t0:Bool}{t1:Bool}{t2:Bool}{t3:Bool}{a:Zi}{s18:Int×(List Zn)×(List Int)×(List Zh)}{x19:Zs}:∀(s24:Int×(List Zn)) (r:(List Zn)),lp (Zec a s18 x19) s24=some r→lpW ctx 0 [1,2,3,4,10,11,12,14] [1,2,3,4,10] ZBW [(.ptr 0 0),(.ptr 1 0),(.ptr 2 0),(.sl 3 2),(.d (Zb s18.1)),(.d (Zb (s18.2.2.2.length:Int))),(.ptr 4 0),(.d (Zb s24.1))] [(.cells (dV t0 t1 t2 t3 a)),(.cells [(.sl 5 1),(.sl 6 2),(.sl 7 2)]),(.cells [(.sl 8 1),(.sl 9 2),(.sl 10 2)]),(.arr 2 (List.map Zv s24.2)),(.cells [(.d (D.list true (List.map Zb x19.ins))),(.d (D.list true (List.map Zb x19.outs)))]),(.arr 1 []),(.arr 2 []),(.arr 2 []),(.arr 1 (List.map Zb (s18.2.2.1++[1]))),(.arr 2 []),(.arr 2 (List.map Zar (s18.2.2.2++[(Zh.mk (-1) s18.1)])))]=some ((Zjz t0 t1 t2 t3 a s18 x19) r):=by
 refine Z1 (Zjz t0 t1 t2 t3 a s18 x19) ?_
 intro s24 rcl ih
 show ZG _ _ (lpW _ _ _ _ _ _ _)
 unfold Zec
 rw[Z2]
 conv=>arg 3;whnf
 refine Zk (Zt _ _) ?_;conv=>arg 3;whnf
 refine Zd rfl ?_ ?_<;>conv=>arg 3;whnf
 ·refine Zl rfl rfl fun x25 hx25=>?_;conv=>arg 3;whnf
  refine Zj _ Zet rfl fun x26 hx26=>?_;conv=>arg 3;whnf
  refine Zah rfl ?_;conv=>arg 3;whnf
  refine Zd (Zcg Zv s24.2 1) ?_ ?_
  ·conv=>arg 3;whnf
   refine Zk (Zcf Zv s24.2 [(Zn.mk (s18.2.2.2.length:Int) x26)]) ?_;conv=>arg 3;whnf
   exact Zf (ih _)
  ·exact ZQ
 ·exact Zc rfl
def ZjV (t0:Bool) (t1:Bool) (t2:Bool) (t3:Bool) (a:Zi):((List Zn)×(List Int)×(List Zh))→Ex×List V×Zp
  | r=>(.exit 8,[(.ptr 0 0),(.ptr 1 0),(.sl 2 2)],[(.cells [(.sl 3 1),(.sl 4 2),(.sl 5 2)]),(.cells [(.sl 6 1),(.sl 7 2),(.sl 8 2)]),(.arr 2 (List.map Zv r.1)),(.arr 1 []),(.arr 2 []),(.arr 2 []),(.arr 1 (List.map Zb r.2.1)),(.arr 2 []),(.arr 2 (List.map Zar r.2.2))])
theorem Zoh {t0:Bool}{t1:Bool}{t2:Bool}{t3:Bool}{a:Zi}:∀(s18:Int×(List Zn)×(List Int)×(List Zh)) (r:((List Zn)×(List Int)×(List Zh))),lp (Zdd a) s18=some r→lpW ctx 0 [1,2,3,4,10] [2,3,4] ZAk [(.ptr 0 0),(.ptr 1 0),(.ptr 2 0),(.sl 3 2),(.d (Zb s18.1))] [(.cells (dV t0 t1 t2 t3 a)),(.cells [(.sl 4 1),(.sl 5 2),(.sl 6 2)]),(.cells [(.sl 7 1),(.sl 8 2),(.sl 9 2)]),(.arr 2 (List.map Zv s18.2.1)),(.arr 1 []),(.arr 2 []),(.arr 2 []),(.arr 1 (List.map Zb s18.2.2.1)),(.arr 2 []),(.arr 2 (List.map Zar s18.2.2.2))]=some ((ZjV t0 t1 t2 t3 a) r):=by
 refine Z1 (ZjV t0 t1 t2 t3 a) ?_
 intro s18 rcl ih
 show ZG _ _ (lpW _ _ _ _ _ _ _)
 unfold Zdd
 rw[Z2]
 conv=>arg 3;whnf
 refine Zk (Zt _ _) ?_;conv=>arg 3;whnf
 refine Zd rfl ?_ ?_<;>conv=>arg 3;whnf
 ·refine Zk (Zt _ _) ?_;conv=>arg 3;whnf
  refine Zah rfl ?_;conv=>arg 3;whnf
  refine Zd (Zcg Zar s18.2.2.2 1) ?_ ?_
  ·conv=>arg 3;whnf
   refine Zk (Zcf Zar s18.2.2.2 [(Zh.mk (-1) s18.1)]) ?_;conv=>arg 3;whnf
   refine Zah rfl ?_;conv=>arg 3;whnf
   refine Zd (Zcg Zb s18.2.2.1 1) ?_ ?_
   ·conv=>arg 3;whnf
    refine Zk (Zcf Zb s18.2.2.1 [1]) ?_;conv=>arg 3;whnf
    refine Zl rfl rfl fun x19 hx19=>?_;conv=>arg 3;whnf
    refine Ze _ (Zn9 _) fun r23 hr23=>?_;conv=>arg 3;whnf
    refine Ze _ (Zon _) fun r27 hr27=>?_;conv=>arg 3;whnf
    exact Zf (ih _)
   ·exact ZQ
  ·exact ZQ
 ·exact Zc rfl
theorem ZkT {t0:Bool}{t1:Bool}{t2:Bool}{t3:Bool}{a:Zi}:∀r,(Zf9 a)=some r→evD ctx 40 [(.d (D.agg (dA t0 t1 t2 t3 a)))]=some (Zmw r):=by
 show ZG _ (fun r rhs=>rhs=some (Zmw r)) _
 unfold Zf9
 rw[Z4 ctx 40 ZEa _ rfl rfl]
 conv=>arg 3;whnf
 refine Ze _ (Zol _) fun r7 hr7=>?_;conv=>arg 3;whnf
 refine Ze _ (Zn8 _) fun r12 hr12=>?_;conv=>arg 3;whnf
 refine Ze _ (Zoa _) fun r17 hr17=>?_;conv=>arg 3;whnf
 refine Ze _ (Zoh _) fun r28 hr28=>?_;conv=>arg 3;whnf
 exact Zc rfl
def ZmT (r:Bool):D:=(D.bool r)
theorem Zma {t0:Bool}{t1:Bool}{a:Zan}{b:Int}:∀r,(ZgO a b)=some r→evD ctx 112 [(.d (D.agg [(D.list t0 (List.map Zb a.work)),(D.list t1 (List.map Zv a.edges))])),(.d (Zb b))]=some (ZmT r):=by
 show ZG _ (fun r rhs=>rhs=some (ZmT r)) _
 unfold ZgO
 rw[Z4 ctx 112 ZCf _ rfl rfl]
 conv=>arg 3;whnf
 refine Zd rfl ?_ ?_<;>conv=>arg 3;whnf
 ·refine Zk (Zt _ _) ?_;conv=>arg 3;whnf
  refine Zd rfl ?_ ?_<;>conv=>arg 3;whnf
  ·exact Zc rfl
  ·exact Zc rfl
 ·exact Zc rfl
def Zmt (r:Int):D:=(Zb r)
def ZjQ (t0:Bool) (t1:Bool) (a:Zan):(Unit⊕Unit)→Ex×List V×Zp
  | (.inl r)=>(.ret,[(.ptr 0 0),(.d (Zb 41))],[(.cells [(.d (D.list t0 (List.map Zb a.work))),(.d (D.list t1 (List.map Zv a.edges)))])])
  | (.inr r)=>(.exit 0,[(.ptr 0 0),.bad],[(.cells [(.d (D.list t0 (List.map Zb a.work))),(.d (D.list t1 (List.map Zv a.edges)))])])
theorem Zor {t0:Bool}{t1:Bool}{a:Zan}:∀(s0:Int) (r:(Unit⊕Unit)),lp (Zee a) s0=some r→lpW ctx 0 [1,3] [1,2] ZzU [(.ptr 0 0),(.d (Zb s0))] [(.cells [(.d (D.list t0 (List.map Zb a.work))),(.d (D.list t1 (List.map Zv a.edges)))])]=some ((ZjQ t0 t1 a) r):=by
 refine Z1 (ZjQ t0 t1 a) ?_
 intro s0 rcl ih
 show ZG _ _ (lpW _ _ _ _ _ _ _)
 unfold Zee
 rw[Z2]
 conv=>arg 3;whnf
 refine Zk (Zt _ _) ?_;conv=>arg 3;whnf
 refine Zd rfl ?_ ?_<;>conv=>arg 3;whnf
 ·refine Zl rfl rfl fun x1 hx1=>?_;conv=>arg 3;whnf
  refine Zd rfl ?_ ?_<;>conv=>arg 3;whnf
  ·exact Zc rfl
  ·refine Zg (Za7 rfl hx1) ?_;conv=>arg 3;whnf
   refine Zd rfl ?_ ?_<;>conv=>arg 3;whnf
   ·exact Zc rfl
   ·exact Zf (ih _)
 ·exact Zc rfl
def ZjE (t0:Bool) (t1:Bool) (a:Zan) (s3:Int) (x4:Zn):(Unit⊕Unit)→Ex×List V×Zp
  | (.inl r)=>(.ret,[(.ptr 0 0),(.d (Zb 42)),(.d (Zb s3))],[(.cells [(.d (D.list t0 (List.map Zb a.work))),(.d (D.list t1 (List.map Zv a.edges)))])])
  | (.inr r)=>(.exit 4,[(.ptr 0 0),.bad,(.d (Zb s3))],[(.cells [(.d (D.list t0 (List.map Zb a.work))),(.d (D.list t1 (List.map Zv a.edges)))])])
theorem Zn1 {t0:Bool}{t1:Bool}{a:Zan}{s3:Int}{x4:Zn}:∀(s7:Int) (r:(Unit⊕Unit)),lp (Zeu a s3 x4) s7=some r→lpW ctx 0 [1,4,5,6] [1,2,4] ZBI [(.ptr 0 0),(.d (Zb s3)),(.ptr 1 0),(.d (Zb s7))] [(.cells [(.d (D.list t0 (List.map Zb a.work))),(.d (D.list t1 (List.map Zv a.edges)))]),(.cells [(.d (Zb x4.src)),(.d (Zb x4.dst))])]=some ((ZjE t0 t1 a s3 x4) r):=by
 refine Z1 (ZjE t0 t1 a s3 x4) ?_
 intro s7 rcl ih
 show ZG _ _ (lpW _ _ _ _ _ _ _)
 unfold Zeu
 rw[Z2]
 conv=>arg 3;whnf
 refine Zd rfl ?_ ?_<;>conv=>arg 3;whnf
 ·refine Zl rfl rfl fun x8 hx8=>?_;conv=>arg 3;whnf
  refine Zd rfl ?_ ?_<;>conv=>arg 3;whnf
  ·exact Zc rfl
  ·exact Zf (ih _)
 ·exact Zc rfl
def ZjN (t0:Bool) (t1:Bool) (a:Zan):(Unit⊕Unit)→Ex×List V×Zp
  | (.inl r)=>(.ret,[(.d (Zb 42))],[])
  | (.inr r)=>(.exit 2,[.bad],[])
theorem Zoi {t0:Bool}{t1:Bool}{a:Zan}:∀(s3:Int) (r:(Unit⊕Unit)),lp (Zei a) s3=some r→lpW ctx 0 [1,4] [2] ZBu [(.ptr 0 0),(.d (Zb s3))] [(.cells [(.d (D.list t0 (List.map Zb a.work))),(.d (D.list t1 (List.map Zv a.edges)))])]=some ((ZjN t0 t1 a) r):=by
 refine Z1 (ZjN t0 t1 a) ?_
 intro s3 rcl ih
 show ZG _ _ (lpW _ _ _ _ _ _ _)
 unfold Zei
 rw[Z2]
 conv=>arg 3;whnf
 refine Zk (Zt _ _) ?_;conv=>arg 3;whnf
 refine Zd rfl ?_ ?_<;>conv=>arg 3;whnf
 ·refine Zl rfl rfl fun x4 hx4=>?_;conv=>arg 3;whnf
  refine Zj _ Zma rfl fun x5 hx5=>?_;conv=>arg 3;whnf
  refine Zd rfl ?_ ?_<;>conv=>arg 3;whnf
  ·refine Zj _ Zma rfl fun x6 hx6=>?_;conv=>arg 3;whnf
   refine Zd rfl ?_ ?_<;>conv=>arg 3;whnf
   ·refine Zd rfl ?_ ?_<;>conv=>arg 3;whnf
    ·exact Zc rfl
    ·refine Ze _ (Zn1 _) fun r9 hr9=>?_
     clear hr9
     rcases r9 with r9 | r9
     ·conv=>arg 3;whnf
      exact Zc rfl
     ·conv=>arg 3;whnf
      exact Zf (ih _)
   ·exact Zc rfl
  ·exact Zc rfl
 ·exact Zc rfl
theorem ZqX {t0:Bool}{t1:Bool}{a:Zan}:∀r,(Zhf a)=some r→evD ctx 96 [(.d (D.agg [(D.list t0 (List.map Zb a.work)),(D.list t1 (List.map Zv a.edges))]))]=some (Zmt r):=by
 show ZG _ (fun r rhs=>rhs=some (Zmt r)) _
 unfold Zhf
 rw[Z4 ctx 96 ZEy _ rfl rfl]
 conv=>arg 3;whnf
 refine Zk (Zt _ _) ?_;conv=>arg 3;whnf
 refine Zd rfl ?_ ?_<;>conv=>arg 3;whnf
 ·exact Zc rfl
 ·refine Zk (Zt _ _) ?_;conv=>arg 3;whnf
  refine Zd rfl ?_ ?_<;>conv=>arg 3;whnf
  ·exact Zc rfl
  ·refine Ze _ (Zor _) fun r2 hr2=>?_
   clear hr2
   rcases r2 with r2 | r2
   ·conv=>arg 3;whnf
    exact Zc rfl
   ·conv=>arg 3;whnf
    refine Ze _ (Zoi _) fun r10 hr10=>?_
    clear hr10
    rcases r10 with r10 | r10
    ·conv=>arg 3;whnf
     exact Zc rfl
    ·conv=>arg 3;whnf
     exact Zc rfl
def Zml (r:(List Bool)):D:=(D.list true (List.map D.bool r))
def Zj6 (t0:Bool) (t1:Bool) (a:Zan) (b:Int) (s0:Int×(List Bool)):(List Bool)→Ex×List V×Zp
  | r=>(.exit 2,[(.d (Zb b)),(.ptr 0 0),(.sl 1 1),(.d (Zb s0.1))],[(.cells [(.d (D.list t0 (List.map Zb a.work))),(.d (D.list t1 (List.map Zv a.edges)))]),(.arr 1 (List.map D.bool r))])
theorem ZnY {t0:Bool}{t1:Bool}{a:Zan}{b:Int}{s0:Int×(List Bool)}:∀(s1:Int×(List Bool)) (r:(List Bool)),lp (Zds a b) s1=some r→lpW ctx 0 [1,2,5,6,7] [1,2,5,6] ZzK [(.d (Zb b)),(.ptr 0 0),(.sl 1 1),(.d (Zb s0.1)),(.d (Zb s1.1))] [(.cells [(.d (D.list t0 (List.map Zb a.work))),(.d (D.list t1 (List.map Zv a.edges)))]),(.arr 1 (List.map D.bool s1.2))]=some ((Zj6 t0 t1 a b s0) r):=by
 refine Z1 (Zj6 t0 t1 a b s0) ?_
 intro s1 rcl ih
 show ZG _ _ (lpW _ _ _ _ _ _ _)
 unfold Zds
 rw[Z2]
 conv=>arg 3;whnf
 refine Zk (Zt _ _) ?_;conv=>arg 3;whnf
 refine Zd rfl ?_ ?_<;>conv=>arg 3;whnf
 ·refine Zl rfl rfl fun x2 hx2=>?_;conv=>arg 3;whnf
  refine Zd rfl ?_ ?_<;>conv=>arg 3;whnf
  ·refine Zl rfl rfl fun x3 hx3=>?_;conv=>arg 3;whnf
   refine Zg (ZD rfl hx3) ?_;conv=>arg 3;whnf
   refine Zk (ZaE D.bool s1.2 x2.dst.toNat true) ?_;conv=>arg 3;whnf
   exact Zf (ih _)
  ·refine Zl rfl rfl fun x4 hx4=>?_;conv=>arg 3;whnf
   refine Zg (ZD rfl hx4) ?_;conv=>arg 3;whnf
   refine Zd rfl ?_ ?_<;>conv=>arg 3;whnf
   ·refine Zl rfl rfl fun x5 hx5=>?_;conv=>arg 3;whnf
    refine Zg (ZD rfl hx5) ?_;conv=>arg 3;whnf
    refine Zk (ZaE D.bool s1.2 x2.dst.toNat true) ?_;conv=>arg 3;whnf
    exact Zf (ih _)
   ·exact Zf (ih _)
 ·exact Zc rfl
def ZjK (t0:Bool) (t1:Bool) (a:Zan) (b:Int):(List Bool)→Ex×List V×Zp
  | r=>(.exit 0,[(.sl 0 1)],[(.arr 1 (List.map D.bool r))])
theorem Zn0 {t0:Bool}{t1:Bool}{a:Zan}{b:Int}:∀(s0:Int×(List Bool)) (r:(List Bool)),lp (Zdg a b) s0=some r→lpW ctx 0 [1,2,5,6] [5] ZBU [(.d (Zb b)),(.ptr 0 0),(.sl 1 1),(.d (Zb s0.1))] [(.cells [(.d (D.list t0 (List.map Zb a.work))),(.d (D.list t1 (List.map Zv a.edges)))]),(.arr 1 (List.map D.bool s0.2))]=some ((ZjK t0 t1 a b) r):=by
 refine Z1 (ZjK t0 t1 a b) ?_
 intro s0 rcl ih
 show ZG _ _ (lpW _ _ _ _ _ _ _)
 unfold Zdg
 rw[Z2]
 conv=>arg 3;whnf
 refine Zk (Zt _ _) ?_;conv=>arg 3;whnf
 refine Zd rfl ?_ ?_<;>conv=>arg 3;whnf
 ·refine Ze _ (ZnY _) fun r6 hr6=>?_;conv=>arg 3;whnf
  exact Zf (ih _)
 ·exact Zc rfl
theorem ZqR {t0:Bool}{t1:Bool}{a:Zan}{b:Int}:∀r,(Zhl a b)=some r→evD ctx 97 [(.d (D.agg [(D.list t0 (List.map Zb a.work)),(D.list t1 (List.map Zv a.edges))])),(.d (Zb b))]=some (Zml r):=by
 show ZG _ (fun r rhs=>rhs=some (Zml r)) _
 unfold Zhl
 rw[Z4 ctx 97 ZEV _ rfl rfl]
 conv=>arg 3;whnf
 refine Zk (Zt _ _) ?_;conv=>arg 3;whnf
 refine Zd rfl ?_ ?_
 ·conv=>arg 3;whnf
  refine Zk (Zyh D.bool (false:Bool) (a.work.length:Int)) ?_;conv=>arg 3;whnf
  refine Ze _ (Zn0 _) fun r7 hr7=>?_;conv=>arg 3;whnf
  exact Zc rfl
 ·exact ZQ
def ZmB (r:Int):D:=(Zb r)
def ZjC (t0:Bool) (t1:Bool) (a:Zan):(Unit⊕Unit)→Ex×List V×Zp
  | (.inl r)=>(.ret,[(.d (Zb 43))],[])
  | (.inr r)=>(.exit 0,[.bad],[])
theorem Zn7 {t0:Bool}{t1:Bool}{a:Zan}:∀(s1:Int) (r:(Unit⊕Unit)),lp (Zem a) s1=some r→lpW ctx 0 [1,4] [2] ZAv [(.ptr 0 0),(.d (Zb s1))] [(.cells [(.d (D.list t0 (List.map Zb a.work))),(.d (D.list t1 (List.map Zv a.edges)))])]=some ((ZjC t0 t1 a) r):=by
 refine Z1 (ZjC t0 t1 a) ?_
 intro s1 rcl ih
 show ZG _ _ (lpW _ _ _ _ _ _ _)
 unfold Zem
 rw[Z2]
 conv=>arg 3;whnf
 refine Zk (Zt _ _) ?_;conv=>arg 3;whnf
 refine Zd rfl ?_ ?_<;>conv=>arg 3;whnf
 ·refine Zj _ ZqR rfl fun x2 hx2=>?_;conv=>arg 3;whnf
  refine Zl rfl rfl fun x3 hx3=>?_;conv=>arg 3;whnf
  refine Zd rfl ?_ ?_<;>conv=>arg 3;whnf
  ·exact Zc rfl
  ·exact Zf (ih _)
 ·exact Zc rfl
theorem ZqF {t0:Bool}{t1:Bool}{a:Zan}:∀r,(Zg5 a)=some r→evD ctx 63 [(.d (D.agg [(D.list t0 (List.map Zb a.work)),(D.list t1 (List.map Zv a.edges))]))]=some (ZmB r):=by
 show ZG _ (fun r rhs=>rhs=some (ZmB r)) _
 unfold Zg5
 rw[Z4 ctx 63 ZE1 _ rfl rfl]
 conv=>arg 3;whnf
 refine Zj _ ZqX rfl fun x0 hx0=>?_;conv=>arg 3;whnf
 refine Zd rfl ?_ ?_<;>conv=>arg 3;whnf
 ·exact Zc rfl
 ·refine Ze _ (Zn7 _) fun r4 hr4=>?_
  clear hr4
  rcases r4 with r4 | r4
  ·conv=>arg 3;whnf
   exact Zc rfl
  ·conv=>arg 3;whnf
   exact Zc rfl
def Zmb (r:(Zi7×Int)):D:=(D.tup [(D.agg [(D.list true (List.map Zb r.1.dag.work)),(D.list true (List.map Zv r.1.dag.edges)),(D.list true (List.map Zar r.1.pieces))]),(Zb r.2)])
theorem ZqK {t0:Bool}{t1:Bool}{t2:Bool}{t3:Bool}{a:Zi}:∀r,(Zg4 a)=some r→evD ctx 35 [(.d (D.agg (dA t0 t1 t2 t3 a)))]=some (Zmb r):=by
 show ZG _ (fun r rhs=>rhs=some (Zmb r)) _
 unfold Zg4
 rw[Z4 ctx 35 ZFb _ rfl rfl]
 conv=>arg 3;whnf
 refine Zj _ ZqH rfl fun x0 hx0=>?_;conv=>arg 3;whnf
 refine Zd rfl ?_ ?_<;>conv=>arg 3;whnf
 ·exact Zc rfl
 ·refine Zj _ ZkT rfl fun x1 hx1=>?_;conv=>arg 3;whnf
  refine Zj _ ZqF rfl fun x2 hx2=>?_;conv=>arg 3;whnf
  refine Zd rfl ?_ ?_<;>conv=>arg 3;whnf
  ·exact Zc rfl
  ·exact Zc rfl
def Zl9 (r:Int):D:=(Zb r)
def ZjT (t4:Bool) (t5:Bool) (b:Zy) (x0:(Zi7×Int)):(Unit⊕Unit)→Ex×List V×Zp
  | (.inl r)=>(.ret,[(.d (Zb 80))],[])
  | (.inr r)=>(.exit 0,[.bad],[])
theorem ZnS {t4:Bool}{t5:Bool}{b:Zy}{x0:(Zi7×Int)}:∀(s1:Int) (r:(Unit⊕Unit)),lp (Zex b x0) s1=some r→lpW ctx 0 [3,5,7] [4] ZzM [(.ptr 0 0),(.ptr 1 0),(.d (Zb s1))] [(.cells [(.d (D.list t4 (List.map D.bool b.done))),(.d (D.list t5 (List.map Zb b.vals)))]),(.cells [(.d (D.list true (List.map Zb x0.1.dag.work))),(.d (D.list true (List.map Zv x0.1.dag.edges))),(.d (D.list true (List.map Zar x0.1.pieces)))])]=some ((ZjT t4 t5 b x0) r):=by
 refine Z1 (ZjT t4 t5 b x0) ?_
 intro s1 rcl ih
 show ZG _ _ (lpW _ _ _ _ _ _ _)
 unfold Zex
 rw[Z2]
 conv=>arg 3;whnf
 refine Zk (Zt _ _) ?_;conv=>arg 3;whnf
 refine Zd rfl ?_ ?_<;>conv=>arg 3;whnf
 ·refine Zl rfl rfl fun x2 hx2=>?_;conv=>arg 3;whnf
  refine Zl rfl rfl fun x3 hx3=>?_;conv=>arg 3;whnf
  refine Zd rfl ?_ ?_<;>conv=>arg 3;whnf
  ·refine Zg (Za7 rfl hx2) ?_;conv=>arg 3;whnf
   refine Zl rfl rfl fun x4 hx4=>?_;conv=>arg 3;whnf
   refine Zd rfl ?_ ?_<;>conv=>arg 3;whnf
   ·exact Zf (ih _)
   ·exact Zc rfl
  ·exact Zf (ih _)
 ·exact Zc rfl
theorem Zlk {t0:Bool}{t1:Bool}{t2:Bool}{t3:Bool}{t4:Bool}{t5:Bool}{a:Zi}{b:Zy}:∀r,(Zf6 a b)=some r→evD ctx 12 [(.d (D.agg (dA t0 t1 t2 t3 a))),(.d (D.agg [(D.list t4 (List.map D.bool b.done)),(D.list t5 (List.map Zb b.vals))]))]=some (Zl9 r):=by
 show ZG _ (fun r rhs=>rhs=some (Zl9 r)) _
 unfold Zf6
 rw[Z4 ctx 12 ZEL _ rfl rfl]
 conv=>arg 3;whnf
 refine Zj _ ZqK rfl fun x0 hx0=>?_;conv=>arg 3;whnf
 refine Zd rfl ?_ ?_<;>conv=>arg 3;whnf
 ·exact Zc rfl
 ·refine Zk (Zt _ _) ?_;conv=>arg 3;whnf
  refine Zk (Zt _ _) ?_;conv=>arg 3;whnf
  refine Zd rfl ?_ ?_<;>conv=>arg 3;whnf
  ·exact Zc rfl
  ·refine Zk (Zt _ _) ?_;conv=>arg 3;whnf
   refine Zk (Zt _ _) ?_;conv=>arg 3;whnf
   refine Zd rfl ?_ ?_<;>conv=>arg 3;whnf
   ·exact Zc rfl
   ·refine Ze _ (ZnS _) fun r5 hr5=>?_
    clear hr5
    rcases r5 with r5 | r5
    ·conv=>arg 3;whnf
     exact Zc rfl
    ·conv=>arg 3;whnf
     exact Zc rfl
def ZmU (r:Bool):D:=(D.bool r)
def ZkF (t0:Bool) (t1:Bool) (a:Zan) (b:Int) (c:Int):(Unit⊕Unit)→Ex×List V×Zp
  | (.inl r)=>(.ret,[(.d (D.bool true))],[])
  | (.inr r)=>(.exit 0,[.bad],[])
theorem Zpg {t0:Bool}{t1:Bool}{a:Zan}{b:Int}{c:Int}:∀(s0:Int) (r:(Unit⊕Unit)),lp (Ze2 a b c) s0=some r→lpW ctx 0 [1,2,3,7] [6] ZCc [(.d (Zb b)),(.d (Zb c)),(.ptr 0 0),(.d (Zb s0))] [(.cells [(.d (D.list t0 (List.map Zb a.work))),(.d (D.list t1 (List.map Zv a.edges)))])]=some ((ZkF t0 t1 a b c) r):=by
 refine Z1 (ZkF t0 t1 a b c) ?_
 intro s0 rcl ih
 show ZG _ _ (lpW _ _ _ _ _ _ _)
 unfold Ze2
 rw[Z2]
 conv=>arg 3;whnf
 refine Zk (Zt _ _) ?_;conv=>arg 3;whnf
 refine Zd rfl ?_ ?_<;>conv=>arg 3;whnf
 ·refine Zl rfl rfl fun x1 hx1=>?_;conv=>arg 3;whnf
  refine Zd rfl ?_ ?_<;>conv=>arg 3;whnf
  ·refine Zg (Za7 rfl hx1) ?_;conv=>arg 3;whnf
   refine Zd rfl ?_ ?_<;>conv=>arg 3;whnf
   ·exact Zc rfl
   ·exact Zf (ih _)
  ·exact Zf (ih _)
 ·exact Zc rfl
theorem Zrw {t0:Bool}{t1:Bool}{a:Zan}{b:Int}{c:Int}:∀r,(ZhH a b c)=some r→evD ctx 90 [(.d (D.agg [(D.list t0 (List.map Zb a.work)),(D.list t1 (List.map Zv a.edges))])),(.d (Zb b)),(.d (Zb c))]=some (ZmU r):=by
 show ZG _ (fun r rhs=>rhs=some (ZmU r)) _
 unfold ZhH
 rw[Z4 ctx 90 ZFn _ rfl rfl]
 conv=>arg 3;whnf
 refine Ze _ (Zpg _) fun r2 hr2=>?_
 clear hr2
 rcases r2 with r2 | r2
 ·conv=>arg 3;whnf
  exact Zc rfl
 ·conv=>arg 3;whnf
  exact Zc rfl
def ZmA (r:(List Int)):D:=(D.list true (List.map Zb r))
def ZjL (t0:Bool) (t1:Bool) (a:Zan) (b:Int):(List Int)→Ex×List V×Zp
  | r=>(.exit 0,[(.sl 0 1)],[(.arr 1 (List.map Zb r))])
theorem ZnX {t0:Bool}{t1:Bool}{a:Zan}{b:Int}:∀(s0:Int×(List Int)) (r:(List Int)),lp (Zeq a b) s0=some r→lpW ctx 0 [1,2,5,6] [5] ZAD [(.d (Zb b)),(.ptr 0 0),(.sl 1 1),(.d (Zb s0.1))] [(.cells [(.d (D.list t0 (List.map Zb a.work))),(.d (D.list t1 (List.map Zv a.edges)))]),(.arr 1 (List.map Zb s0.2))]=some ((ZjL t0 t1 a b) r):=by
 refine Z1 (ZjL t0 t1 a b) ?_
 intro s0 rcl ih
 show ZG _ _ (lpW _ _ _ _ _ _ _)
 unfold Zeq
 rw[Z2]
 conv=>arg 3;whnf
 refine Zk (Zt _ _) ?_;conv=>arg 3;whnf
 refine Zd rfl ?_ ?_<;>conv=>arg 3;whnf
 ·refine Zj _ Zrw rfl fun x1 hx1=>?_;conv=>arg 3;whnf
  refine Zd rfl ?_ ?_<;>conv=>arg 3;whnf
  ·refine Zah rfl ?_;conv=>arg 3;whnf
   refine Zd (Zcg Zb s0.2 1) ?_ ?_
   ·conv=>arg 3;whnf
    refine Zk (Zcf Zb s0.2 [s0.1]) ?_;conv=>arg 3;whnf
    exact Zf (ih _)
   ·exact ZQ
  ·exact Zf (ih _)
 ·exact Zc rfl
theorem Zqw {t0:Bool}{t1:Bool}{a:Zan}{b:Int}:∀r,(Zhd a b)=some r→evD ctx 57 [(.d (D.agg [(D.list t0 (List.map Zb a.work)),(D.list t1 (List.map Zv a.edges))])),(.d (Zb b))]=some (ZmA r):=by
 show ZG _ (fun r rhs=>rhs=some (ZmA r)) _
 unfold Zhd
 rw[Z4 ctx 57 ZFv _ rfl rfl]
 conv=>arg 3;whnf
 refine Ze _ (ZnX _) fun r2 hr2=>?_;conv=>arg 3;whnf
 exact Zc rfl
def ZpQ (r:Bool):D:=(D.bool r)
def Zmi (t4:Bool) (t5:Bool) (b:Zy) (c:Int) (x1:(List Int)):(Unit⊕Unit)→Ex×List V×Zp
  | (.inl r)=>(.ret,[(.d (Zb c)),(.ptr 0 0),(.d (D.bool false))],[(.cells [(.d (D.list t4 (List.map D.bool b.done))),(.d (D.list t5 (List.map Zb b.vals)))])])
  | (.inr r)=>(.exit 0,[(.d (Zb c)),(.ptr 0 0),.bad],[(.cells [(.d (D.list t4 (List.map D.bool b.done))),(.d (D.list t5 (List.map Zb b.vals)))])])
theorem Zq0 {t4:Bool}{t5:Bool}{b:Zy}{c:Int}{x1:(List Int)}:∀(s2:Int) (r:(Unit⊕Unit)),lp (Zga b x1) s2=some r→lpW ctx 0 [2,4,7,8] [2,4,6] ZCg [(.d (Zb c)),(.ptr 0 0),(.d (D.list true (List.map Zb x1))),(.d (Zb s2))] [(.cells [(.d (D.list t4 (List.map D.bool b.done))),(.d (D.list t5 (List.map Zb b.vals)))])]=some ((Zmi t4 t5 b c x1) r):=by
 refine Z1 (Zmi t4 t5 b c x1) ?_
 intro s2 rcl ih
 show ZG _ _ (lpW _ _ _ _ _ _ _)
 unfold Zga
 rw[Z2]
 conv=>arg 3;whnf
 refine Zk (Zt _ _) ?_;conv=>arg 3;whnf
 refine Zd rfl ?_ ?_<;>conv=>arg 3;whnf
 ·refine Zl rfl rfl fun x3 hx3=>?_;conv=>arg 3;whnf
  refine Zl rfl rfl fun x4 hx4=>?_;conv=>arg 3;whnf
  refine Zd rfl ?_ ?_<;>conv=>arg 3;whnf
  ·exact Zf (ih _)
  ·exact Zc rfl
 ·exact Zc rfl
theorem Zox {t0:Bool}{t1:Bool}{t2:Bool}{t3:Bool}{t4:Bool}{t5:Bool}{a:Zi}{b:Zy}{c:Int}:∀r,(Zh5 a b c)=some r→evD ctx 31 [(.d (D.agg (dA t0 t1 t2 t3 a))),(.d (D.agg [(D.list t4 (List.map D.bool b.done)),(D.list t5 (List.map Zb b.vals))])),(.d (Zb c))]=some (ZpQ r):=by
 show ZG _ (fun r rhs=>rhs=some (ZpQ r)) _
 unfold Zh5
 rw[Z4 ctx 31 ZEM _ rfl rfl]
 conv=>arg 3;whnf
 refine Zj _ ZkT rfl fun x0 hx0=>?_;conv=>arg 3;whnf
 refine Zj _ Zqw rfl fun x1 hx1=>?_;conv=>arg 3;whnf
 refine Ze _ (Zq0 _) fun r5 hr5=>?_
 clear hr5
 rcases r5 with r5 | r5
 ·conv=>arg 3;whnf
  exact Zc rfl
 ·conv=>arg 3;whnf
  refine Zl rfl rfl fun x6 hx6=>?_;conv=>arg 3;whnf
  refine Zd rfl ?_ ?_<;>conv=>arg 3;whnf
  ·exact Zc rfl
  ·exact Zc rfl
def Zmr (r:(List Int)):D:=(D.list true (List.map Zb r))
def Zj0 (t0:Bool) (t1:Bool) (t2:Bool) (t3:Bool) (a:Zi) (b:Int):(List Int)→Ex×List V×Zp
  | r=>(.exit 0,[(.d (Zb b)),(.ptr 0 0),(.sl 1 1)],[(.cells (dV t0 t1 t2 t3 a)),(.arr 1 (List.map Zb r))])
theorem ZnU {t0:Bool}{t1:Bool}{t2:Bool}{t3:Bool}{a:Zi}{b:Int}:∀(s0:Int×(List Int)) (r:(List Int)),lp (ZgI a b) s0=some r→lpW ctx 0 [1,2,5,6] [1,2,5] ZA5 [(.d (Zb b)),(.ptr 0 0),(.sl 1 1),(.d (Zb s0.1))] [(.cells (dV t0 t1 t2 t3 a)),(.arr 1 (List.map Zb s0.2))]=some ((Zj0 t0 t1 t2 t3 a b) r):=by
 refine Z1 (Zj0 t0 t1 t2 t3 a b) ?_
 intro s0 rcl ih
 show ZG _ _ (lpW _ _ _ _ _ _ _)
 unfold ZgI
 rw[Z2]
 conv=>arg 3;whnf
 refine Zk (Zt _ _) ?_;conv=>arg 3;whnf
 refine Zd rfl ?_ ?_<;>conv=>arg 3;whnf
 ·refine Zl rfl rfl fun x1 hx1=>?_;conv=>arg 3;whnf
  refine Zd rfl ?_ ?_<;>conv=>arg 3;whnf
  ·refine Zg (Za7 rfl hx1) ?_;conv=>arg 3;whnf
   refine Zah rfl ?_;conv=>arg 3;whnf
   refine Zd (Zcg Zb s0.2 1) ?_ ?_
   ·conv=>arg 3;whnf
    refine Zk (Zcf Zb s0.2 [x1.src]) ?_;conv=>arg 3;whnf
    exact Zf (ih _)
   ·exact ZQ
  ·exact Zf (ih _)
 ·exact Zc rfl
def Zj9 (t0:Bool) (t1:Bool) (t2:Bool) (t3:Bool) (a:Zi) (x3:(List Int)):(List Int)→Ex×List V×Zp
  | r=>(.exit 2,[(.sl 0 1)],[(.arr 1 (List.map Zb r))])
theorem Zoo {t0:Bool}{t1:Bool}{t2:Bool}{t3:Bool}{a:Zi}{x3:(List Int)}:∀(s4:Int×(List Int)) (r:(List Int)),lp (ZgH a x3) s4=some r→lpW ctx 0 [2,5,7,8] [5] ZzV [(.ptr 0 0),(.sl 1 1),(.d (D.list true (List.map Zb x3))),(.d (Zb s4.1))] [(.cells (dV t0 t1 t2 t3 a)),(.arr 1 (List.map Zb s4.2))]=some ((Zj9 t0 t1 t2 t3 a x3) r):=by
 refine Z1 (Zj9 t0 t1 t2 t3 a x3) ?_
 intro s4 rcl ih
 show ZG _ _ (lpW _ _ _ _ _ _ _)
 unfold ZgH
 rw[Z2]
 conv=>arg 3;whnf
 refine Zk (Zt _ _) ?_;conv=>arg 3;whnf
 refine Zd rfl ?_ ?_<;>conv=>arg 3;whnf
 ·refine Zl rfl rfl fun x5 hx5=>?_;conv=>arg 3;whnf
  refine Zl rfl rfl fun x6 hx6=>?_;conv=>arg 3;whnf
  refine Zah rfl ?_;conv=>arg 3;whnf
  refine Zd (Zcg Zb s4.2 1) ?_ ?_
  ·conv=>arg 3;whnf
   refine Zk (Zcf Zb s4.2 [x6.maker]) ?_;conv=>arg 3;whnf
   exact Zf (ih _)
  ·exact ZQ
 ·exact Zc rfl
theorem ZqE {t0:Bool}{t1:Bool}{t2:Bool}{t3:Bool}{a:Zi}{b:Int}:∀r,(Zf8 a b)=some r→evD ctx 33 [(.d (D.agg (dA t0 t1 t2 t3 a))),(.d (Zb b))]=some (Zmr r):=by
 show ZG _ (fun r rhs=>rhs=some (Zmr r)) _
 unfold Zf8
 rw[Z4 ctx 33 ZFs _ rfl rfl]
 conv=>arg 3;whnf
 refine Ze _ (ZnU _) fun r2 hr2=>?_;conv=>arg 3;whnf
 refine Zj _ Zhs rfl fun x3 hx3=>?_;conv=>arg 3;whnf
 refine Ze _ (Zoo _) fun r7 hr7=>?_;conv=>arg 3;whnf
 exact Zc rfl
def Zmf (r:Int):D:=(Zb r)
theorem Zda {a:Int}:∀r,(Zb2 a)=some r→evD ctx 60 [(.d (Zb a))]=some (Zmf r):=by
 show ZG _ (fun r rhs=>rhs=some (Zmf r)) _
 unfold Zb2
 rw[Z4 ctx 60 ZD9 _ rfl rfl]
 conv=>arg 3;whnf
 refine Z6 rfl ?_;conv=>arg 3;whnf
 refine Zd rfl ?_ ?_<;>conv=>arg 3;whnf
 ·exact Zc rfl
 ·exact Zc rfl
def Zl7 (r:Int):D:=(Zb r)
theorem Zqm {a:Int}{b:Int}:∀r,(Zg7 a b)=some r→evD ctx 61 [(.d (Zb a)),(.d (Zb b))]=some (Zl7 r):=by
 show ZG _ (fun r rhs=>rhs=some (Zl7 r)) _
 unfold Zg7
 rw[Z4 ctx 61 ZER _ rfl rfl]
 conv=>arg 3;whnf
 refine Z6 rfl ?_;conv=>arg 3;whnf
 refine Z6 rfl ?_;conv=>arg 3;whnf
 refine Zj _ Zda rfl fun x0 hx0=>?_;conv=>arg 3;whnf
 refine Z6 rfl ?_;conv=>arg 3;whnf
 refine Zj _ Zda rfl fun x1 hx1=>?_;conv=>arg 3;whnf
 exact Zc rfl
def Zpr (r:Int):D:=(Zb r)
def Zmz (t1:Bool) (a:ZV) (c:(List Int)):Int→Ex×List V×Zp
  | r=>(.exit 1,[(.d (Zb r))],[])
theorem ZgU {t1:Bool}{a:ZV}{c:(List Int)}:∀(s3:Int×Int) (r:Int),lp (Zag a c) s3=some r→lpW ctx 0 [2,3,7,8] [7] ZAK [(.d (D.list t1 (List.map Zb c))),(.ptr 0 0),(.d (Zb s3.1)),(.d (Zb s3.2))] [(.cells [(.d (Zb a.op)),(.d (Zb a.arg)),(.d (Zb a.work))])]=some ((Zmz t1 a c) r):=by
 refine Z1 (Zmz t1 a c) ?_
 intro s3 rcl ih
 show ZG _ _ (lpW _ _ _ _ _ _ _)
 unfold Zag
 rw[Z2]
 conv=>arg 3;whnf
 refine Zk (Zt _ _) ?_;conv=>arg 3;whnf
 refine Zd rfl ?_ ?_<;>conv=>arg 3;whnf
 ·refine Zl rfl rfl fun x4 hx4=>?_;conv=>arg 3;whnf
  refine Zj _ Zda rfl fun x5 hx5=>?_;conv=>arg 3;whnf
  refine Zd rfl ?_ ?_<;>conv=>arg 3;whnf
  ·refine Zj _ Zda rfl fun x6 hx6=>?_;conv=>arg 3;whnf
   exact Zf (ih _)
  ·refine Zd rfl ?_ ?_<;>conv=>arg 3;whnf
   ·refine Zj _ Zqm rfl fun x7 hx7=>?_;conv=>arg 3;whnf
    exact Zf (ih _)
   ·refine Zd rfl ?_ ?_<;>conv=>arg 3;whnf
    ·exact Zf (ih _)
    ·refine Zd rfl ?_ ?_<;>conv=>arg 3;whnf
     ·refine Zj _ Zda rfl fun x8 hx8=>?_;conv=>arg 3;whnf
      exact Zf (ih _)
     ·exact Zf (ih _)
 ·exact Zc rfl
theorem Ztt {t0:Bool}{t1:Bool}{a:ZV}{b:(List Int)}{c:(List Int)}:∀r,(Zjt a b c)=some r→evD ctx 34 [(.d (D.agg [(Zb a.op),(Zb a.arg),(Zb a.work)])),(.d (D.list t0 (List.map Zb b))),(.d (D.list t1 (List.map Zb c)))]=some (Zpr r):=by
 show ZG _ (fun r rhs=>rhs=some (Zpr r)) _
 unfold Zjt
 rw[Z4 ctx 34 ZEB _ rfl rfl]
 conv=>arg 3;whnf
 refine Zd rfl ?_ ?_<;>conv=>arg 3;whnf
 ·refine Zd rfl ?_ ?_<;>conv=>arg 3;whnf
  ·exact Zc rfl
  ·refine Zk (Zt _ _) ?_;conv=>arg 3;whnf
   refine Zd rfl ?_ ?_<;>conv=>arg 3;whnf
   ·exact Zc rfl
   ·refine Zl rfl rfl fun x0 hx0=>?_;conv=>arg 3;whnf
    refine Zj _ Zda rfl fun x1 hx1=>?_;conv=>arg 3;whnf
    exact Zc rfl
 ·refine Zd rfl ?_ ?_<;>conv=>arg 3;whnf
  ·refine Zj _ Zda rfl fun x2 hx2=>?_;conv=>arg 3;whnf
   exact Zc rfl
  ·refine Zd rfl ?_ ?_<;>conv=>arg 3;whnf
   ·exact Zc rfl
   ·refine Zd rfl ?_ ?_<;>conv=>arg 3;whnf
    ·exact Zc rfl
    ·refine Zd rfl ?_ ?_<;>conv=>arg 3;whnf
     ·refine Zd rfl ?_ ?_<;>conv=>arg 3;whnf
      ·refine Ze _ (ZgU _) fun r9 hr9=>?_;conv=>arg 3;whnf
       exact Zc rfl
      ·refine Ze _ (ZgU _) fun r16 hr16=>?_;conv=>arg 3;whnf
       exact Zc rfl
     ·refine Zd rfl ?_ ?_<;>conv=>arg 3;whnf
      ·refine Ze _ (ZgU _) fun r23 hr23=>?_;conv=>arg 3;whnf
       exact Zc rfl
      ·refine Ze _ (ZgU _) fun r30 hr30=>?_;conv=>arg 3;whnf
       exact Zc rfl
def Zlt (r:(Zy×Int)):D:=(D.tup [(D.agg [(D.list true (List.map D.bool r.1.done)),(D.list true (List.map Zb r.1.vals))]),(Zb r.2)])
def ZiV (t0:Bool) (t1:Bool) (t2:Bool) (t3:Bool) (t4:Bool) (t5:Bool) (t6:Bool) (a:Zi) (b:(List Int)) (c:Zy) (d:Int) (s4:Int×(List Int)) (x6:(List Int)):(List Int)→Ex×List V×Zp
  | r=>(.exit 2,[(.d (D.list t4 (List.map Zb b))),(.d (Zb d)),(.ptr 0 0),(.ptr 1 0),(.ptr 2 0),(.ptr 3 0),(.d (Zb s4.1)),(.sl 4 1)],[(.cells (dV t0 t1 t2 t3 a)),(.cells [(.d (D.list t5 (List.map D.bool c.done))),(.d (D.list t6 (List.map Zb c.vals)))]),(.cells [(.sl 5 1),(.sl 6 1)]),(.cells [(.sl 7 1),(.sl 8 1)]),(.arr 1 (List.map Zb r)),(.arr 1 []),(.arr 1 []),(.arr 1 (List.map D.bool (List.set c.done d.toNat true))),(.arr 1 (List.map Zb s4.2))])
theorem Zna {t0:Bool}{t1:Bool}{t2:Bool}{t3:Bool}{t4:Bool}{t5:Bool}{t6:Bool}{a:Zi}{b:(List Int)}{c:Zy}{d:Int}{s4:Int×(List Int)}{x6:(List Int)}:∀(s7:Int×(List Int)) (r:(List Int)),lp (ZdM c x6) s7=some r→lpW ctx 0 [1,3,4,6,8,11,12,13,14,15] [1,3,4,6,8,11,12,13] ZCa [(.d (D.list t4 (List.map Zb b))),(.d (Zb d)),(.ptr 0 0),(.ptr 1 0),(.ptr 2 0),(.ptr 3 0),(.d (Zb s4.1)),(.sl 4 1),(.d (D.list true (List.map Zb x6))),(.d (Zb s7.1))] [(.cells (dV t0 t1 t2 t3 a)),(.cells [(.d (D.list t5 (List.map D.bool c.done))),(.d (D.list t6 (List.map Zb c.vals)))]),(.cells [(.sl 5 1),(.sl 6 1)]),(.cells [(.sl 7 1),(.sl 8 1)]),(.arr 1 (List.map Zb s7.2)),(.arr 1 []),(.arr 1 []),(.arr 1 (List.map D.bool (List.set c.done d.toNat true))),(.arr 1 (List.map Zb s4.2))]=some ((ZiV t0 t1 t2 t3 t4 t5 t6 a b c d s4 x6) r):=by
 refine Z1 (ZiV t0 t1 t2 t3 t4 t5 t6 a b c d s4 x6) ?_
 intro s7 rcl ih
 show ZG _ _ (lpW _ _ _ _ _ _ _)
 unfold ZdM
 rw[Z2]
 conv=>arg 3;whnf
 refine Zk (Zt _ _) ?_;conv=>arg 3;whnf
 refine Zd rfl ?_ ?_<;>conv=>arg 3;whnf
 ·refine Zl rfl rfl fun x8 hx8=>?_;conv=>arg 3;whnf
  refine Zl rfl rfl fun x9 hx9=>?_;conv=>arg 3;whnf
  refine Zah rfl ?_;conv=>arg 3;whnf
  refine Zd (Zcg Zb s7.2 1) ?_ ?_
  ·conv=>arg 3;whnf
   refine Zk (Zcf Zb s7.2 [x9]) ?_;conv=>arg 3;whnf
   exact Zf (ih _)
  ·exact ZQ
 ·exact Zc rfl
def ZiU (t0:Bool) (t1:Bool) (t2:Bool) (t3:Bool) (t4:Bool) (t5:Bool) (t6:Bool) (a:Zi) (b:(List Int)) (c:Zy) (d:Int):(List Int)→Ex×List V×Zp
  | r=>(.exit 0,[(.ptr 0 0),(.ptr 1 0)],[(.cells [(.sl 2 1),(.sl 3 1)]),(.cells [(.sl 4 1),(.sl 5 1)]),(.arr 1 []),(.arr 1 []),(.arr 1 (List.map D.bool (List.set c.done d.toNat true))),(.arr 1 (List.map Zb r))])
theorem Zno {t0:Bool}{t1:Bool}{t2:Bool}{t3:Bool}{t4:Bool}{t5:Bool}{t6:Bool}{a:Zi}{b:(List Int)}{c:Zy}{d:Int}:∀(s4:Int×(List Int)) (r:(List Int)),lp (Zcm a b c d) s4=some r→lpW ctx 0 [1,3,4,6,8,11,12] [8,11] ZA2 [(.d (D.list t4 (List.map Zb b))),(.d (Zb d)),(.ptr 0 0),(.ptr 1 0),(.ptr 2 0),(.ptr 3 0),(.d (Zb s4.1))] [(.cells (dV t0 t1 t2 t3 a)),(.cells [(.d (D.list t5 (List.map D.bool c.done))),(.d (D.list t6 (List.map Zb c.vals)))]),(.cells [(.sl 4 1),(.sl 5 1)]),(.cells [(.sl 6 1),(.sl 7 1)]),(.arr 1 []),(.arr 1 []),(.arr 1 (List.map D.bool (List.set c.done d.toNat true))),(.arr 1 (List.map Zb s4.2))]=some ((ZiU t0 t1 t2 t3 t4 t5 t6 a b c d) r):=by
 refine Z1 (ZiU t0 t1 t2 t3 t4 t5 t6 a b c d) ?_
 intro s4 rcl ih
 show ZG _ _ (lpW _ _ _ _ _ _ _)
 unfold Zcm
 rw[Z2]
 conv=>arg 3;whnf
 refine Zk (Zt _ _) ?_;conv=>arg 3;whnf
 refine Zd rfl ?_ ?_<;>conv=>arg 3;whnf
 ·refine Zj _ ZgL rfl fun x5 hx5=>?_;conv=>arg 3;whnf
  refine Zd rfl ?_ ?_<;>conv=>arg 3;whnf
  ·exact Zf (ih _)
  ·refine Zj _ ZqE rfl fun x6 hx6=>?_;conv=>arg 3;whnf
   refine Ze _ (Zna _) fun r10 hr10=>?_;conv=>arg 3;whnf
   refine Zl rfl rfl fun x11 hx11=>?_;conv=>arg 3;whnf
   refine Zj _ Ztt rfl fun x12 hx12=>?_;conv=>arg 3;whnf
   refine Zl rfl rfl fun x13 hx13=>?_;conv=>arg 3;whnf
   refine Zg (ZD rfl hx13) ?_;conv=>arg 3;whnf
   refine Zk (ZaE Zb s4.2 s4.1.toNat x12) ?_;conv=>arg 3;whnf
   exact Zf (ih _)
 ·exact Zc rfl
theorem ZpY {t0:Bool}{t1:Bool}{t2:Bool}{t3:Bool}{t4:Bool}{t5:Bool}{t6:Bool}{a:Zi}{b:(List Int)}{c:Zy}{d:Int}:∀r,(Zgx a b c d)=some r→evD ctx 11 [(.d (D.agg (dA t0 t1 t2 t3 a))),(.d (D.list t4 (List.map Zb b))),(.d (D.agg [(D.list t5 (List.map D.bool c.done)),(D.list t6 (List.map Zb c.vals))])),(.d (Zb d))]=some (Zlt r):=by
 show ZG _ (fun r rhs=>rhs=some (Zlt r)) _
 unfold Zgx
 rw[Z4 ctx 11 ZFw _ rfl rfl]
 conv=>arg 3;whnf
 refine Zj _ Zlk rfl fun x0 hx0=>?_;conv=>arg 3;whnf
 refine Zd rfl ?_ ?_<;>conv=>arg 3;whnf
 ·exact Zc rfl
 ·refine Zd rfl ?_ ?_<;>conv=>arg 3;whnf
  ·exact Zc rfl
  ·refine Zk (Zt _ _) ?_;conv=>arg 3;whnf
   refine Zd rfl ?_ ?_<;>conv=>arg 3;whnf
   ·exact Zc rfl
   ·refine Zl rfl rfl fun x1 hx1=>?_;conv=>arg 3;whnf
    refine Zd rfl ?_ ?_<;>conv=>arg 3;whnf
    ·exact Zc rfl
    ·refine Zj _ Zox rfl fun x2 hx2=>?_;conv=>arg 3;whnf
     refine Zd rfl ?_ ?_<;>conv=>arg 3;whnf
     ·refine Zah (Zf5 (f:=D.bool) (fun _=>⟨rfl,rfl⟩) c.done 0) ?_;conv=>arg 3;whnf
      refine Zd (Zf4 D.bool c.done) ?_ ?_
      ·conv=>arg 3;whnf
       refine Zk (rfl:_=List.map D.bool c.done) ?_;conv=>arg 3;whnf
       refine Zah (Zf5 (f:=Zb) (fun _=>⟨rfl,rfl⟩) c.vals 0) ?_;conv=>arg 3;whnf
       refine Zd (Zf4 Zb c.vals) ?_ ?_
       ·conv=>arg 3;whnf
        refine Zk (rfl:_=List.map Zb c.vals) ?_;conv=>arg 3;whnf
        refine Zg (Za7 rfl hx1) ?_;conv=>arg 3;whnf
        refine ZDx rfl rfl fun x3 hx3=>?_;conv=>arg 3;whnf
        refine Zk (ZaE D.bool c.done d.toNat true) ?_;conv=>arg 3;whnf
        refine Ze _ (Zno _) fun r14 hr14=>?_;conv=>arg 3;whnf
        exact Zc rfl
       ·exact ZQ
      ·exact ZQ
     ·exact Zc rfl
def Znh (r:(List Int)):D:=(D.list true (List.map Zb r))
def Zku (t4:Bool) (t5:Bool) (b:Zy) (x0:(Zi7×Int)):(List Int)→Ex×List V×Zp
  | r=>(.exit 0,[(.sl 0 1)],[(.arr 1 (List.map Zb r))])
theorem ZoY {t4:Bool}{t5:Bool}{b:Zy}{x0:(Zi7×Int)}:∀(s2:Int×(List Int)) (r:(List Int)),lp (Ze4 b x0) s2=some r→lpW ctx 0 [3,5,7,26,27,28] [7] ZA3 [(.ptr 0 0),(.ptr 1 0),(.sl 2 1),(.d (D.list t4 (List.map D.bool b.done))),(.d (Zb (b.done.length:Int))),(.d (Zb s2.1))] [(.cells [(.d (D.list t4 (List.map D.bool b.done))),(.d (D.list t5 (List.map Zb b.vals)))]),(.cells [(.d (D.list true (List.map Zb x0.1.dag.work))),(.d (D.list true (List.map Zv x0.1.dag.edges))),(.d (D.list true (List.map Zar x0.1.pieces)))]),(.arr 1 (List.map Zb s2.2))]=some ((Zku t4 t5 b x0) r):=by
 refine Z1 (Zku t4 t5 b x0) ?_
 intro s2 rcl ih
 show ZG _ _ (lpW _ _ _ _ _ _ _)
 unfold Ze4
 rw[Z2]
 conv=>arg 3;whnf
 refine Zd rfl ?_ ?_<;>conv=>arg 3;whnf
 ·refine Zl rfl rfl fun x3 hx3=>?_;conv=>arg 3;whnf
  refine Zd rfl ?_ ?_<;>conv=>arg 3;whnf
  ·exact Zf (ih _)
  ·refine Zj _ Zmk rfl fun x4 hx4=>?_;conv=>arg 3;whnf
   refine Zd rfl ?_ ?_<;>conv=>arg 3;whnf
   ·exact Zf (ih _)
   ·refine Zah rfl ?_;conv=>arg 3;whnf
    refine Zd (Zcg Zb s2.2 1) ?_ ?_
    ·conv=>arg 3;whnf
     refine Zk (Zcf Zb s2.2 [s2.1]) ?_;conv=>arg 3;whnf
     exact Zf (ih _)
    ·exact ZQ
 ·exact Zc rfl
theorem ZrB {t0:Bool}{t1:Bool}{t2:Bool}{t3:Bool}{t4:Bool}{t5:Bool}{a:Zi}{b:Zy}:∀r,(ZhK a b)=some r→evD ctx 13 [(.d (D.agg (dA t0 t1 t2 t3 a))),(.d (D.agg [(D.list t4 (List.map D.bool b.done)),(D.list t5 (List.map Zb b.vals))]))]=some (Znh r):=by
 show ZG _ (fun r rhs=>rhs=some (Znh r)) _
 unfold ZhK
 rw[Z4 ctx 13 ZFj _ rfl rfl]
 conv=>arg 3;whnf
 refine Zj _ Zib rfl fun x0 hx0=>?_;conv=>arg 3;whnf
 refine Zd rfl ?_ ?_<;>conv=>arg 3;whnf
 ·exact Zc rfl
 ·refine Zj _ ZiR rfl fun x1 hx1=>?_;conv=>arg 3;whnf
  refine Zd rfl ?_ ?_<;>conv=>arg 3;whnf
  ·refine Zk (Zt _ _) ?_;conv=>arg 3;whnf
   refine Ze _ (ZoY _) fun r5 hr5=>?_;conv=>arg 3;whnf
   exact Zc rfl
  ·exact Zc rfl
def Zmv (r:(List Int)):D:=(D.list true (List.map Zb r))
def ZjB (t0:Bool) (t1:Bool) (t2:Bool) (t3:Bool) (t4:Bool) (t5:Bool) (a:Zi) (b:Zy):(List Int)→Ex×List V×Zp
  | r=>(.exit 0,[(.sl 0 1)],[(.arr 1 (List.map Zb r))])
theorem Zn2 {t0:Bool}{t1:Bool}{t2:Bool}{t3:Bool}{t4:Bool}{t5:Bool}{a:Zi}{b:Zy}:∀(s0:Int×(List Int)) (r:(List Int)),lp (Zev a b) s0=some r→lpW ctx 0 [2,3,5,6] [5] ZA8 [(.ptr 0 0),(.ptr 1 0),(.sl 2 1),(.d (Zb s0.1))] [(.cells (dV t0 t1 t2 t3 a)),(.cells [(.d (D.list t4 (List.map D.bool b.done))),(.d (D.list t5 (List.map Zb b.vals)))]),(.arr 1 (List.map Zb s0.2))]=some ((ZjB t0 t1 t2 t3 t4 t5 a b) r):=by
 refine Z1 (ZjB t0 t1 t2 t3 t4 t5 a b) ?_
 intro s0 rcl ih
 show ZG _ _ (lpW _ _ _ _ _ _ _)
 unfold Zev
 rw[Z2]
 conv=>arg 3;whnf
 refine Zk (Zt _ _) ?_;conv=>arg 3;whnf
 refine Zd rfl ?_ ?_<;>conv=>arg 3;whnf
 ·refine Zj _ Zox rfl fun x1 hx1=>?_;conv=>arg 3;whnf
  refine Zd rfl ?_ ?_<;>conv=>arg 3;whnf
  ·refine Zah rfl ?_;conv=>arg 3;whnf
   refine Zd (Zcg Zb s0.2 1) ?_ ?_
   ·conv=>arg 3;whnf
    refine Zk (Zcf Zb s0.2 [s0.1]) ?_;conv=>arg 3;whnf
    exact Zf (ih _)
   ·exact ZQ
  ·exact Zf (ih _)
 ·exact Zc rfl
theorem ZqT {t0:Bool}{t1:Bool}{t2:Bool}{t3:Bool}{t4:Bool}{t5:Bool}{a:Zi}{b:Zy}:∀r,(Zg8 a b)=some r→evD ctx 15 [(.d (D.agg (dA t0 t1 t2 t3 a))),(.d (D.agg [(D.list t4 (List.map D.bool b.done)),(D.list t5 (List.map Zb b.vals))]))]=some (Zmv r):=by
 show ZG _ (fun r rhs=>rhs=some (Zmv r)) _
 unfold Zg8
 rw[Z4 ctx 15 ZFo _ rfl rfl]
 conv=>arg 3;whnf
 refine Ze _ (Zn2 _) fun r2 hr2=>?_;conv=>arg 3;whnf
 exact Zc rfl
def ZnA (r:Bool):D:=(D.bool r)
def Zkl (t0:Bool) (t1:Bool) (a:(List Int)) (b:(List Int)):(Unit⊕Unit)→Ex×List V×Zp
  | (.inl r)=>(.ret,[(.d (D.bool false))],[])
  | (.inr r)=>(.exit 0,[.bad],[])
theorem Zpf {t0:Bool}{t1:Bool}{a:(List Int)}{b:(List Int)}:∀(s0:Int) (r:(Unit⊕Unit)),lp (ZeZ a b) s0=some r→lpW ctx 0 [0,1,5] [4] ZBg [(.d (D.list t0 (List.map Zb a))),(.d (D.list t1 (List.map Zb b))),(.d (Zb s0))] []=some ((Zkl t0 t1 a b) r):=by
 refine Z1 (Zkl t0 t1 a b) ?_
 intro s0 rcl ih
 show ZG _ _ (lpW _ _ _ _ _ _ _)
 unfold ZeZ
 rw[Z2]
 conv=>arg 3;whnf
 refine Zk (Zt _ _) ?_;conv=>arg 3;whnf
 refine Zd rfl ?_ ?_<;>conv=>arg 3;whnf
 ·refine Zl rfl rfl fun x1 hx1=>?_;conv=>arg 3;whnf
  refine Zl rfl rfl fun x2 hx2=>?_;conv=>arg 3;whnf
  refine Zd rfl ?_ ?_<;>conv=>arg 3;whnf
  ·exact Zc rfl
  ·exact Zf (ih _)
 ·exact Zc rfl
theorem Zl4 {t0:Bool}{t1:Bool}{a:(List Int)}{b:(List Int)}:∀r,(ZgR a b)=some r→evD ctx 14 [(.d (D.list t0 (List.map Zb a))),(.d (D.list t1 (List.map Zb b)))]=some (ZnA r):=by
 show ZG _ (fun r rhs=>rhs=some (ZnA r)) _
 unfold ZgR
 rw[Z4 ctx 14 ZFK _ rfl rfl]
 conv=>arg 3;whnf
 refine Zk (Zt _ _) ?_;conv=>arg 3;whnf
 refine Zk (Zt _ _) ?_;conv=>arg 3;whnf
 refine Zd rfl ?_ ?_<;>conv=>arg 3;whnf
 ·exact Zc rfl
 ·refine Ze _ (Zpf _) fun r3 hr3=>?_
  clear hr3
  rcases r3 with r3 | r3
  ·conv=>arg 3;whnf
   exact Zc rfl
  ·conv=>arg 3;whnf
   exact Zc rfl
def Zl5 (r:Bool):D:=(D.bool r)
def ZjO (t0:Bool) (t1:Bool) (a:(List Bool)) (b:(List Bool)):(Unit⊕Unit)→Ex×List V×Zp
  | (.inl r)=>(.ret,[(.d (D.bool false))],[])
  | (.inr r)=>(.exit 0,[.bad],[])
theorem Zok {t0:Bool}{t1:Bool}{a:(List Bool)}{b:(List Bool)}:∀(s0:Int) (r:(Unit⊕Unit)),lp (Zeh a b) s0=some r→lpW ctx 0 [0,1,5] [4] ZAf [(.d (D.list t0 (List.map D.bool a))),(.d (D.list t1 (List.map D.bool b))),(.d (Zb s0))] []=some ((ZjO t0 t1 a b) r):=by
 refine Z1 (ZjO t0 t1 a b) ?_
 intro s0 rcl ih
 show ZG _ _ (lpW _ _ _ _ _ _ _)
 unfold Zeh
 rw[Z2]
 conv=>arg 3;whnf
 refine Zk (Zt _ _) ?_;conv=>arg 3;whnf
 refine Zd rfl ?_ ?_<;>conv=>arg 3;whnf
 ·refine Zl rfl rfl fun x1 hx1=>?_;conv=>arg 3;whnf
  refine Zd rfl ?_ ?_<;>conv=>arg 3;whnf
  ·refine Zl rfl rfl fun x2 hx2=>?_;conv=>arg 3;whnf
   refine Zd rfl ?_ ?_<;>conv=>arg 3;whnf
   ·refine Z6 rfl ?_;conv=>arg 3;whnf
    exact Zf (ih _)
   ·refine Zah rfl ?_;conv=>arg 3;whnf
    exact Zc rfl
  ·refine Zl rfl rfl fun x3 hx3=>?_;conv=>arg 3;whnf
   refine Zd rfl ?_ ?_<;>conv=>arg 3;whnf
   ·refine Zah rfl ?_;conv=>arg 3;whnf
    exact Zc rfl
   ·refine Z6 rfl ?_;conv=>arg 3;whnf
    exact Zf (ih _)
 ·exact Zc rfl
theorem Zqz {t0:Bool}{t1:Bool}{a:(List Bool)}{b:(List Bool)}:∀r,(Zha a b)=some r→evD ctx 36 [(.d (D.list t0 (List.map D.bool a))),(.d (D.list t1 (List.map D.bool b)))]=some (Zl5 r):=by
 show ZG _ (fun r rhs=>rhs=some (Zl5 r)) _
 unfold Zha
 rw[Z4 ctx 36 ZFx _ rfl rfl]
 conv=>arg 3;whnf
 refine Zk (Zt _ _) ?_;conv=>arg 3;whnf
 refine Zk (Zt _ _) ?_;conv=>arg 3;whnf
 refine Zd rfl ?_ ?_<;>conv=>arg 3;whnf
 ·exact Zc rfl
 ·refine Ze _ (Zok _) fun r4 hr4=>?_
  clear hr4
  rcases r4 with r4 | r4
  ·conv=>arg 3;whnf
   exact Zc rfl
  ·conv=>arg 3;whnf
   exact Zc rfl
def ZmQ (r:Bool):D:=(D.bool r)
theorem Zbp {t0:Bool}{t1:Bool}{t2:Bool}{t3:Bool}{a:Zy}{b:Zy}:∀r,(Zbo a b)=some r→evD ctx 16 [(.d (D.agg [(D.list t0 (List.map D.bool a.done)),(D.list t1 (List.map Zb a.vals))])),(.d (D.agg [(D.list t2 (List.map D.bool b.done)),(D.list t3 (List.map Zb b.vals))]))]=some (ZmQ r):=by
 show ZG _ (fun r rhs=>rhs=some (ZmQ r)) _
 unfold Zbo
 rw[Z4 ctx 16 ZFG _ rfl rfl]
 conv=>arg 3;whnf
 refine Zj _ Zqz rfl fun x0 hx0=>?_;conv=>arg 3;whnf
 refine Zd rfl ?_ ?_<;>conv=>arg 3;whnf
 ·refine Zj _ Zl4 rfl fun x1 hx1=>?_;conv=>arg 3;whnf
  refine Zd rfl ?_ ?_<;>conv=>arg 3;whnf
  ·exact Zc rfl
  ·exact Zc rfl
 ·exact Zc rfl
def Zm3 (r:Int):D:=(Zb r)
theorem Zhn {t0:Bool}{t1:Bool}{t2:Bool}{t3:Bool}{t4:Bool}{t5:Bool}{a:Zi}{b:Zy}:∀r,(Ze8 a b)=some r→evD ctx 17 [(.d (D.agg (dA t0 t1 t2 t3 a))),(.d (D.agg [(D.list t4 (List.map D.bool b.done)),(D.list t5 (List.map Zb b.vals))]))]=some (Zm3 r):=by
 show ZG _ (fun r rhs=>rhs=some (Zm3 r)) _
 unfold Ze8
 rw[Z4 ctx 17 ZFP _ rfl rfl]
 conv=>arg 3;whnf
 refine Zj _ Zib rfl fun x0 hx0=>?_;conv=>arg 3;whnf
 refine Zd rfl ?_ ?_<;>conv=>arg 3;whnf
 ·refine Zj _ ZiR rfl fun x1 hx1=>?_;conv=>arg 3;whnf
  refine Zd rfl ?_ ?_<;>conv=>arg 3;whnf
  ·exact Zc rfl
  ·exact Zc rfl
 ·exact Zc rfl
def Zf3 (r:Bool):D:=(D.bool r)
def Zfo (t0:Bool) (t1:Bool) (a:(List Bool)) (b:(List Bool)):(Unit⊕Unit)→Ex×List V×Zp
  | (.inl r)=>(.ret,[(.d (D.bool false))],[])
  | (.inr r)=>(.exit 0,[.bad],[])
theorem ZhD {t0:Bool}{t1:Bool}{a:(List Bool)}{b:(List Bool)}:∀(s0:Int) (r:(Unit⊕Unit)),lp (Za1 a b) s0=some r→lpW ctx 0 [0,1,12,13] [4] ZzL [(.d (D.list t0 (List.map D.bool a))),(.d (D.list t1 (List.map D.bool b))),(.d (Zb (a.length:Int))),(.d (Zb s0))] []=some ((Zfo t0 t1 a b) r):=by
 refine Z1 (Zfo t0 t1 a b) ?_
 intro s0 rcl ih
 show ZG _ _ (lpW _ _ _ _ _ _ _)
 unfold Za1
 rw[Z2]
 conv=>arg 3;whnf
 refine Zd rfl ?_ ?_<;>conv=>arg 3;whnf
 ·refine Zl rfl rfl fun x1 hx1=>?_;conv=>arg 3;whnf
  refine Zd rfl ?_ ?_<;>conv=>arg 3;whnf
  ·refine Zl rfl rfl fun x2 hx2=>?_;conv=>arg 3;whnf
   refine Zd rfl ?_ ?_<;>conv=>arg 3;whnf
   ·refine Z6 rfl ?_;conv=>arg 3;whnf
    exact Zf (ih _)
   ·refine Zah rfl ?_;conv=>arg 3;whnf
    exact Zc rfl
  ·refine Zl rfl rfl fun x3 hx3=>?_;conv=>arg 3;whnf
   refine Zd rfl ?_ ?_<;>conv=>arg 3;whnf
   ·refine Zah rfl ?_;conv=>arg 3;whnf
    exact Zc rfl
   ·refine Z6 rfl ?_;conv=>arg 3;whnf
    exact Zf (ih _)
 ·exact Zc rfl
theorem ZiE {t0:Bool}{t1:Bool}{a:(List Bool)}{b:(List Bool)}:∀r,(ZbX a b)=some r→evD ctx 37 [(.d (D.list t0 (List.map D.bool a))),(.d (D.list t1 (List.map D.bool b)))]=some (Zf3 r):=by
 show ZG _ (fun r rhs=>rhs=some (Zf3 r)) _
 unfold ZbX
 rw[Z4 ctx 37 ZFt _ rfl rfl]
 conv=>arg 3;whnf
 refine Zk (Zt _ _) ?_;conv=>arg 3;whnf
 refine Zk (Zt _ _) ?_;conv=>arg 3;whnf
 refine Zd rfl ?_ ?_<;>conv=>arg 3;whnf
 ·exact Zc rfl
 ·refine Zk (Zt _ _) ?_;conv=>arg 3;whnf
  refine Ze _ (ZhD _) fun r4 hr4=>?_
  clear hr4
  rcases r4 with r4 | r4
  ·conv=>arg 3;whnf
   exact Zc rfl
  ·conv=>arg 3;whnf
   exact Zc rfl
def Zgu (r:Bool):D:=(D.bool r)
def ZfM (t0:Bool) (t1:Bool) (a:(List Int)) (b:(List Int)):(Unit⊕Unit)→Ex×List V×Zp
  | (.inl r)=>(.ret,[(.d (D.bool false))],[])
  | (.inr r)=>(.exit 0,[.bad],[])
theorem Zh8 {t0:Bool}{t1:Bool}{a:(List Int)}{b:(List Int)}:∀(s0:Int) (r:(Unit⊕Unit)),lp (Zbi a b) s0=some r→lpW ctx 0 [0,1,12,13] [4] ZAI [(.d (D.list t0 (List.map Zb a))),(.d (D.list t1 (List.map Zb b))),(.d (Zb (a.length:Int))),(.d (Zb s0))] []=some ((ZfM t0 t1 a b) r):=by
 refine Z1 (ZfM t0 t1 a b) ?_
 intro s0 rcl ih
 show ZG _ _ (lpW _ _ _ _ _ _ _)
 unfold Zbi
 rw[Z2]
 conv=>arg 3;whnf
 refine Zd rfl ?_ ?_<;>conv=>arg 3;whnf
 ·refine Zl rfl rfl fun x1 hx1=>?_;conv=>arg 3;whnf
  refine Zl rfl rfl fun x2 hx2=>?_;conv=>arg 3;whnf
  refine Zd rfl ?_ ?_<;>conv=>arg 3;whnf
  ·exact Zc rfl
  ·exact Zf (ih _)
 ·exact Zc rfl
theorem Zjc {t0:Bool}{t1:Bool}{a:(List Int)}{b:(List Int)}:∀r,(ZcB a b)=some r→evD ctx 38 [(.d (D.list t0 (List.map Zb a))),(.d (D.list t1 (List.map Zb b)))]=some (Zgu r):=by
 show ZG _ (fun r rhs=>rhs=some (Zgu r)) _
 unfold ZcB
 rw[Z4 ctx 38 ZD6 _ rfl rfl]
 conv=>arg 3;whnf
 refine Zk (Zt _ _) ?_;conv=>arg 3;whnf
 refine Zk (Zt _ _) ?_;conv=>arg 3;whnf
 refine Zd rfl ?_ ?_<;>conv=>arg 3;whnf
 ·exact Zc rfl
 ·refine Zk (Zt _ _) ?_;conv=>arg 3;whnf
  refine Ze _ (Zh8 _) fun r3 hr3=>?_
  clear hr3
  rcases r3 with r3 | r3
  ·conv=>arg 3;whnf
   exact Zc rfl
  ·conv=>arg 3;whnf
   exact Zc rfl
def Zoy (r:Bool):D:=(D.bool r)
theorem ZhF {t0:Bool}{t1:Bool}{t2:Bool}{t3:Bool}{a:Zy}{b:Zy}:∀r,(ZfN a b)=some r→evD ctx 18 [(.d (D.agg [(D.list t0 (List.map D.bool a.done)),(D.list t1 (List.map Zb a.vals))])),(.d (D.agg [(D.list t2 (List.map D.bool b.done)),(D.list t3 (List.map Zb b.vals))]))]=some (Zoy r):=by
 show ZG _ (fun r rhs=>rhs=some (Zoy r)) _
 unfold ZfN
 rw[Z4 ctx 18 ZFH _ rfl rfl]
 conv=>arg 3;whnf
 refine Zj _ ZiE rfl fun x0 hx0=>?_;conv=>arg 3;whnf
 refine Zd rfl ?_ ?_<;>conv=>arg 3;whnf
 ·refine Zj _ Zjc rfl fun x1 hx1=>?_;conv=>arg 3;whnf
  refine Zd rfl ?_ ?_<;>conv=>arg 3;whnf
  ·exact Zc rfl
  ·exact Zc rfl
 ·exact Zc rfl
def ZiY (r:Bool):D:=(D.bool r)
theorem Znu {t0:Bool}{t1:Bool}{t2:Bool}{t3:Bool}{t4:Bool}{t5:Bool}{t6:Bool}{t7:Bool}{t8:Bool}{a:Zi}{b:(List Int)}{c:Zy}{d:Zy}{e:Int}:∀r,(Zgm a b c d e)=some r→evD ctx 3 [(.d (D.agg (dA t0 t1 t2 t3 a))),(.d (D.list t4 (List.map Zb b))),(.d (D.agg [(D.list t5 (List.map D.bool c.done)),(D.list t6 (List.map Zb c.vals))])),(.d (D.agg [(D.list t7 (List.map D.bool d.done)),(D.list t8 (List.map Zb d.vals))])),(.d (Zb e))]=some (ZiY r):=by
 show ZG _ (fun r rhs=>rhs=some (ZiY r)) _
 unfold Zgm
 rw[Z4 ctx 3 fn3 _ rfl rfl]
 conv=>arg 3;whnf
 refine Zj _ ZgP rfl fun x0 hx0=>?_;conv=>arg 3;whnf
 refine Zd rfl ?_ ?_<;>conv=>arg 3;whnf
 ·refine Zj _ Znm rfl fun x1 hx1=>?_;conv=>arg 3;whnf
  refine Zd rfl ?_ ?_<;>conv=>arg 3;whnf
  ·refine Zj _ Znm rfl fun x2 hx2=>?_;conv=>arg 3;whnf
   refine Zd rfl ?_ ?_<;>conv=>arg 3;whnf
   ·refine Ze _ Zfz fun x3 hx3=>?_;conv=>arg 3;whnf
    refine Zah (Zf5 (f:=Zb) (fun _=>⟨rfl,rfl⟩) b 0) ?_;conv=>arg 3;whnf
    refine Zd (Zf4 Zb b) ?_ ?_
    ·conv=>arg 3;whnf
     refine Zk (rfl:_=List.map Zb b) ?_;conv=>arg 3;whnf
     refine Ze _ Zba fun x4 hx4=>?_;conv=>arg 3;whnf
     refine Zj _ Zq1 rfl fun x5 hx5=>?_;conv=>arg 3;whnf
     refine Zj _ ZpY rfl fun x6 hx6=>?_;conv=>arg 3;whnf
     refine Zj _ Zlk rfl fun x7 hx7=>?_;conv=>arg 3;whnf
     refine Ze _ Zfz fun x8 hx8=>?_;conv=>arg 3;whnf
     refine Ze _ Zba fun x9 hx9=>?_;conv=>arg 3;whnf
     refine Zj _ ZrB rfl fun x10 hx10=>?_;conv=>arg 3;whnf
     refine Zd rfl ?_ ?_<;>conv=>arg 3;whnf
     ·refine Zj _ ZqT rfl fun x11 hx11=>?_;conv=>arg 3;whnf
      refine Zj _ Zl4 rfl fun x12 hx12=>?_;conv=>arg 3;whnf
      refine Zd rfl ?_ ?_<;>conv=>arg 3;whnf
      ·refine Zd rfl ?_ ?_<;>conv=>arg 3;whnf
       ·refine Zk (Zt _ _) ?_;conv=>arg 3;whnf
        refine Zd rfl ?_ ?_<;>conv=>arg 3;whnf
        ·exact Zc rfl
        ·refine Zj _ Zbp rfl fun x13 hx13=>?_;conv=>arg 3;whnf
         refine Zd rfl ?_ ?_<;>conv=>arg 3;whnf
         ·refine Zd rfl ?_ ?_<;>conv=>arg 3;whnf
          ·refine Ze _ Zfz fun x14 hx14=>?_;conv=>arg 3;whnf
           refine Ze _ Zba fun x15 hx15=>?_;conv=>arg 3;whnf
           refine Zj _ Zhn rfl fun x16 hx16=>?_;conv=>arg 3;whnf
           refine Zd rfl ?_ ?_<;>conv=>arg 3;whnf
           ·refine Ze _ Zba fun x17 hx17=>?_;conv=>arg 3;whnf
            refine Ze _ Zba fun x18 hx18=>?_;conv=>arg 3;whnf
            refine Zj _ ZhF rfl fun x19 hx19=>?_;conv=>arg 3;whnf
            refine Zd rfl ?_ ?_<;>conv=>arg 3;whnf
            ·refine Zj _ Zbp rfl fun x20 hx20=>?_;conv=>arg 3;whnf
             refine Zd rfl ?_ ?_<;>conv=>arg 3;whnf
             ·refine Zah rfl ?_;conv=>arg 3;whnf
              exact Zc rfl
             ·refine Z6 rfl ?_;conv=>arg 3;whnf
              exact Zc rfl
            ·refine Zj _ Zbp rfl fun x21 hx21=>?_;conv=>arg 3;whnf
             refine Zd rfl ?_ ?_<;>conv=>arg 3;whnf
             ·refine Z6 rfl ?_;conv=>arg 3;whnf
              exact Zc rfl
             ·refine Zah rfl ?_;conv=>arg 3;whnf
              exact Zc rfl
           ·exact Zc rfl
          ·exact Zc rfl
         ·exact Zc rfl
       ·refine Zj _ Zbp rfl fun x22 hx22=>?_;conv=>arg 3;whnf
        refine Zd rfl ?_ ?_<;>conv=>arg 3;whnf
        ·refine Zd rfl ?_ ?_<;>conv=>arg 3;whnf
         ·refine Ze _ Zfz fun x23 hx23=>?_;conv=>arg 3;whnf
          refine Ze _ Zba fun x24 hx24=>?_;conv=>arg 3;whnf
          refine Zj _ Zhn rfl fun x25 hx25=>?_;conv=>arg 3;whnf
          refine Zd rfl ?_ ?_<;>conv=>arg 3;whnf
          ·refine Ze _ Zba fun x26 hx26=>?_;conv=>arg 3;whnf
           refine Ze _ Zba fun x27 hx27=>?_;conv=>arg 3;whnf
           refine Zj _ ZhF rfl fun x28 hx28=>?_;conv=>arg 3;whnf
           refine Zd rfl ?_ ?_<;>conv=>arg 3;whnf
           ·refine Zj _ Zbp rfl fun x29 hx29=>?_;conv=>arg 3;whnf
            refine Zd rfl ?_ ?_<;>conv=>arg 3;whnf
            ·refine Zah rfl ?_;conv=>arg 3;whnf
             exact Zc rfl
            ·refine Z6 rfl ?_;conv=>arg 3;whnf
             exact Zc rfl
           ·refine Zj _ Zbp rfl fun x30 hx30=>?_;conv=>arg 3;whnf
            refine Zd rfl ?_ ?_<;>conv=>arg 3;whnf
            ·refine Z6 rfl ?_;conv=>arg 3;whnf
             exact Zc rfl
            ·refine Zah rfl ?_;conv=>arg 3;whnf
             exact Zc rfl
          ·exact Zc rfl
         ·exact Zc rfl
        ·exact Zc rfl
      ·exact Zc rfl
     ·refine Zd rfl ?_ ?_<;>conv=>arg 3;whnf
      ·refine Zk (Zt _ _) ?_;conv=>arg 3;whnf
       refine Zd rfl ?_ ?_<;>conv=>arg 3;whnf
       ·exact Zc rfl
       ·refine Zj _ Zbp rfl fun x31 hx31=>?_;conv=>arg 3;whnf
        refine Zd rfl ?_ ?_<;>conv=>arg 3;whnf
        ·refine Zd rfl ?_ ?_<;>conv=>arg 3;whnf
         ·refine Ze _ Zfz fun x32 hx32=>?_;conv=>arg 3;whnf
          refine Ze _ Zba fun x33 hx33=>?_;conv=>arg 3;whnf
          refine Zj _ Zhn rfl fun x34 hx34=>?_;conv=>arg 3;whnf
          refine Zd rfl ?_ ?_<;>conv=>arg 3;whnf
          ·refine Ze _ Zba fun x35 hx35=>?_;conv=>arg 3;whnf
           refine Ze _ Zba fun x36 hx36=>?_;conv=>arg 3;whnf
           refine Zj _ ZhF rfl fun x37 hx37=>?_;conv=>arg 3;whnf
           refine Zd rfl ?_ ?_<;>conv=>arg 3;whnf
           ·refine Zj _ Zbp rfl fun x38 hx38=>?_;conv=>arg 3;whnf
            refine Zd rfl ?_ ?_<;>conv=>arg 3;whnf
            ·refine Zah rfl ?_;conv=>arg 3;whnf
             exact Zc rfl
            ·refine Z6 rfl ?_;conv=>arg 3;whnf
             exact Zc rfl
           ·refine Zj _ Zbp rfl fun x39 hx39=>?_;conv=>arg 3;whnf
            refine Zd rfl ?_ ?_<;>conv=>arg 3;whnf
            ·refine Z6 rfl ?_;conv=>arg 3;whnf
             exact Zc rfl
            ·refine Zah rfl ?_;conv=>arg 3;whnf
             exact Zc rfl
          ·exact Zc rfl
         ·exact Zc rfl
        ·exact Zc rfl
      ·refine Zj _ Zbp rfl fun x40 hx40=>?_;conv=>arg 3;whnf
       refine Zd rfl ?_ ?_<;>conv=>arg 3;whnf
       ·refine Zd rfl ?_ ?_<;>conv=>arg 3;whnf
        ·refine Ze _ Zfz fun x41 hx41=>?_;conv=>arg 3;whnf
         refine Ze _ Zba fun x42 hx42=>?_;conv=>arg 3;whnf
         refine Zj _ Zhn rfl fun x43 hx43=>?_;conv=>arg 3;whnf
         refine Zd rfl ?_ ?_<;>conv=>arg 3;whnf
         ·refine Ze _ Zba fun x44 hx44=>?_;conv=>arg 3;whnf
          refine Ze _ Zba fun x45 hx45=>?_;conv=>arg 3;whnf
          refine Zj _ ZhF rfl fun x46 hx46=>?_;conv=>arg 3;whnf
          refine Zd rfl ?_ ?_<;>conv=>arg 3;whnf
          ·refine Zj _ Zbp rfl fun x47 hx47=>?_;conv=>arg 3;whnf
           refine Zd rfl ?_ ?_<;>conv=>arg 3;whnf
           ·refine Zah rfl ?_;conv=>arg 3;whnf
            exact Zc rfl
           ·refine Z6 rfl ?_;conv=>arg 3;whnf
            exact Zc rfl
          ·refine Zj _ Zbp rfl fun x48 hx48=>?_;conv=>arg 3;whnf
           refine Zd rfl ?_ ?_<;>conv=>arg 3;whnf
           ·refine Z6 rfl ?_;conv=>arg 3;whnf
            exact Zc rfl
           ·refine Zah rfl ?_;conv=>arg 3;whnf
            exact Zc rfl
         ·exact Zc rfl
        ·exact Zc rfl
       ·exact Zc rfl
    ·exact ZQ
   ·refine Zj _ ZgP rfl fun x49 hx49=>?_;conv=>arg 3;whnf
    refine Zd rfl ?_ ?_<;>conv=>arg 3;whnf
    ·exact Zc rfl
    ·exact Zc rfl
  ·refine Zj _ ZgP rfl fun x50 hx50=>?_;conv=>arg 3;whnf
   refine Zd rfl ?_ ?_<;>conv=>arg 3;whnf
   ·exact Zc rfl
   ·exact Zc rfl
 ·refine Zj _ ZgP rfl fun x51 hx51=>?_;conv=>arg 3;whnf
  refine Zd rfl ?_ ?_<;>conv=>arg 3;whnf
  ·exact Zc rfl
  ·exact Zc rfl
end Go.Proofs.YtnmbdjkbaihicaaGreatDoor
namespace Go.Proofs.YtnmbdjkbaihicaaGreatDoor
open Go Go.Proofs.YtnmbdjkbaihicaaGreatDoorE
abbrev ZA1:List Lf×Bool:=([.int .i64],false)
abbrev ZvS:List Lf×Bool:=([.int .i64,.int .i64,.sl true [.int .i64,.int .i64,.int .i64],.sl true [.int .i64,.int .i64],.sl true [.int .i64,.int .i64,.int .i64],.sl true [.sl false [.int .i64],.sl false [.int .i64]]],true)
abbrev Zvy:List Lf×Bool:=([.sl false [.int .i64]],false)
abbrev ZoR:List Lf×Bool:=([.sl false [.bool],.sl false [.int .i64]],true)
end Go.Proofs.YtnmbdjkbaihicaaGreatDoor
namespace Go.Proofs.YtnmbdjkbaihicaaGreatDoor
open Go Go.Proofs.YtnmbdjkbaihicaaGreatDoorE
set_option linter.unusedVariables false
set_option linter.unusedSimpArgs false
theorem Ztw (d:Zi) (input:List Int) (m o:Zy) (n:Int) (wi:Zpj input) (wv:Zpj m.vals):Zgm d input m o n=some true:=by
 have aw:Zgb=some true:=rfl
 unfold Zgm
 simp only[aw,Option.bind_some,cond_true,ZFz]
 cases hf:(few d&&(decide ((input.length:Int)≤60)&&(decide ((m.done.length:Int)≤70)&&decide ((m.vals.length:Int)≤70)))) with
 | false=>rfl
 | true=>
  cases hg:(few d&&(decide ((input.length:Int)≤60)&&(decide ((o.done.length:Int)≤70)&&decide ((o.vals.length:Int)≤70)))) with
  | false=>rfl
  | true=>
   obtain⟨hz,hi,m1,m2⟩:=Zyx hf
   obtain⟨_,_,o1,o2⟩:=Zyx hg
   have gl:=ZDF (d:=d) input m n (by omega) (by omega)
   simp only[cond_true,ZHt d hz,Option.bind_some,Zfp (show input.length≤1073741824 by omega),ZzH (show m.done.length≤1000 by omega) (show m.vals.length≤1000 by omega),ZzH (show o.done.length≤1000 by omega) (show o.vals.length≤1000 by omega),
    show Zi.mk d.period d.deadline d.parts d.edges d.futures d.barriers=d from rfl,ZxA hz input (show input.length≤1000 by omega),ZvL hz input (show input.length≤1000 by omega) wi m wv,Zra hz,Zzj hz,ZyU hz,
    ZsL _ _ (show(goM d input m n).1.done.length<9223372036854775808 by omega) (show(goM d input m n).1.vals.length<9223372036854775808 by omega),decide_true,Bool.and_self,beq_self_eq_true,
    ZyO m o (by omega) (by omega),ZsL m o (by omega) (by omega)]
   by_cases hc:Zjs d m=0
   ·obtain⟨hl,hr⟩:=Zzr hc
    have on:=(ZnO hr).1.n
    have hn64:ZgC d≤64:=(ZgS hl.2).1.wl
    have rl:(ZqG d m).length≤64:=Nat.le_trans (Ziq _ _) hn64
    rw[hc,if_pos ⟨hl,hr⟩]
    simp only[beq_self_eq_true,cond_true,bne_self_eq_false,cond_false,ZxK hz hl on,Option.bind_some,ZtF _ _ (show(ZqG d m).length<9223372036854775808 by omega),decide_true]
    cases decide (m.done=o.done)<;>cases decide (m.vals=o.vals)<;>rfl
   ·have hn:¬(ZhU d∧Zg0 d m=true):=fun⟨hl,hr⟩=>hc (by
     unfold Zjs
     rw[@decide_eq_true _ (Classical.propDecidable _) hl,hr]
     rfl)
    rw[show(Zjs d m==0)=false by simpa using hc,show(Zjs d m != 0)=true by simpa using hc,if_neg hn]
    simp only[cond_false,cond_true,List.length_nil]
    rw[decide_eq_false (show ¬((0:Int)<((0:Nat):Int)) by omega)]
    simp only[cond_false]
    cases decide (m.done=o.done)<;>cases decide (m.vals=o.vals)<;>rfl
theorem ZuL (xs:List D) (h:ZgV ZvS.1 xs) (ys:List D) (k:ZgV Zvy.1 ys) (zs:List D) (m:ZgV ZoR.1 zs) (vs:List D) (n:ZgV ZoR.1 vs) (us:List D) (q:ZgV ZA1.1 us) :
  ∃H',evW ctx 3 (Zdc [Zod ZvS.2 xs,Zod Zvy.2 ys,Zod ZoR.2 zs,Zod ZoR.2 vs,Zod ZA1.2 us]) []=some (.d (.bool true),H'):=by
 obtain⟨d,hd,_⟩:=ZCG h
 obtain⟨a,ha,oka⟩:=ZDa k
 obtain⟨s,hs,oks⟩:=Zpo m
 obtain⟨t,ht,_⟩:=Zpo n
 obtain⟨p,hp,_⟩:=ZE0 q
 show ∃H',evW ctx 3 [.d (D.agg xs),.d (Zod false ys),.d (D.agg zs),.d (D.agg vs),.d (Zod false us)] []=_
 rw[hd,ha,hs,ht,hp]
 exact ZCu (Znu true (Ztw d a s t p oka.2 oks.2))
end Go.Proofs.YtnmbdjkbaihicaaGreatDoor
namespace Go.Proofs.YtnmbdjkbaihicaaGreatDoor.LawEvalSteps
open Go.ChangeShapes Go.WideShapes Go.ChangeAt Go.RowKit Go.Proofs.YtnmbdjkbaihicaaGreatDoorE
set_option linter.unusedVariables false
theorem own:ownKnob Tryz.prog.godebug=none:=by kernel_rfl
theorem ZpZ:laidOutB Tryz.prog=true:=by kernel_rfl
def Ztn : List (String × DataW Unit) := [("math/bits.deBruijn32tab", Rows.laid_math_bits_deBruijn32tab), ("math/bits.deBruijn64tab", Rows.laid_math_bits_deBruijn64tab)]
theorem ZB0 (os:Os) (args:Array Value):laidMetH Tryz.prog Ztn ((World.doorLaid Tryz.prog 19 os).forCall (fun _ _=>0) ⟨#[],args,[]⟩).memory:=
 laidMetH_of_parts3 (fuel:=8) (laidMet_of_run' 8 (by kernel_rfl) (by kernel_rfl)) (by kernel_rfl) (by kernel_rfl)
theorem ZAn {W:World} (h:laidMetH Tryz.prog Ztn W):GOK Zq R0 W:=by
 intro g l hg
 unfold Zq at hg
 split at hg
 ·cases hg
  exact ZsV (t := 145) (N := 32) (e := 5) (k := .u8) h (by kernel_rfl) (n := "math/bits.deBruijn32tab") (by rw [show DataW.agg (Zo8 ZDW) = Rows.laid_math_bits_deBruijn32tab by kernel_rfl]; simp [Ztn]) (by kernel_rfl) (by kernel_rfl) (by kernel_rfl) (by kernel_rfl) (by kernel_rfl) (by kernel_rfl) (by decide)
 ·cases hg
  exact ZsV (t := 146) (N := 64) (e := 5) (k := .u8) h (by kernel_rfl) (n := "math/bits.deBruijn64tab") (by rw [show DataW.agg (Zo8 ZDN) = Rows.laid_math_bits_deBruijn64tab by kernel_rfl]; simp [Ztn]) (by kernel_rfl) (by kernel_rfl) (by kernel_rfl) (by kernel_rfl) (by kernel_rfl) (by kernel_rfl) (by decide)
 ·cases hg
theorem ZE9 (os:Os) (started:os.Started) (H:Type) (enc:TypeId×Value→H) :
  ReturnsInHanded {} Tryz.checked os 3 .any (fun w args=>(Rows.evalStepsSpec.pre enc Tryz.prog Tryz.f3 [] false w args∧laidMetH Tryz.prog Ztn w)∧sizedMet enc Tryz.prog Tryz.f3 (OpenSpec.ofChange Rows.evalStepsSpec) false w args) (Rows.evalStepsSpec.post enc Tryz.prog Tryz.f3 false true false false):=by
 refine returnsInHanded_of_change_and (C:=Tryz.checked) (X:=fun w _=>laidMetH Tryz.prog Ztn w) (fun _ _ _ hh h=>h.of_heap hh) own started (by kernel_rfl) Tryz.func3
  (ChangeSpec.witness_shaped (enc:=enc) (C:=Tryz.checked) (os:=os) (X:=fun w _=>laidMetH Tryz.prog Ztn w) false (World.doorLaid Tryz.prog 19 os) #[.agg #[.int .i64 0,.int .i64 0,.slice none 0 0,.slice none 0 0,.slice none 0 0,.slice none 0 0],.slice none 0 0,.agg #[.slice none 0 0,.slice none 0 0],.agg #[.slice none 0 0,.slice none 0 0],.int .i64 0] 8 rfl (World.shaped_of_RefB (by kernel_rfl) (by kernel_rfl)) (by kernel_rfl) (by kernel_rfl) (by kernel_rfl) (ZB0 os _)) ?_
 intro W base args ds gs before hval0 hW _ _ hL _
 have hval:∀(j:Nat) t v,Tryz.f3.params[j]? = some t→args[j]? = some v→Value.okWide Tryz.prog W .any base t v:=hval0
 have hW':=hW
 obtain⟨p,q,hA0,hV,rfl,hfz,hnd⟩:=hW
 have hA:DataW.TrodAll enc Tryz.prog W 0 (fun _=>true) true Tryz.f3.params.toList args.toList ds p:=hA0
 rw[Tryz.params3] at hA hval
 obtain⟨v0,vs0,d0,ds0,p0,q0,hargs,rfl,rfl,h0,r0⟩:=trodAll_cons hA
 obtain⟨v1,vs1,d1,ds1,p1,q1,rfl,rfl,rfl,h1,r1⟩:=trodAll_cons r0
 obtain⟨v2,vs2,d2,ds2,p2,q2,rfl,rfl,rfl,h2,r2⟩:=trodAll_cons r1
 obtain⟨v3,vs3,d3,ds3,p3,q3,rfl,rfl,rfl,h3,r3⟩:=trodAll_cons r2
 obtain⟨v4,vs4,d4,ds4,p4,q4,rfl,rfl,rfl,h4,r4⟩:=trodAll_cons r3
 obtain⟨rfl,rfl,rfl⟩:=trodAll_nil r4
 obtain rfl:args = #[v0,v1,v2,v3,v4]:=by cases args;simp_all
 obtain⟨rfl,rfl⟩:=trodVars_none hV
 have lt0:∀x∈p0,x.block<W.heap.size:=by obtain⟨m,hm⟩:=h0;exact DataW.trod_lt m _ _ _ hm
 obtain⟨x0,ok0,den0⟩:=Zsk (P:=Tryz.prog) (n:=8) (t:=27) (l:=ZvS.1) (ag:=ZvS.2) (by kernel_rfl) (hval 0 27 v0 rfl rfl) h0
 have lt1:∀x∈p1,x.block<W.heap.size:=by obtain⟨m,hm⟩:=h1;exact DataW.trod_lt m _ _ _ hm
 obtain⟨x1,ok1,den1⟩:=Zsk (P:=Tryz.prog) (n:=8) (t:=28) (l:=Zvy.1) (ag:=Zvy.2) (by kernel_rfl) (hval 1 28 v1 rfl rfl) h1
 have lt2:∀x∈p2,x.block<W.heap.size:=by obtain⟨m,hm⟩:=h2;exact DataW.trod_lt m _ _ _ hm
 obtain⟨x2,ok2,den2⟩:=Zsk (P:=Tryz.prog) (n:=8) (t:=31) (l:=ZoR.1) (ag:=ZoR.2) (by kernel_rfl) (hval 2 31 v2 rfl rfl) h2
 have lt3:∀x∈p3,x.block<W.heap.size:=by obtain⟨m,hm⟩:=h3;exact DataW.trod_lt m _ _ _ hm
 obtain⟨x3,ok3,den3⟩:=Zsk (P:=Tryz.prog) (n:=8) (t:=31) (l:=ZoR.1) (ag:=ZoR.2) (by kernel_rfl) (hval 3 31 v3 rfl rfl) h3
 have lt4:∀x∈p4,x.block<W.heap.size:=by obtain⟨m,hm⟩:=h4;exact DataW.trod_lt m _ _ _ hm
 obtain⟨x4,ok4,den4⟩:=Zsk (P:=Tryz.prog) (n:=8) (t:=3) (l:=ZA1.1) (ag:=ZA1.2) (by kernel_rfl) (hval 4 3 v4 rfl rfl) h4
 obtain⟨H1,ev⟩:=ZuL x0 ok0 x1 ok1 x2 ok2 x3 ok3 x4 ok4
 have den:Zbb All All All W [Zod ZvS.2 x0,Zod Zvy.2 x1,Zod ZoR.2 x2,Zod ZoR.2 x3,Zod ZA1.2 x4] [v0,v1,v2,v3,v4]:=⟨_,_,rfl,den0,⟨_,_,rfl,den1,⟨_,_,rfl,den2,⟨_,_,rfl,den3,⟨_,_,rfl,den4,rfl⟩⟩⟩⟩⟩
 refine(Zzt ZGO (ZAn hL) den ev).mono fun e W' ⟨he,bel⟩=>?_
 subst he
 exact⟨_,rfl,_,_,_,[],_,[],hW',trodAll_mk1 (shut_bool Tryz.underlying4 _),(trodAll_cons_mk (Below.trod ZpZ (by kernel_rfl) (of_decide_eq_true (by kernel_rfl)) h0 bel lt0) (trodAll_cons_mk (Below.trod ZpZ (by kernel_rfl) (of_decide_eq_true (by kernel_rfl)) h1 bel lt1) (trodAll_cons_mk (Below.trod ZpZ (by kernel_rfl) (of_decide_eq_true (by kernel_rfl)) h2 bel lt2) (trodAll_cons_mk (Below.trod ZpZ (by kernel_rfl) (of_decide_eq_true (by kernel_rfl)) h3 bel lt3) (trodAll_cons_mk (Below.trod ZpZ (by kernel_rfl) (of_decide_eq_true (by kernel_rfl)) h4 bel lt4) trodAll_mk0))))),rfl,bel.frame _,fun h=>by cases h⟩
theorem over:Rows.evalStepsRow.holds Tryz.pinned (OpenSpec.ofChange Rows.evalStepsSpec):=
 OpenClaim.holds_of_wide 3 Tryz.f3 rfl rfl rfl rfl rfl rfl rfl ⟨rfl,rfl,rfl,rfl,rfl⟩ rfl rfl rfl rfl rfl (by kernel_rfl) Tryz.func3 (by kernel_rfl)
  (of_decide_eq_true (by kernel_rfl)) (by unfold Func.isWrapper;first | (rw[if_pos (by decide +kernel)];kernel_rfl) | (rw[if_neg (by decide +kernel)];exact⟨rfl,rfl⟩))
  (fun os started H enc _=>ZE9 os started H enc)
theorem proved:Rows.EvalStepsSaid:=over
theorem carded:Rows.EvalStepsCardSaid:=
 Claim7.holds_tied_plain_at .later [] [.data, .data] true (true, "9d4c3a98efcc6f35452df6eff8f6fff9e7c70124e2ba0835c5e94d365ee12256") false
  proved (fun _ h=>by cases h) (by kernel_rfl) (fun _ h=>by cases h) evalSteps_row_tie rfl ⟨rfl,rfl⟩ (by kernel_rfl) rfl
  (fun f fn hf hfn=>by
   obtain rfl : f = 3 := Option.some.inj ((show Tryz.prog.funcNamed "trefoil/trefoillaw08.EvalSteps" = some 3 by kernel_rfl).symm.trans hf) |>.symm
   obtain rfl:fn=Tryz.f3:=(Option.some.inj (Tryz.func3.symm.trans hfn)).symm
   exact⟨by kernel_rfl,fun j t ht=>by
    rw[Tryz.params3] at ht
    have hm:t∈[27,28,31,31,3]:=by simpa using Array.mem_of_getElem? ht
    have hall:([27,28,31,31,3].all fun u=>!Tryz.prog.wantsStandIn u)=true:=by kernel_rfl
    exact(show Tryz.prog.wantsStandIn t=false by simpa using List.all_eq_true.1 hall t hm)⟩)
  (by kernel_rfl)
end Go.Proofs.YtnmbdjkbaihicaaGreatDoor.LawEvalSteps
namespace Go.Proofs.YtnmbdjkbaihicaaGreatDoor
theorem evalSteps_holds:Rows.EvalStepsCardSaid:=LawEvalSteps.carded
#print axioms evalSteps_holds
end Go.Proofs.YtnmbdjkbaihicaaGreatDoor
