/- EvalReady: part 6 of 6 of the proof: the row and the card of the law, out of what the evaluator says of it; without conditions. -/
import Derived.Test.YtnmbdjkbaihicaaDoorZEvalReadye
import Derived.KernelRfl
import Derived.Test.YtnmbdjkbaihicaaDoorRows
import Derived.Test.YtnmbdjkbaihicaaDoorCards
import Derived.Test.YtnmbdjkbaihicaaDoorTie
import Derived.WalkKit
import Derived.ProofKit
import Derived.OpenShut
import Derived.ShutString
import Derived.ChangeOld
import Derived.Below
import Derived.SizedLaws
import Derived.Handed
import Derived.LaidMore
import Derived.Stop.Joined
import Derived.ChangeShapes
import Derived.Carry
import Derived.SevenTiedAt
set_option maxRecDepth 100000
set_option maxHeartbeats 40000000
namespace Go.Proofs.YtnmbdjkbaihicaaDoor
open Go Go.Proofs.YtnmbdjkbaihicaaDoorE
set_option linter.unusedVariables false
set_option linter.unusedSimpArgs false
def Zgq (b:Zh) (c:Int) (m1_0:(List Int)) (m2_0:(List Zm)) (m3_0:(List Zh)) (m4_0:(List (Int×Int))) (m5_0:(List (Int×Int))) (m6_0:(List (Zi×Int))):Unit→V×Zo
  | r=>((.d (Zb (w64 ((List.length (m3_0++[b]):Int)-1)))),[(.cells [(.sl 7 1),(.sl 2 2),(.sl 8 2),(.mp 4),(.mp 5),(.mp 6)]),.dead,(.arr 2 (List.map ZD m2_0)),.dead,(.mp (mpD Zb Zb m4_0)),(.mp (mpD Zb Zb m5_0)),(.mp (mpD Zq Zb m6_0)),(.arr 1 (List.map Zb (m1_0++[c]))),(.arr 2 (List.map Zbl (m3_0++[b])))])
theorem ZaO {b:Zh}{c:Int}{m1_0:(List Int)}{m2_0:(List Zm)}{m3_0:(List Zh)}{m4_0:(List (Int×Int))}{m5_0:(List (Int×Int))}{m6_0:(List (Zi×Int))}:∀r,(Zal b c m1_0 m3_0)=some r→evW ctx 68 [(.ptr 0 0),(.d (D.agg [(Zb b.part),(Zb b.step)])),(.d (Zb c))] [(.cells [(.sl 1 1),(.sl 2 2),(.sl 3 2),(.mp 4),(.mp 5),(.mp 6)]),(.arr 1 (List.map Zb m1_0)),(.arr 2 (List.map ZD m2_0)),(.arr 2 (List.map Zbl m3_0)),(.mp (mpD Zb Zb m4_0)),(.mp (mpD Zb Zb m5_0)),(.mp (mpD Zq Zb m6_0))]=some ((Zgq b c m1_0 m2_0 m3_0 m4_0 m5_0 m6_0) r):=by
 show ZM _ (fun r rhs=>rhs=some ((Zgq b c m1_0 m2_0 m3_0 m4_0 m5_0 m6_0) r)) _
 unfold Zal
 rw[Zff ctx 68 Zy4 _ _ rfl rfl]
 conv=>arg 3;whnf
 refine ZaT rfl ?_;conv=>arg 3;whnf
 refine Zf (ZgQ Zbl m3_0 1) ?_ ?_
 ·conv=>arg 3;whnf
  refine Zn (ZgP Zbl m3_0 [b]) ?_;conv=>arg 3;whnf
  refine ZaT rfl ?_;conv=>arg 3;whnf
  refine Zf (ZgQ Zb m1_0 1) ?_ ?_
  ·conv=>arg 3;whnf
   refine Zn (ZgP Zb m1_0 [c]) ?_;conv=>arg 3;whnf
   refine Zn (ZF _ _) ?_;conv=>arg 3;whnf
   exact Zd rfl
  ·exact Zaj
 ·exact Zaj
def Zgt (b:Int) (c:Int) (m1_0:(List Int)) (m2_0:(List Zm)) (m3_0:(List Zh)) (m4_0:(List (Int×Int))) (m5_0:(List (Int×Int))) (m6_0:(List (Zi×Int))):Unit→V×Zo
  | r=>((.d (D.tup [])),[(.cells [(.sl 1 1),(.sl 7 2),(.sl 3 2),(.mp 4),(.mp 5),(.mp 6)]),(.arr 1 (List.map Zb m1_0)),.dead,(.arr 2 (List.map Zbl m3_0)),(.mp (mpD Zb Zb m4_0)),(.mp (mpD Zb Zb m5_0)),(.mp (mpD Zq Zb m6_0)),(.arr 2 (List.map ZD (m2_0++[(Zm.mk b c)])))])
theorem Zas {b:Int}{c:Int}{m1_0:(List Int)}{m2_0:(List Zm)}{m3_0:(List Zh)}{m4_0:(List (Int×Int))}{m5_0:(List (Int×Int))}{m6_0:(List (Zi×Int))}:∀r,(ZI b c m2_0)=some r→evW ctx 67 [(.ptr 0 0),(.d (Zb b)),(.d (Zb c))] [(.cells [(.sl 1 1),(.sl 2 2),(.sl 3 2),(.mp 4),(.mp 5),(.mp 6)]),(.arr 1 (List.map Zb m1_0)),(.arr 2 (List.map ZD m2_0)),(.arr 2 (List.map Zbl m3_0)),(.mp (mpD Zb Zb m4_0)),(.mp (mpD Zb Zb m5_0)),(.mp (mpD Zq Zb m6_0))]=some ((Zgt b c m1_0 m2_0 m3_0 m4_0 m5_0 m6_0) r):=by
 show ZM _ (fun r rhs=>rhs=some ((Zgt b c m1_0 m2_0 m3_0 m4_0 m5_0 m6_0) r)) _
 unfold ZI
 rw[Zff ctx 67 Zzm _ _ rfl rfl]
 conv=>arg 3;whnf
 refine ZaT rfl ?_;conv=>arg 3;whnf
 refine Zf (ZgQ ZD m2_0 1) ?_ ?_
 ·conv=>arg 3;whnf
  refine Zn (ZgP ZD m2_0 [(Zm.mk b c)]) ?_;conv=>arg 3;whnf
  exact Zd rfl
 ·exact Zaj
def Zgs (t0:Bool) (t1:Bool) (t2:Bool) (t3:Bool) (b:Zj) (c:Int) (m1_0:(List Int)) (m2_0:(List Zm)) (m3_0:(List Zh)) (m4_0:(List (Int×Int))) (m5_0:(List (Int×Int))) (m6_0:(List (Zi×Int))):(((List (Int×Int))×(List (Zi×Int))×(List Int)×(List Zm)×(List Zh))⊕((List Int)⊕Unit))→V×Zo
  | (.inl r)=>((.d (D.tup [])),[(.cells [(.sl 7 1),(.sl 8 2),(.sl 9 2),(.mp 4),(.mp 5),(.mp 6)]),.dead,.dead,.dead,(.mp (mpD Zb Zb (Zu (fun ka kb:Int=>(ka==kb)) m4_0 c (m3_0.length:Int)))),(.mp (mpD Zb Zb r.1)),(.mp (mpD Zq Zb r.2.1)),(.arr 1 (List.map Zb r.2.2.1)),(.arr 2 (List.map ZD r.2.2.2.1)),(.arr 2 (List.map Zbl r.2.2.2.2))])
  | (.inr (.inl r))=>((.d (D.tup [])),[(.cells [(.sl 7 1),(.sl 2 2),(.sl 8 2),(.mp 4),(.mp 5),(.mp 6)]),.dead,(.arr 2 (List.map ZD m2_0)),.dead,(.mp (mpD Zb Zb (Zu (fun ka kb:Int=>(ka==kb)) m4_0 c (m3_0.length:Int)))),(.mp (mpD Zb Zb (Zu (fun ka kb:Int=>(ka==kb)) m5_0 c (w64 ((List.length (m3_0++[(Zh.mk c 0)]):Int)-1))))),(.mp (mpD Zq Zb m6_0)),(.arr 1 (List.map Zb r)),(.arr 2 (List.map Zbl (m3_0++[(Zh.mk c 0)])))])
  | (.inr (.inr r))=>((.d (D.tup [])),[(.cells [(.sl 1 1),(.sl 2 2),(.sl 3 2),(.mp 4),(.mp 5),(.mp 6)]),(.arr 1 (List.map Zb m1_0)),(.arr 2 (List.map ZD m2_0)),(.arr 2 (List.map Zbl m3_0)),(.mp (mpD Zb Zb (Zu (fun ka kb:Int=>(ka==kb)) m4_0 c (m3_0.length:Int)))),(.mp (mpD Zb Zb m5_0)),(.mp (mpD Zq Zb m6_0))])
def ZfQ (t0:Bool) (t1:Bool) (t2:Bool) (t3:Bool) (b:Zj) (c:Int) (m3_0:(List Zh)) (m4_0:(List (Int×Int))) (x0:(List Int)):((List (Int×Int))×(List (Zi×Int))×(List Int)×(List Zm)×(List Zh))→Ex×List V×Zo
  | r=>(.exit 0,[],[(.cells [(.sl 7 1),(.sl 8 2),(.sl 9 2),(.mp 4),(.mp 5),(.mp 6)]),.dead,.dead,.dead,(.mp (mpD Zb Zb (Zu (fun ka kb:Int=>(ka==kb)) m4_0 c (m3_0.length:Int)))),(.mp (mpD Zb Zb r.1)),(.mp (mpD Zq Zb r.2.1)),(.arr 1 (List.map Zb r.2.2.1)),(.arr 2 (List.map ZD r.2.2.2.1)),(.arr 2 (List.map Zbl r.2.2.2.2))])
theorem ZcO {t0:Bool}{t1:Bool}{t2:Bool}{t3:Bool}{b:Zj}{c:Int}{m3_0:(List Zh)}{m4_0:(List (Int×Int))}{x0:(List Int)}:∀(s14:Int×Int×(List (Int×Int))×(List (Zi×Int))×(List Int)×(List Zm)×(List Zh)) (r:((List (Int×Int))×(List (Zi×Int))×(List Int)×(List Zm)×(List Zh))),lp (ZA b c x0) s14=some r→lpW ctx 7 [0,2,4,6,7,26,27] [] ZoJ [(.ptr 0 0),(.d (Zb c)),(.ptr 7 0),(.d (Zb s14.1)),(.d (D.list true (List.map Zb x0))),(.d (Zb (w64 ((x0.length:Int)+1)))),(.d (Zb s14.2.1))] [(.cells [(.sl 8 1),(.sl 9 2),(.sl 10 2),(.mp 4),(.mp 5),(.mp 6)]),.dead,.dead,.dead,(.mp (mpD Zb Zb (Zu (fun ka kb:Int=>(ka==kb)) m4_0 c (m3_0.length:Int)))),(.mp (mpD Zb Zb s14.2.2.1)),(.mp (mpD Zq Zb s14.2.2.2.1)),(.cells (dV t0 t1 t2 t3 b)),(.arr 1 (List.map Zb s14.2.2.2.2.1)),(.arr 2 (List.map ZD s14.2.2.2.2.2.1)),(.arr 2 (List.map Zbl s14.2.2.2.2.2.2))]=some ((ZfQ t0 t1 t2 t3 b c m3_0 m4_0 x0) r):=by
 refine ZaG (ZfQ t0 t1 t2 t3 b c m3_0 m4_0 x0) ?_
 intro s14 rcl ih
 show ZM _ _ (lpW _ _ _ _ _ _ _)
 unfold ZA
 rw[ZaH]
 conv=>arg 3;whnf
 refine Zf rfl ?_ ?_<;>conv=>arg 3;whnf
 ·refine Zl rfl rfl fun x15 hx15=>?_;conv=>arg 3;whnf
  refine Zn (ZF _ _) ?_;conv=>arg 3;whnf
  refine Zf rfl ?_ ?_<;>conv=>arg 3;whnf
  ·refine Zl rfl rfl fun x16 hx16=>?_;conv=>arg 3;whnf
   refine Zl rfl rfl fun x17 hx17=>?_;conv=>arg 3;whnf
   refine Zc _ ZaO fun x18 hx18=>?_;conv=>arg 3;whnf
   refine Zg (Zdt (f:=Zb) (g:=Zb) (fun ka kb:Int=>(ka==kb)) (fun _ _=>rfl) s14.2.2.1 c (w64 ((List.length (s14.2.2.2.2.2.2++[(Zh.mk c s14.2.1)]):Int)-1))) ?_;conv=>arg 3;whnf
   refine Zf rfl ?_ ?_<;>conv=>arg 3;whnf
   ·refine Zg (Zbt (f:=Zb) (g:=Zb) (fun ka kb:Int=>(ka==kb)) (fun _ _=>rfl) (Zu (fun ka kb:Int=>(ka==kb)) s14.2.2.1 c (w64 ((List.length (s14.2.2.2.2.2.2++[(Zh.mk c s14.2.1)]):Int)-1))) c 0) ?_;conv=>arg 3;whnf
    refine Zg (Zbt (f:=Zb) (g:=Zb) (fun ka kb:Int=>(ka==kb)) (fun _ _=>rfl) (Zu (fun ka kb:Int=>(ka==kb)) s14.2.2.1 c (w64 ((List.length (s14.2.2.2.2.2.2++[(Zh.mk c s14.2.1)]):Int)-1))) c 0) ?_;conv=>arg 3;whnf
    refine Zc _ Zas fun x19 hx19=>?_;conv=>arg 3;whnf
    refine Zl rfl rfl fun x20 hx20=>?_;conv=>arg 3;whnf
    refine Zl rfl rfl fun x21 hx21=>?_;conv=>arg 3;whnf
    refine Zg (Zbt (f:=Zb) (g:=Zb) (fun ka kb:Int=>(ka==kb)) (fun _ _=>rfl) (Zu (fun ka kb:Int=>(ka==kb)) s14.2.2.1 c (w64 ((List.length (s14.2.2.2.2.2.2++[(Zh.mk c s14.2.1)]):Int)-1))) c 0) ?_;conv=>arg 3;whnf
    refine Zg (Zdt (f:=Zq) (g:=Zb) (fun ka kb:Zi=>((ka.maker==kb.maker)&&((ka.user==kb.user)&&((ka.pos==kb.pos)&&true)))) (fun _ _=>rfl) s14.2.2.2.1 x21 (Z3 (fun ka kb:Int=>(ka==kb)) (Zu (fun ka kb:Int=>(ka==kb)) s14.2.2.1 c (w64 ((List.length (s14.2.2.2.2.2.2++[(Zh.mk c s14.2.1)]):Int)-1))) c 0)) ?_;conv=>arg 3;whnf
    exact Ze (ih _)
   ·exact Ze (ih _)
  ·refine Zc _ ZaO fun x22 hx22=>?_;conv=>arg 3;whnf
   refine Zg (Zdt (f:=Zb) (g:=Zb) (fun ka kb:Int=>(ka==kb)) (fun _ _=>rfl) s14.2.2.1 c (w64 ((List.length (s14.2.2.2.2.2.2++[(Zh.mk c s14.2.1)]):Int)-1))) ?_;conv=>arg 3;whnf
   refine Zf rfl ?_ ?_<;>conv=>arg 3;whnf
   ·refine Zg (Zbt (f:=Zb) (g:=Zb) (fun ka kb:Int=>(ka==kb)) (fun _ _=>rfl) (Zu (fun ka kb:Int=>(ka==kb)) s14.2.2.1 c (w64 ((List.length (s14.2.2.2.2.2.2++[(Zh.mk c s14.2.1)]):Int)-1))) c 0) ?_;conv=>arg 3;whnf
    refine Zg (Zbt (f:=Zb) (g:=Zb) (fun ka kb:Int=>(ka==kb)) (fun _ _=>rfl) (Zu (fun ka kb:Int=>(ka==kb)) s14.2.2.1 c (w64 ((List.length (s14.2.2.2.2.2.2++[(Zh.mk c s14.2.1)]):Int)-1))) c 0) ?_;conv=>arg 3;whnf
    refine Zc _ Zas fun x23 hx23=>?_;conv=>arg 3;whnf
    refine Zl rfl rfl fun x24 hx24=>?_;conv=>arg 3;whnf
    refine Zl rfl rfl fun x25 hx25=>?_;conv=>arg 3;whnf
    refine Zg (Zbt (f:=Zb) (g:=Zb) (fun ka kb:Int=>(ka==kb)) (fun _ _=>rfl) (Zu (fun ka kb:Int=>(ka==kb)) s14.2.2.1 c (w64 ((List.length (s14.2.2.2.2.2.2++[(Zh.mk c s14.2.1)]):Int)-1))) c 0) ?_;conv=>arg 3;whnf
    refine Zg (Zdt (f:=Zq) (g:=Zb) (fun ka kb:Zi=>((ka.maker==kb.maker)&&((ka.user==kb.user)&&((ka.pos==kb.pos)&&true)))) (fun _ _=>rfl) s14.2.2.2.1 x25 (Z3 (fun ka kb:Int=>(ka==kb)) (Zu (fun ka kb:Int=>(ka==kb)) s14.2.2.1 c (w64 ((List.length (s14.2.2.2.2.2.2++[(Zh.mk c s14.2.1)]):Int)-1))) c 0)) ?_;conv=>arg 3;whnf
    exact Ze (ih _)
   ·exact Ze (ih _)
 ·exact Zd rfl
def Zfh (t0:Bool) (t1:Bool) (t2:Bool) (t3:Bool) (b:Zj) (c:Int) (m1_0:(List Int)) (m2_0:(List Zm)) (m3_0:(List Zh)) (m4_0:(List (Int×Int))) (m5_0:(List (Int×Int))) (m6_0:(List (Zi×Int))) (x0:(List Int)) (x4:Zi):(((List (Int×Int))×(List (Zi×Int))×(List Int)×(List Zm)×(List Zh))⊕Unit)→Ex×List V×Zo
  | (.inl r)=>(.exit 0,[],[(.cells [(.sl 7 1),(.sl 8 2),(.sl 9 2),(.mp 4),(.mp 5),(.mp 6)]),.dead,.dead,.dead,(.mp (mpD Zb Zb (Zu (fun ka kb:Int=>(ka==kb)) m4_0 c (m3_0.length:Int)))),(.mp (mpD Zb Zb r.1)),(.mp (mpD Zq Zb r.2.1)),(.arr 1 (List.map Zb r.2.2.1)),(.arr 2 (List.map ZD r.2.2.2.1)),(.arr 2 (List.map Zbl r.2.2.2.2))])
  | (.inr r)=>(.exit 0,[],[(.cells [(.sl 7 1),(.sl 2 2),(.sl 8 2),(.mp 4),(.mp 5),(.mp 6)]),.dead,(.arr 2 (List.map ZD m2_0)),.dead,(.mp (mpD Zb Zb (Zu (fun ka kb:Int=>(ka==kb)) m4_0 c (m3_0.length:Int)))),(.mp (mpD Zb Zb (Zu (fun ka kb:Int=>(ka==kb)) m5_0 c (w64 ((List.length (m3_0++[(Zh.mk c 0)]):Int)-1))))),(.mp (mpD Zq Zb m6_0)),(.arr 1 (List.map Zb (m1_0++[(w64 (x4.pos-0))]))),(.arr 2 (List.map Zbl (m3_0++[(Zh.mk c 0)])))])
theorem Zhs {t0:Bool}{t1:Bool}{t2:Bool}{t3:Bool}{b:Zj}{c:Int}{m1_0:(List Int)}{m2_0:(List Zm)}{m3_0:(List Zh)}{m4_0:(List (Int×Int))}{m5_0:(List (Int×Int))}{m6_0:(List (Zi×Int))}{x0:(List Int)}{x4:Zi}:∀(s6:Unit) (r:(((List (Int×Int))×(List (Zi×Int))×(List Int)×(List Zm)×(List Zh))⊕Unit)),lp (Zbv b c m1_0 m2_0 m3_0 m5_0 m6_0 x0 x4) s6=some r→lpW ctx 7 [0,2,4,6,7,26,27] [] ZoJ [(.ptr 0 0),(.d (Zb c)),(.ptr 7 0),(.d (Zb x4.pos)),(.d (D.list true (List.map Zb x0))),(.d (Zb (w64 ((x0.length:Int)+1)))),(.d (Zb 1))] [(.cells [(.sl 8 1),(.sl 2 2),(.sl 9 2),(.mp 4),(.mp 5),(.mp 6)]),.dead,(.arr 2 (List.map ZD m2_0)),.dead,(.mp (mpD Zb Zb (Zu (fun ka kb:Int=>(ka==kb)) m4_0 c (m3_0.length:Int)))),(.mp (mpD Zb Zb (Zu (fun ka kb:Int=>(ka==kb)) m5_0 c (w64 ((List.length (m3_0++[(Zh.mk c 0)]):Int)-1))))),(.mp (mpD Zq Zb m6_0)),(.cells (dV t0 t1 t2 t3 b)),(.arr 1 (List.map Zb (m1_0++[(w64 (x4.pos-0))]))),(.arr 2 (List.map Zbl (m3_0++[(Zh.mk c 0)])))]=some ((Zfh t0 t1 t2 t3 b c m1_0 m2_0 m3_0 m4_0 m5_0 m6_0 x0 x4) r):=by
 refine ZaG (Zfh t0 t1 t2 t3 b c m1_0 m2_0 m3_0 m4_0 m5_0 m6_0 x0 x4) ?_
 intro s6 rcl ih
 show ZM _ _ (lpW _ _ _ _ _ _ _)
 unfold Zbv
 rw[ZaH]
 conv=>arg 3;whnf
 refine Zf rfl ?_ ?_<;>conv=>arg 3;whnf
 ·refine Zl rfl rfl fun x7 hx7=>?_;conv=>arg 3;whnf
  refine Zn (ZF _ _) ?_;conv=>arg 3;whnf
  refine Zf rfl ?_ ?_<;>conv=>arg 3;whnf
  ·refine Zl rfl rfl fun x8 hx8=>?_;conv=>arg 3;whnf
   refine Zl rfl rfl fun x9 hx9=>?_;conv=>arg 3;whnf
   refine Zc _ ZaO fun x10 hx10=>?_;conv=>arg 3;whnf
   refine Zg (Zdt (f:=Zb) (g:=Zb) (fun ka kb:Int=>(ka==kb)) (fun _ _=>rfl) (Zu (fun ka kb:Int=>(ka==kb)) m5_0 c (w64 ((List.length (m3_0++[(Zh.mk c 0)]):Int)-1))) c (w64 ((List.length ((m3_0++[(Zh.mk c 0)])++[(Zh.mk c 1)]):Int)-1))) ?_;conv=>arg 3;whnf
   refine ZaT rfl ?_;conv=>arg 3;whnf
   refine Zg (Zbt (f:=Zb) (g:=Zb) (fun ka kb:Int=>(ka==kb)) (fun _ _=>rfl) (Zu (fun ka kb:Int=>(ka==kb)) (Zu (fun ka kb:Int=>(ka==kb)) m5_0 c (w64 ((List.length (m3_0++[(Zh.mk c 0)]):Int)-1))) c (w64 ((List.length ((m3_0++[(Zh.mk c 0)])++[(Zh.mk c 1)]):Int)-1))) c 0) ?_;conv=>arg 3;whnf
   refine Zg (Zbt (f:=Zb) (g:=Zb) (fun ka kb:Int=>(ka==kb)) (fun _ _=>rfl) (Zu (fun ka kb:Int=>(ka==kb)) (Zu (fun ka kb:Int=>(ka==kb)) m5_0 c (w64 ((List.length (m3_0++[(Zh.mk c 0)]):Int)-1))) c (w64 ((List.length ((m3_0++[(Zh.mk c 0)])++[(Zh.mk c 1)]):Int)-1))) c 0) ?_;conv=>arg 3;whnf
   refine Zc _ Zas fun x11 hx11=>?_;conv=>arg 3;whnf
   refine Zl rfl rfl fun x12 hx12=>?_;conv=>arg 3;whnf
   refine Zl rfl rfl fun x13 hx13=>?_;conv=>arg 3;whnf
   refine Zg (Zbt (f:=Zb) (g:=Zb) (fun ka kb:Int=>(ka==kb)) (fun _ _=>rfl) (Zu (fun ka kb:Int=>(ka==kb)) (Zu (fun ka kb:Int=>(ka==kb)) m5_0 c (w64 ((List.length (m3_0++[(Zh.mk c 0)]):Int)-1))) c (w64 ((List.length ((m3_0++[(Zh.mk c 0)])++[(Zh.mk c 1)]):Int)-1))) c 0) ?_;conv=>arg 3;whnf
   refine Zg (Zdt (f:=Zq) (g:=Zb) (fun ka kb:Zi=>((ka.maker==kb.maker)&&((ka.user==kb.user)&&((ka.pos==kb.pos)&&true)))) (fun _ _=>rfl) m6_0 x13 (Z3 (fun ka kb:Int=>(ka==kb)) (Zu (fun ka kb:Int=>(ka==kb)) (Zu (fun ka kb:Int=>(ka==kb)) m5_0 c (w64 ((List.length (m3_0++[(Zh.mk c 0)]):Int)-1))) c (w64 ((List.length ((m3_0++[(Zh.mk c 0)])++[(Zh.mk c 1)]):Int)-1))) c 0)) ?_;conv=>arg 3;whnf
   refine Zc _ (ZcO _) fun r26 hr26=>?_;conv=>arg 3;whnf
   exact Zd rfl
  ·refine Zc _ ZaO fun x27 hx27=>?_;conv=>arg 3;whnf
   refine Zg (Zdt (f:=Zb) (g:=Zb) (fun ka kb:Int=>(ka==kb)) (fun _ _=>rfl) (Zu (fun ka kb:Int=>(ka==kb)) m5_0 c (w64 ((List.length (m3_0++[(Zh.mk c 0)]):Int)-1))) c (w64 ((List.length ((m3_0++[(Zh.mk c 0)])++[(Zh.mk c 1)]):Int)-1))) ?_;conv=>arg 3;whnf
   refine ZaT rfl ?_;conv=>arg 3;whnf
   refine Zg (Zbt (f:=Zb) (g:=Zb) (fun ka kb:Int=>(ka==kb)) (fun _ _=>rfl) (Zu (fun ka kb:Int=>(ka==kb)) (Zu (fun ka kb:Int=>(ka==kb)) m5_0 c (w64 ((List.length (m3_0++[(Zh.mk c 0)]):Int)-1))) c (w64 ((List.length ((m3_0++[(Zh.mk c 0)])++[(Zh.mk c 1)]):Int)-1))) c 0) ?_;conv=>arg 3;whnf
   refine Zg (Zbt (f:=Zb) (g:=Zb) (fun ka kb:Int=>(ka==kb)) (fun _ _=>rfl) (Zu (fun ka kb:Int=>(ka==kb)) (Zu (fun ka kb:Int=>(ka==kb)) m5_0 c (w64 ((List.length (m3_0++[(Zh.mk c 0)]):Int)-1))) c (w64 ((List.length ((m3_0++[(Zh.mk c 0)])++[(Zh.mk c 1)]):Int)-1))) c 0) ?_;conv=>arg 3;whnf
   refine Zc _ Zas fun x28 hx28=>?_;conv=>arg 3;whnf
   refine Zl rfl rfl fun x29 hx29=>?_;conv=>arg 3;whnf
   refine Zl rfl rfl fun x30 hx30=>?_;conv=>arg 3;whnf
   refine Zg (Zbt (f:=Zb) (g:=Zb) (fun ka kb:Int=>(ka==kb)) (fun _ _=>rfl) (Zu (fun ka kb:Int=>(ka==kb)) (Zu (fun ka kb:Int=>(ka==kb)) m5_0 c (w64 ((List.length (m3_0++[(Zh.mk c 0)]):Int)-1))) c (w64 ((List.length ((m3_0++[(Zh.mk c 0)])++[(Zh.mk c 1)]):Int)-1))) c 0) ?_;conv=>arg 3;whnf
   refine Zg (Zdt (f:=Zq) (g:=Zb) (fun ka kb:Zi=>((ka.maker==kb.maker)&&((ka.user==kb.user)&&((ka.pos==kb.pos)&&true)))) (fun _ _=>rfl) m6_0 x30 (Z3 (fun ka kb:Int=>(ka==kb)) (Zu (fun ka kb:Int=>(ka==kb)) (Zu (fun ka kb:Int=>(ka==kb)) m5_0 c (w64 ((List.length (m3_0++[(Zh.mk c 0)]):Int)-1))) c (w64 ((List.length ((m3_0++[(Zh.mk c 0)])++[(Zh.mk c 1)]):Int)-1))) c 0)) ?_;conv=>arg 3;whnf
   refine Zc _ (ZcO _) fun r43 hr43=>?_;conv=>arg 3;whnf
   exact Zd rfl
 ·exact Zd rfl
def Zfn (t0:Bool) (t1:Bool) (t2:Bool) (t3:Bool) (b:Zj) (c:Int) (m1_0:(List Int)) (m2_0:(List Zm)) (m3_0:(List Zh)) (m4_0:(List (Int×Int))) (m5_0:(List (Int×Int))) (m6_0:(List (Zi×Int))) (x0:(List Int)) (x2:ZV):(((List (Int×Int))×(List (Zi×Int))×(List Int)×(List Zm)×(List Zh))⊕Unit)→Ex×List V×Zo
  | (.inl r)=>(.exit 0,[],[(.cells [(.sl 7 1),(.sl 8 2),(.sl 9 2),(.mp 4),(.mp 5),(.mp 6)]),.dead,.dead,.dead,(.mp (mpD Zb Zb (Zu (fun ka kb:Int=>(ka==kb)) m4_0 c (m3_0.length:Int)))),(.mp (mpD Zb Zb r.1)),(.mp (mpD Zq Zb r.2.1)),(.arr 1 (List.map Zb r.2.2.1)),(.arr 2 (List.map ZD r.2.2.2.1)),(.arr 2 (List.map Zbl r.2.2.2.2))])
  | (.inr r)=>(.exit 0,[],[(.cells [(.sl 7 1),(.sl 2 2),(.sl 8 2),(.mp 4),(.mp 5),(.mp 6)]),.dead,(.arr 2 (List.map ZD m2_0)),.dead,(.mp (mpD Zb Zb (Zu (fun ka kb:Int=>(ka==kb)) m4_0 c (m3_0.length:Int)))),(.mp (mpD Zb Zb (Zu (fun ka kb:Int=>(ka==kb)) m5_0 c (w64 ((List.length (m3_0++[(Zh.mk c 0)]):Int)-1))))),(.mp (mpD Zq Zb m6_0)),(.arr 1 (List.map Zb (m1_0++[(w64 (x2.work-0))]))),(.arr 2 (List.map Zbl (m3_0++[(Zh.mk c 0)])))])
theorem ZhA {t0:Bool}{t1:Bool}{t2:Bool}{t3:Bool}{b:Zj}{c:Int}{m1_0:(List Int)}{m2_0:(List Zm)}{m3_0:(List Zh)}{m4_0:(List (Int×Int))}{m5_0:(List (Int×Int))}{m6_0:(List (Zi×Int))}{x0:(List Int)}{x2:ZV}:∀(s46:Unit) (r:(((List (Int×Int))×(List (Zi×Int))×(List Int)×(List Zm)×(List Zh))⊕Unit)),lp (Zck b c m1_0 m2_0 m3_0 m5_0 m6_0 x0 x2) s46=some r→lpW ctx 7 [0,2,4,6,7,26,27] [] ZoJ [(.ptr 0 0),(.d (Zb c)),(.ptr 7 0),(.d (Zb x2.work)),(.d (D.list true (List.map Zb x0))),(.d (Zb (w64 ((x0.length:Int)+1)))),(.d (Zb 1))] [(.cells [(.sl 8 1),(.sl 2 2),(.sl 9 2),(.mp 4),(.mp 5),(.mp 6)]),.dead,(.arr 2 (List.map ZD m2_0)),.dead,(.mp (mpD Zb Zb (Zu (fun ka kb:Int=>(ka==kb)) m4_0 c (m3_0.length:Int)))),(.mp (mpD Zb Zb (Zu (fun ka kb:Int=>(ka==kb)) m5_0 c (w64 ((List.length (m3_0++[(Zh.mk c 0)]):Int)-1))))),(.mp (mpD Zq Zb m6_0)),(.cells (dV t0 t1 t2 t3 b)),(.arr 1 (List.map Zb (m1_0++[(w64 (x2.work-0))]))),(.arr 2 (List.map Zbl (m3_0++[(Zh.mk c 0)])))]=some ((Zfn t0 t1 t2 t3 b c m1_0 m2_0 m3_0 m4_0 m5_0 m6_0 x0 x2) r):=by
 refine ZaG (Zfn t0 t1 t2 t3 b c m1_0 m2_0 m3_0 m4_0 m5_0 m6_0 x0 x2) ?_
 intro s46 rcl ih
 show ZM _ _ (lpW _ _ _ _ _ _ _)
 unfold Zck
 rw[ZaH]
 conv=>arg 3;whnf
 refine Zf rfl ?_ ?_<;>conv=>arg 3;whnf
 ·refine Zl rfl rfl fun x47 hx47=>?_;conv=>arg 3;whnf
  refine Zn (ZF _ _) ?_;conv=>arg 3;whnf
  refine Zf rfl ?_ ?_<;>conv=>arg 3;whnf
  ·refine Zl rfl rfl fun x48 hx48=>?_;conv=>arg 3;whnf
   refine Zl rfl rfl fun x49 hx49=>?_;conv=>arg 3;whnf
   refine Zc _ ZaO fun x50 hx50=>?_;conv=>arg 3;whnf
   refine Zg (Zdt (f:=Zb) (g:=Zb) (fun ka kb:Int=>(ka==kb)) (fun _ _=>rfl) (Zu (fun ka kb:Int=>(ka==kb)) m5_0 c (w64 ((List.length (m3_0++[(Zh.mk c 0)]):Int)-1))) c (w64 ((List.length ((m3_0++[(Zh.mk c 0)])++[(Zh.mk c 1)]):Int)-1))) ?_;conv=>arg 3;whnf
   refine ZaT rfl ?_;conv=>arg 3;whnf
   refine Zg (Zbt (f:=Zb) (g:=Zb) (fun ka kb:Int=>(ka==kb)) (fun _ _=>rfl) (Zu (fun ka kb:Int=>(ka==kb)) (Zu (fun ka kb:Int=>(ka==kb)) m5_0 c (w64 ((List.length (m3_0++[(Zh.mk c 0)]):Int)-1))) c (w64 ((List.length ((m3_0++[(Zh.mk c 0)])++[(Zh.mk c 1)]):Int)-1))) c 0) ?_;conv=>arg 3;whnf
   refine Zg (Zbt (f:=Zb) (g:=Zb) (fun ka kb:Int=>(ka==kb)) (fun _ _=>rfl) (Zu (fun ka kb:Int=>(ka==kb)) (Zu (fun ka kb:Int=>(ka==kb)) m5_0 c (w64 ((List.length (m3_0++[(Zh.mk c 0)]):Int)-1))) c (w64 ((List.length ((m3_0++[(Zh.mk c 0)])++[(Zh.mk c 1)]):Int)-1))) c 0) ?_;conv=>arg 3;whnf
   refine Zc _ Zas fun x51 hx51=>?_;conv=>arg 3;whnf
   refine Zl rfl rfl fun x52 hx52=>?_;conv=>arg 3;whnf
   refine Zl rfl rfl fun x53 hx53=>?_;conv=>arg 3;whnf
   refine Zg (Zbt (f:=Zb) (g:=Zb) (fun ka kb:Int=>(ka==kb)) (fun _ _=>rfl) (Zu (fun ka kb:Int=>(ka==kb)) (Zu (fun ka kb:Int=>(ka==kb)) m5_0 c (w64 ((List.length (m3_0++[(Zh.mk c 0)]):Int)-1))) c (w64 ((List.length ((m3_0++[(Zh.mk c 0)])++[(Zh.mk c 1)]):Int)-1))) c 0) ?_;conv=>arg 3;whnf
   refine Zg (Zdt (f:=Zq) (g:=Zb) (fun ka kb:Zi=>((ka.maker==kb.maker)&&((ka.user==kb.user)&&((ka.pos==kb.pos)&&true)))) (fun _ _=>rfl) m6_0 x53 (Z3 (fun ka kb:Int=>(ka==kb)) (Zu (fun ka kb:Int=>(ka==kb)) (Zu (fun ka kb:Int=>(ka==kb)) m5_0 c (w64 ((List.length (m3_0++[(Zh.mk c 0)]):Int)-1))) c (w64 ((List.length ((m3_0++[(Zh.mk c 0)])++[(Zh.mk c 1)]):Int)-1))) c 0)) ?_;conv=>arg 3;whnf
   refine Zc _ (ZcO _) fun r66 hr66=>?_;conv=>arg 3;whnf
   exact Zd rfl
  ·refine Zc _ ZaO fun x67 hx67=>?_;conv=>arg 3;whnf
   refine Zg (Zdt (f:=Zb) (g:=Zb) (fun ka kb:Int=>(ka==kb)) (fun _ _=>rfl) (Zu (fun ka kb:Int=>(ka==kb)) m5_0 c (w64 ((List.length (m3_0++[(Zh.mk c 0)]):Int)-1))) c (w64 ((List.length ((m3_0++[(Zh.mk c 0)])++[(Zh.mk c 1)]):Int)-1))) ?_;conv=>arg 3;whnf
   refine ZaT rfl ?_;conv=>arg 3;whnf
   refine Zg (Zbt (f:=Zb) (g:=Zb) (fun ka kb:Int=>(ka==kb)) (fun _ _=>rfl) (Zu (fun ka kb:Int=>(ka==kb)) (Zu (fun ka kb:Int=>(ka==kb)) m5_0 c (w64 ((List.length (m3_0++[(Zh.mk c 0)]):Int)-1))) c (w64 ((List.length ((m3_0++[(Zh.mk c 0)])++[(Zh.mk c 1)]):Int)-1))) c 0) ?_;conv=>arg 3;whnf
   refine Zg (Zbt (f:=Zb) (g:=Zb) (fun ka kb:Int=>(ka==kb)) (fun _ _=>rfl) (Zu (fun ka kb:Int=>(ka==kb)) (Zu (fun ka kb:Int=>(ka==kb)) m5_0 c (w64 ((List.length (m3_0++[(Zh.mk c 0)]):Int)-1))) c (w64 ((List.length ((m3_0++[(Zh.mk c 0)])++[(Zh.mk c 1)]):Int)-1))) c 0) ?_;conv=>arg 3;whnf
   refine Zc _ Zas fun x68 hx68=>?_;conv=>arg 3;whnf
   refine Zl rfl rfl fun x69 hx69=>?_;conv=>arg 3;whnf
   refine Zl rfl rfl fun x70 hx70=>?_;conv=>arg 3;whnf
   refine Zg (Zbt (f:=Zb) (g:=Zb) (fun ka kb:Int=>(ka==kb)) (fun _ _=>rfl) (Zu (fun ka kb:Int=>(ka==kb)) (Zu (fun ka kb:Int=>(ka==kb)) m5_0 c (w64 ((List.length (m3_0++[(Zh.mk c 0)]):Int)-1))) c (w64 ((List.length ((m3_0++[(Zh.mk c 0)])++[(Zh.mk c 1)]):Int)-1))) c 0) ?_;conv=>arg 3;whnf
   refine Zg (Zdt (f:=Zq) (g:=Zb) (fun ka kb:Zi=>((ka.maker==kb.maker)&&((ka.user==kb.user)&&((ka.pos==kb.pos)&&true)))) (fun _ _=>rfl) m6_0 x70 (Z3 (fun ka kb:Int=>(ka==kb)) (Zu (fun ka kb:Int=>(ka==kb)) (Zu (fun ka kb:Int=>(ka==kb)) m5_0 c (w64 ((List.length (m3_0++[(Zh.mk c 0)]):Int)-1))) c (w64 ((List.length ((m3_0++[(Zh.mk c 0)])++[(Zh.mk c 1)]):Int)-1))) c 0)) ?_;conv=>arg 3;whnf
   refine Zc _ (ZcO _) fun r83 hr83=>?_;conv=>arg 3;whnf
   exact Zd rfl
 ·exact Zd rfl
def Zfb (t0:Bool) (t1:Bool) (t2:Bool) (t3:Bool) (b:Zj) (c:Int) (m1_0:(List Int)) (m2_0:(List Zm)) (m3_0:(List Zh)) (m4_0:(List (Int×Int))) (m5_0:(List (Int×Int))) (m6_0:(List (Zi×Int))) (x0:(List Int)):(((List (Int×Int))×(List (Zi×Int))×(List Int)×(List Zm)×(List Zh))⊕((List Int)⊕Unit))→Ex×List V×Zo
  | (.inl r)=>(.exit 0,[],[(.cells [(.sl 7 1),(.sl 8 2),(.sl 9 2),(.mp 4),(.mp 5),(.mp 6)]),.dead,.dead,.dead,(.mp (mpD Zb Zb (Zu (fun ka kb:Int=>(ka==kb)) m4_0 c (m3_0.length:Int)))),(.mp (mpD Zb Zb r.1)),(.mp (mpD Zq Zb r.2.1)),(.arr 1 (List.map Zb r.2.2.1)),(.arr 2 (List.map ZD r.2.2.2.1)),(.arr 2 (List.map Zbl r.2.2.2.2))])
  | (.inr (.inl r))=>(.exit 0,[],[(.cells [(.sl 7 1),(.sl 2 2),(.sl 8 2),(.mp 4),(.mp 5),(.mp 6)]),.dead,(.arr 2 (List.map ZD m2_0)),.dead,(.mp (mpD Zb Zb (Zu (fun ka kb:Int=>(ka==kb)) m4_0 c (m3_0.length:Int)))),(.mp (mpD Zb Zb (Zu (fun ka kb:Int=>(ka==kb)) m5_0 c (w64 ((List.length (m3_0++[(Zh.mk c 0)]):Int)-1))))),(.mp (mpD Zq Zb m6_0)),(.arr 1 (List.map Zb r)),(.arr 2 (List.map Zbl (m3_0++[(Zh.mk c 0)])))])
  | (.inr (.inr r))=>(.exit 0,[],[(.cells [(.sl 1 1),(.sl 2 2),(.sl 3 2),(.mp 4),(.mp 5),(.mp 6)]),(.arr 1 (List.map Zb m1_0)),(.arr 2 (List.map ZD m2_0)),(.arr 2 (List.map Zbl m3_0)),(.mp (mpD Zb Zb (Zu (fun ka kb:Int=>(ka==kb)) m4_0 c (m3_0.length:Int)))),(.mp (mpD Zb Zb m5_0)),(.mp (mpD Zq Zb m6_0))])
theorem ZhB {t0:Bool}{t1:Bool}{t2:Bool}{t3:Bool}{b:Zj}{c:Int}{m1_0:(List Int)}{m2_0:(List Zm)}{m3_0:(List Zh)}{m4_0:(List (Int×Int))}{m5_0:(List (Int×Int))}{m6_0:(List (Zi×Int))}{x0:(List Int)}:∀(s1:Unit) (r:(((List (Int×Int))×(List (Zi×Int))×(List Int)×(List Zm)×(List Zh))⊕((List Int)⊕Unit))),lp (Zbw b c m1_0 m2_0 m3_0 m5_0 m6_0 x0) s1=some r→lpW ctx 7 [0,2,4,6,7,26,27] [] ZoJ [(.ptr 0 0),(.d (Zb c)),(.ptr 7 0),(.d (Zb 0)),(.d (D.list true (List.map Zb x0))),(.d (Zb (w64 ((x0.length:Int)+1)))),(.d (Zb 0))] [(.cells [(.sl 1 1),(.sl 2 2),(.sl 3 2),(.mp 4),(.mp 5),(.mp 6)]),(.arr 1 (List.map Zb m1_0)),(.arr 2 (List.map ZD m2_0)),(.arr 2 (List.map Zbl m3_0)),(.mp (mpD Zb Zb (Zu (fun ka kb:Int=>(ka==kb)) m4_0 c (m3_0.length:Int)))),(.mp (mpD Zb Zb m5_0)),(.mp (mpD Zq Zb m6_0)),(.cells (dV t0 t1 t2 t3 b))]=some ((Zfb t0 t1 t2 t3 b c m1_0 m2_0 m3_0 m4_0 m5_0 m6_0 x0) r):=by
 refine ZaG (Zfb t0 t1 t2 t3 b c m1_0 m2_0 m3_0 m4_0 m5_0 m6_0 x0) ?_
 intro s1 rcl ih
 show ZM _ _ (lpW _ _ _ _ _ _ _)
 unfold Zbw
 rw[ZaH]
 conv=>arg 3;whnf
 refine Zf rfl ?_ ?_<;>conv=>arg 3;whnf
 ·refine Zl rfl rfl fun x2 hx2=>?_;conv=>arg 3;whnf
  refine Zn (ZF _ _) ?_;conv=>arg 3;whnf
  refine Zf rfl ?_ ?_<;>conv=>arg 3;whnf
  ·refine Zl rfl rfl fun x3 hx3=>?_;conv=>arg 3;whnf
   refine Zl rfl rfl fun x4 hx4=>?_;conv=>arg 3;whnf
   refine Zc _ ZaO fun x5 hx5=>?_;conv=>arg 3;whnf
   refine Zg (Zdt (f:=Zb) (g:=Zb) (fun ka kb:Int=>(ka==kb)) (fun _ _=>rfl) m5_0 c (w64 ((List.length (m3_0++[(Zh.mk c 0)]):Int)-1))) ?_;conv=>arg 3;whnf
   refine Z5 rfl ?_;conv=>arg 3;whnf
   refine Zc _ (Zhs _) fun r44 hr44=>?_
   clear hr44
   rcases r44 with r44 | r44
   ·conv=>arg 3;whnf
    exact Zd rfl
   ·conv=>arg 3;whnf
    exact Zd rfl
  ·refine Zc _ ZaO fun x45 hx45=>?_;conv=>arg 3;whnf
   refine Zg (Zdt (f:=Zb) (g:=Zb) (fun ka kb:Int=>(ka==kb)) (fun _ _=>rfl) m5_0 c (w64 ((List.length (m3_0++[(Zh.mk c 0)]):Int)-1))) ?_;conv=>arg 3;whnf
   refine Z5 rfl ?_;conv=>arg 3;whnf
   refine Zc _ (ZhA _) fun r84 hr84=>?_
   clear hr84
   rcases r84 with r84 | r84
   ·conv=>arg 3;whnf
    exact Zd rfl
   ·conv=>arg 3;whnf
    exact Zd rfl
 ·exact Zd rfl
theorem ZjL {t0:Bool}{t1:Bool}{t2:Bool}{t3:Bool}{b:Zj}{c:Int}{m1_0:(List Int)}{m2_0:(List Zm)}{m3_0:(List Zh)}{m4_0:(List (Int×Int))}{m5_0:(List (Int×Int))}{m6_0:(List (Zi×Int))}:∀r,(Zdu b c m1_0 m2_0 m3_0 m5_0 m6_0)=some r→evW ctx 66 [(.ptr 0 0),(.d (D.agg (dA t0 t1 t2 t3 b))),(.d (Zb c))] [(.cells [(.sl 1 1),(.sl 2 2),(.sl 3 2),(.mp 4),(.mp 5),(.mp 6)]),(.arr 1 (List.map Zb m1_0)),(.arr 2 (List.map ZD m2_0)),(.arr 2 (List.map Zbl m3_0)),(.mp (mpD Zb Zb m4_0)),(.mp (mpD Zb Zb m5_0)),(.mp (mpD Zq Zb m6_0))]=some ((Zgs t0 t1 t2 t3 b c m1_0 m2_0 m3_0 m4_0 m5_0 m6_0) r):=by
 show ZM _ (fun r rhs=>rhs=some ((Zgs t0 t1 t2 t3 b c m1_0 m2_0 m3_0 m4_0 m5_0 m6_0) r)) _
 unfold Zdu
 rw[Zff ctx 66 Zzu _ _ rfl rfl]
 conv=>arg 3;whnf
 refine Zn (ZF _ _) ?_;conv=>arg 3;whnf
 refine Zg (Zdt (f:=Zb) (g:=Zb) (fun ka kb:Int=>(ka==kb)) (fun _ _=>rfl) m4_0 c (m3_0.length:Int)) ?_;conv=>arg 3;whnf
 refine Zp _ Zio rfl fun x0 hx0=>?_;conv=>arg 3;whnf
 refine Zn (ZF _ _) ?_;conv=>arg 3;whnf
 refine Zc _ (ZhB _) fun r85 hr85=>?_
 clear hr85
 rcases r85 with r85 | (r85 | r85)
 ·conv=>arg 3;whnf
  exact Zd rfl
 ·conv=>arg 3;whnf
  exact Zd rfl
 ·conv=>arg 3;whnf
  exact Zd rfl
def ZjY (r:Bool):D:=(D.bool r)
theorem ZmP {a:Int}:∀r,(Zc3 a)=some r→evD ctx 102 [(.d (Zb a))]=some (ZjY r):=by
 show ZM _ (fun r rhs=>rhs=some (ZjY r)) _
 unfold Zc3
 rw[Za1 ctx 102 Zv1 _ rfl rfl]
 conv=>arg 3;whnf
 refine Zf rfl ?_ ?_<;>conv=>arg 3;whnf
 ·exact Zd rfl
 ·refine Zf rfl ?_ ?_<;>conv=>arg 3;whnf
  ·exact Zd rfl
  ·exact Zd rfl
def ZcB (r:Int):D:=(Zb r)
def Zci (t0:Bool) (a:(List Int)):(Int⊕Unit)→Ex×List V×Zo
  | (.inl r)=>(.ret,[(.d (Zb r))],[])
  | (.inr r)=>(.exit 0,[.bad],[])
theorem Zeg {t0:Bool}{a:(List Int)}:∀(s0:Int) (r:(Int⊕Unit)),lp (Zao a (fun z0=>Zc3 z0)) s0=some r→lpW ctx 0 [0,1,7,8] [4] Zqv [(.d (D.list t0 (List.map Zb a))),(.d (D.fn 102 [])),(.d (Zb (a.length:Int))),(.d (Zb s0))] []=some ((Zci t0 a) r):=by
 refine ZaG (Zci t0 a) ?_
 intro s0 rcl ih
 show ZM _ _ (lpW _ _ _ _ _ _ _)
 unfold Zao
 rw[ZaH]
 conv=>arg 3;whnf
 refine Zf rfl ?_ ?_<;>conv=>arg 3;whnf
 ·refine Zl rfl rfl fun x1 hx1=>?_;conv=>arg 3;whnf
  refine Zp _ ZmP rfl fun x2 hx2=>?_;conv=>arg 3;whnf
  refine Zf rfl ?_ ?_<;>conv=>arg 3;whnf
  ·exact Zd rfl
  ·exact Ze (ih _)
 ·exact Zd rfl
theorem ZeE {t0:Bool}{a:(List Int)}:∀r,(ZaY a (fun z0=>Zc3 z0))=some r→evD ctx 116 [(.d (D.list t0 (List.map Zb a))),(.d (D.fn 102 []))]=some (ZcB r):=by
 show ZM _ (fun r rhs=>rhs=some (ZcB r)) _
 unfold ZaY
 rw[Za1 ctx 116 Zud _ rfl rfl]
 conv=>arg 3;whnf
 refine Zn (ZF _ _) ?_;conv=>arg 3;whnf
 refine Zc _ (Zeg _) fun r3 hr3=>?_
 clear hr3
 rcases r3 with r3 | r3
 ·conv=>arg 3;whnf
  exact Zd rfl
 ·conv=>arg 3;whnf
  exact Zd rfl
def Zcl (r:Bool):D:=(D.bool r)
theorem Zei {t0:Bool}{a:(List Int)}:∀r,(Z7 a (fun z0=>Zc3 z0))=some r→evD ctx 93 [(.d (D.list t0 (List.map Zb a))),(.d (D.fn 102 []))]=some (Zcl r):=by
 show ZM _ (fun r rhs=>rhs=some (Zcl r)) _
 unfold Z7
 rw[Za1 ctx 93 Zx4 _ rfl rfl]
 conv=>arg 3;whnf
 refine Zp _ ZeE rfl fun x0 hx0=>?_;conv=>arg 3;whnf
 refine Zf rfl ?_ ?_<;>conv=>arg 3;whnf
 ·exact Zd rfl
 ·exact Zd rfl
def Zj0 (r:Bool):D:=(D.bool r)
theorem ZiX {t0:Bool}{t1:Bool}{a:Int}{b0:(List Int)}{b1:(List Zm)}:∀r,(ZeZ a b0)=some r→evD ctx 103 [(.d (Zb a)),(.d (D.rptr [(D.list t0 (List.map Zb b0)),(D.list t1 (List.map ZD b1))]))]=some (Zj0 r):=by
 show ZM _ (fun r rhs=>rhs=some (Zj0 r)) _
 unfold ZeZ
 rw[Za1 ctx 103 Zwc _ rfl rfl]
 conv=>arg 3;whnf
 refine Zf rfl ?_ ?_<;>conv=>arg 3;whnf
 ·refine Zn (ZF _ _) ?_;conv=>arg 3;whnf
  refine Zf rfl ?_ ?_<;>conv=>arg 3;whnf
  ·exact Zd rfl
  ·exact Zd rfl
 ·exact Zd rfl
def Zk8 (r:((List Int)×Bool)):D:=(D.tup [(D.list true (List.map Zb r.1)),(D.bool r.2)])
def Zjm (t0:Bool) (t1:Bool) (a:Zcp) (s0:(List Int)×(List Bool)) (s1:Int):(Unit⊕Unit)→Ex×List V×Zo
  | (.inl r)=>(.exit 3,[(.ptr 0 0),(.sl 1 1),(.sl 2 1),(.d (Zb s1)),(.d (Zb (a.work.length:Int))),(.d (Zb s1))],[(.cells [(.d (D.list t0 (List.map Zb a.work))),(.d (D.list t1 (List.map ZD a.edges)))]),(.arr 1 (List.map Zb s0.1)),(.arr 1 (List.map D.bool s0.2))])
  | (.inr r)=>(.exit 4,[(.ptr 0 0),(.sl 1 1),(.sl 2 1),(.d (Zb s1)),(.d (Zb (a.work.length:Int))),(.d (Zb s1))],[(.cells [(.d (D.list t0 (List.map Zb a.work))),(.d (D.list t1 (List.map ZD a.edges)))]),(.arr 1 (List.map Zb s0.1)),(.arr 1 (List.map D.bool s0.2))])
theorem Zmb {t0:Bool}{t1:Bool}{a:Zcp}{s0:(List Int)×(List Bool)}{s1:Int}:∀(s3:Int) (r:(Unit⊕Unit)),lp (ZeD a s0 s1) s3=some r→lpW ctx 0 [1,4,5,6,21,22,30,31,32] [1,4,5,6,21,22] ZwQ [(.ptr 0 0),(.sl 1 1),(.sl 2 1),(.d (Zb s1)),(.d (Zb (a.work.length:Int))),(.d (Zb s1)),(.d (D.list t1 (List.map ZD a.edges))),(.d (Zb (a.edges.length:Int))),(.d (Zb s3))] [(.cells [(.d (D.list t0 (List.map Zb a.work))),(.d (D.list t1 (List.map ZD a.edges)))]),(.arr 1 (List.map Zb s0.1)),(.arr 1 (List.map D.bool s0.2))]=some ((Zjm t0 t1 a s0 s1) r):=by
 refine ZaG (Zjm t0 t1 a s0 s1) ?_
 intro s3 rcl ih
 show ZM _ _ (lpW _ _ _ _ _ _ _)
 unfold ZeD
 rw[ZaH]
 conv=>arg 3;whnf
 refine Zf rfl ?_ ?_<;>conv=>arg 3;whnf
 ·refine Zl rfl rfl fun x4 hx4=>?_;conv=>arg 3;whnf
  refine Zf rfl ?_ ?_<;>conv=>arg 3;whnf
  ·refine Zl rfl rfl fun x5 hx5=>?_;conv=>arg 3;whnf
   refine Zg (Zz rfl hx5) ?_;conv=>arg 3;whnf
   refine Zf rfl ?_ ?_<;>conv=>arg 3;whnf
   ·exact Ze (ih _)
   ·exact Zd rfl
  ·exact Ze (ih _)
 ·exact Zd rfl
def Zje (t0:Bool) (t1:Bool) (a:Zcp) (s0:(List Int)×(List Bool)):(((List Int)×(List Bool))⊕Unit)→Ex×List V×Zo
  | (.inl r)=>(.exit 1,[(.ptr 0 0),(.sl 1 1),(.sl 2 1)],[(.cells [(.d (D.list t0 (List.map Zb a.work))),(.d (D.list t1 (List.map ZD a.edges)))]),(.arr 1 (List.map Zb r.1)),(.arr 1 (List.map D.bool r.2))])
  | (.inr r)=>(.exit 2,[(.ptr 0 0),(.sl 1 1),(.sl 2 1)],[(.cells [(.d (D.list t0 (List.map Zb a.work))),(.d (D.list t1 (List.map ZD a.edges)))]),(.arr 1 (List.map Zb s0.1)),(.arr 1 (List.map D.bool s0.2))])
theorem Zmi {t0:Bool}{t1:Bool}{a:Zcp}{s0:(List Int)×(List Bool)}:∀(s1:Int) (r:(((List Int)×(List Bool))⊕Unit)),lp (ZdN a s0) s1=some r→lpW ctx 0 [1,4,5,21,22] [1,4,5] Zww [(.ptr 0 0),(.sl 1 1),(.sl 2 1),(.d (Zb (a.work.length:Int))),(.d (Zb s1))] [(.cells [(.d (D.list t0 (List.map Zb a.work))),(.d (D.list t1 (List.map ZD a.edges)))]),(.arr 1 (List.map Zb s0.1)),(.arr 1 (List.map D.bool s0.2))]=some ((Zje t0 t1 a s0) r):=by
 refine ZaG (Zje t0 t1 a s0) ?_
 intro s1 rcl ih
 show ZM _ _ (lpW _ _ _ _ _ _ _)
 unfold ZdN
 rw[ZaH]
 conv=>arg 3;whnf
 refine Zf rfl ?_ ?_<;>conv=>arg 3;whnf
 ·refine Zl rfl rfl fun x2 hx2=>?_;conv=>arg 3;whnf
  refine Zg (Zz rfl hx2) ?_;conv=>arg 3;whnf
  refine Zf rfl ?_ ?_<;>conv=>arg 3;whnf
  ·exact Ze (ih _)
  ·refine Zn (ZF _ _) ?_;conv=>arg 3;whnf
   refine Zc _ (Zmb _) fun r6 hr6=>?_
   clear hr6
   rcases r6 with r6 | r6
   ·conv=>arg 3;whnf
    exact Ze (ih _)
   ·conv=>arg 3;whnf
    refine Zg (Zb4 rfl hx2) ?_;conv=>arg 3;whnf
    refine Zg (Zz rfl hx2) ?_;conv=>arg 3;whnf
    refine Zn (ZaN D.bool s0.2 s1.toNat true) ?_;conv=>arg 3;whnf
    refine ZaT rfl ?_;conv=>arg 3;whnf
    refine Zf (ZgQ Zb s0.1 1) ?_ ?_
    ·conv=>arg 3;whnf
     refine Zn (ZgP Zb s0.1 [s1]) ?_;conv=>arg 3;whnf
     exact Zd rfl
    ·exact Zaj
 ·exact Zd rfl
def ZiS (t0:Bool) (t1:Bool) (a:Zcp):((List Int)⊕(List Int))→Ex×List V×Zo
  | (.inl r)=>(.ret,[(.nilsl 1),(.d (D.bool false)),(.sl 0 1)],[(.arr 1 (List.map Zb r))])
  | (.inr r)=>(.exit 0,[.bad,.bad,(.sl 0 1)],[(.arr 1 (List.map Zb r))])
theorem Zmu {t0:Bool}{t1:Bool}{a:Zcp}:∀(s0:(List Int)×(List Bool)) (r:((List Int)⊕(List Int))),lp (ZeF a) s0=some r→lpW ctx 0 [1,4,5] [2,3,4] Zve [(.ptr 0 0),(.sl 1 1),(.sl 2 1)] [(.cells [(.d (D.list t0 (List.map Zb a.work))),(.d (D.list t1 (List.map ZD a.edges)))]),(.arr 1 (List.map Zb s0.1)),(.arr 1 (List.map D.bool s0.2))]=some ((ZiS t0 t1 a) r):=by
 refine ZaG (ZiS t0 t1 a) ?_
 intro s0 rcl ih
 show ZM _ _ (lpW _ _ _ _ _ _ _)
 unfold ZeF
 rw[ZaH]
 conv=>arg 3;whnf
 refine Zn (ZF _ _) ?_;conv=>arg 3;whnf
 refine Zn (ZF _ _) ?_;conv=>arg 3;whnf
 refine Zf rfl ?_ ?_<;>conv=>arg 3;whnf
 ·refine Zn (ZF _ _) ?_;conv=>arg 3;whnf
  refine Zc _ (Zmi _) fun r7 hr7=>?_
  clear hr7
  rcases r7 with r7 | r7
  ·conv=>arg 3;whnf
   exact Ze (ih _)
  ·conv=>arg 3;whnf
   exact Zd rfl
 ·exact Zd rfl
theorem ZoD {t0:Bool}{t1:Bool}{a:Zcp}:∀r,(Zfa a)=some r→evD ctx 77 [(.d (D.agg [(D.list t0 (List.map Zb a.work)),(D.list t1 (List.map ZD a.edges))]))]=some (Zk8 r):=by
 show ZM _ (fun r rhs=>rhs=some (Zk8 r)) _
 unfold Zfa
 rw[Za1 ctx 77 Zy3 _ rfl rfl]
 conv=>arg 3;whnf
 refine Zn (ZF _ _) ?_;conv=>arg 3;whnf
 refine Zf rfl ?_ ?_
 ·conv=>arg 3;whnf
  refine Zn (ZxY D.bool (false:Bool) (a.work.length:Int)) ?_;conv=>arg 3;whnf
  refine Zc _ (Zmu _) fun r8 hr8=>?_
  clear hr8
  rcases r8 with r8 | r8
  ·conv=>arg 3;whnf
   exact Zd rfl
  ·conv=>arg 3;whnf
   exact Zd rfl
 ·exact Zaj
def Zle (r:Int):D:=(Zb r)
def Zi0 (t0:Bool) (t1:Bool) (a:Zcp):(Unit⊕Unit)→Ex×List V×Zo
  | (.inl r)=>(.ret,[(.ptr 0 0),(.d (Zb 42))],[(.cells [(.d (D.list t0 (List.map Zb a.work))),(.d (D.list t1 (List.map ZD a.edges)))])])
  | (.inr r)=>(.exit 0,[(.ptr 0 0),.bad],[(.cells [(.d (D.list t0 (List.map Zb a.work))),(.d (D.list t1 (List.map ZD a.edges)))])])
theorem Zmw {t0:Bool}{t1:Bool}{a:Zcp}:∀(s1:Int) (r:(Unit⊕Unit)),lp (Zd1 a) s1=some r→lpW ctx 0 [1,3,23,24,25] [1,2] ZvJ [(.ptr 0 0),(.fn 103 [(.ptr 0 0)]),(.d (D.list t1 (List.map ZD a.edges))),(.d (Zb (a.edges.length:Int))),(.d (Zb s1))] [(.cells [(.d (D.list t0 (List.map Zb a.work))),(.d (D.list t1 (List.map ZD a.edges)))])]=some ((Zi0 t0 t1 a) r):=by
 refine ZaG (Zi0 t0 t1 a) ?_
 intro s1 rcl ih
 show ZM _ _ (lpW _ _ _ _ _ _ _)
 unfold Zd1
 rw[ZaH]
 conv=>arg 3;whnf
 refine Zf rfl ?_ ?_<;>conv=>arg 3;whnf
 ·refine Zl rfl rfl fun x2 hx2=>?_;conv=>arg 3;whnf
  refine Zp _ ZiX rfl fun x3 hx3=>?_;conv=>arg 3;whnf
  refine Zf rfl ?_ ?_<;>conv=>arg 3;whnf
  ·refine Zp _ ZiX rfl fun x4 hx4=>?_;conv=>arg 3;whnf
   refine Zf rfl ?_ ?_<;>conv=>arg 3;whnf
   ·refine Zf rfl ?_ ?_<;>conv=>arg 3;whnf
    ·exact Zd rfl
    ·refine Zf rfl ?_ ?_
     ·conv=>arg 3;whnf
      refine Zf (Zv9 ZD a.edges s1.toNat) ?_ ?_
      ·conv=>arg 3;whnf
       refine ZaT rfl ?_;conv=>arg 3;whnf
       refine Zn (Zq4 ZD a.edges s1.toNat) ?_;conv=>arg 3;whnf
       refine Zp _ Zej rfl fun x5 hx5=>?_;conv=>arg 3;whnf
       refine Zf rfl ?_ ?_<;>conv=>arg 3;whnf
       ·exact Zd rfl
       ·exact Ze (ih _)
      ·exact Zaj
     ·exact Zaj
   ·exact Zd rfl
  ·exact Zd rfl
 ·exact Zd rfl
theorem ZoT {t0:Bool}{t1:Bool}{a:Zcp}:∀r,(Zg2 a)=some r→evD ctx 69 [(.d (D.agg [(D.list t0 (List.map Zb a.work)),(D.list t1 (List.map ZD a.edges))]))]=some (Zle r):=by
 show ZM _ (fun r rhs=>rhs=some (Zle r)) _
 unfold Zg2
 rw[Za1 ctx 69 ZzX _ rfl rfl]
 conv=>arg 3;whnf
 refine Zn (ZF _ _) ?_;conv=>arg 3;whnf
 refine Zf rfl ?_ ?_<;>conv=>arg 3;whnf
 ·exact Zd rfl
 ·refine Zn (ZF _ _) ?_;conv=>arg 3;whnf
  refine Zf rfl ?_ ?_<;>conv=>arg 3;whnf
  ·exact Zd rfl
  ·refine Zp _ Zei rfl fun x0 hx0=>?_;conv=>arg 3;whnf
   refine Zf rfl ?_ ?_<;>conv=>arg 3;whnf
   ·exact Zd rfl
   ·refine Zn (ZF _ _) ?_;conv=>arg 3;whnf
    refine Zc _ (Zmw _) fun r6 hr6=>?_
    clear hr6
    rcases r6 with r6 | r6
    ·conv=>arg 3;whnf
     exact Zd rfl
    ·conv=>arg 3;whnf
     refine Zp _ ZoD rfl fun x7 hx7=>?_;conv=>arg 3;whnf
     refine Zf rfl ?_ ?_<;>conv=>arg 3;whnf
     ·exact Zd rfl
     ·exact Zd rfl
def ZjR (r:(ZlU×Int)):D:=(D.tup [(D.agg [(D.list true (List.map Zb r.1.dag.work)),(D.list true (List.map ZD r.1.dag.edges)),(D.list true (List.map Zbl r.1.pieces))]),(Zb r.2)])
def ZhS (t0:Bool) (t1:Bool) (t2:Bool) (t3:Bool) (a:Zj):((List Int)×(List Zm)×(List Zh)×(List (Int×Int))×(List (Int×Int))×(List (Zi×Int)))→Ex×List V×Zo
  | r=>(.exit 0,[(.ptr 0 0),(.ptr 1 0),(.ptr 2 0)],[(.cells (dV t0 t1 t2 t3 a)),(.cells [(.sl 3 1),(.sl 4 2),(.sl 5 2)]),(.cells [(.sl 6 1),(.sl 7 2),(.sl 8 2),(.mp 9),(.mp 10),(.mp 11)]),(.arr 1 []),(.arr 2 []),(.arr 2 []),(.arr 1 (List.map Zb r.1)),(.arr 2 (List.map ZD r.2.1)),(.arr 2 (List.map Zbl r.2.2.1)),(.mp (mpD Zb Zb r.2.2.2.1)),(.mp (mpD Zb Zb r.2.2.2.2.1)),(.mp (mpD Zq Zb r.2.2.2.2.2))])
theorem Zk1 {t0:Bool}{t1:Bool}{t2:Bool}{t3:Bool}{a:Zj}:∀(s1:Int×(List Int)×(List Zm)×(List Zh)×(List (Int×Int))×(List (Int×Int))×(List (Zi×Int))) (r:((List Int)×(List Zm)×(List Zh)×(List (Int×Int))×(List (Int×Int))×(List (Zi×Int)))),lp (Zcx a) s1=some r→lpW ctx 0 [1,2,5,31,32] [1,2,5] Zwf [(.ptr 0 0),(.ptr 1 0),(.ptr 2 0),(.d (Zb (a.parts.length:Int))),(.d (Zb s1.1))] [(.cells (dV t0 t1 t2 t3 a)),(.cells [(.sl 3 1),(.sl 4 2),(.sl 5 2)]),(.cells [(.sl 6 1),(.sl 7 2),(.sl 8 2),(.mp 9),(.mp 10),(.mp 11)]),(.arr 1 []),(.arr 2 []),(.arr 2 []),(.arr 1 (List.map Zb s1.2.1)),(.arr 2 (List.map ZD s1.2.2.1)),(.arr 2 (List.map Zbl s1.2.2.2.1)),(.mp (mpD Zb Zb s1.2.2.2.2.1)),(.mp (mpD Zb Zb s1.2.2.2.2.2.1)),(.mp (mpD Zq Zb s1.2.2.2.2.2.2))]=some ((ZhS t0 t1 t2 t3 a) r):=by
 refine ZaG (ZhS t0 t1 t2 t3 a) ?_
 intro s1 rcl ih
 show ZM _ _ (lpW _ _ _ _ _ _ _)
 unfold Zcx
 rw[ZaH]
 conv=>arg 3;whnf
 refine Zf rfl ?_ ?_<;>conv=>arg 3;whnf
 ·refine Zc _ ZjL fun x2 hx2=>?_
  clear hx2
  rcases x2 with x2 | (x2 | x2)
  ·conv=>arg 3;whnf
   exact Ze (ih _)
  ·conv=>arg 3;whnf
   exact Ze (ih _)
  ·conv=>arg 3;whnf
   exact Ze (ih _)
 ·exact Zd rfl
def ZhR (t0:Bool) (t1:Bool) (t2:Bool) (t3:Bool) (a:Zj) (r3:((List Int)×(List Zm)×(List Zh)×(List (Int×Int))×(List (Int×Int))×(List (Zi×Int)))):(List Zm)→Ex×List V×Zo
  | r=>(.exit 2,[(.ptr 0 0),(.ptr 1 0),(.ptr 2 0)],[(.cells (dV t0 t1 t2 t3 a)),(.cells [(.sl 3 1),(.sl 4 2),(.sl 5 2)]),(.cells [(.sl 6 1),(.sl 7 2),(.sl 8 2),(.mp 9),(.mp 10),(.mp 11)]),(.arr 1 []),(.arr 2 []),(.arr 2 []),(.arr 1 (List.map Zb r3.1)),(.arr 2 (List.map ZD r)),(.arr 2 (List.map Zbl r3.2.2.1)),(.mp (mpD Zb Zb r3.2.2.2.1)),(.mp (mpD Zb Zb r3.2.2.2.2.1)),(.mp (mpD Zq Zb r3.2.2.2.2.2))])
theorem Zk0 {t0:Bool}{t1:Bool}{t2:Bool}{t3:Bool}{a:Zj}{r3:((List Int)×(List Zm)×(List Zh)×(List (Int×Int))×(List (Int×Int))×(List (Zi×Int)))}:∀(s4:Int×(List Zm)) (r:(List Zm)),lp (ZcV a r3) s4=some r→lpW ctx 0 [1,2,5,41,42,43] [1,2,5] Zvo [(.ptr 0 0),(.ptr 1 0),(.ptr 2 0),(.d (D.list t1 (List.map ZD a.edges))),(.d (Zb (a.edges.length:Int))),(.d (Zb s4.1))] [(.cells (dV t0 t1 t2 t3 a)),(.cells [(.sl 3 1),(.sl 4 2),(.sl 5 2)]),(.cells [(.sl 6 1),(.sl 7 2),(.sl 8 2),(.mp 9),(.mp 10),(.mp 11)]),(.arr 1 []),(.arr 2 []),(.arr 2 []),(.arr 1 (List.map Zb r3.1)),(.arr 2 (List.map ZD s4.2)),(.arr 2 (List.map Zbl r3.2.2.1)),(.mp (mpD Zb Zb r3.2.2.2.1)),(.mp (mpD Zb Zb r3.2.2.2.2.1)),(.mp (mpD Zq Zb r3.2.2.2.2.2))]=some ((ZhR t0 t1 t2 t3 a r3) r):=by
 refine ZaG (ZhR t0 t1 t2 t3 a r3) ?_
 intro s4 rcl ih
 show ZM _ _ (lpW _ _ _ _ _ _ _)
 unfold ZcV
 rw[ZaH]
 conv=>arg 3;whnf
 refine Zf rfl ?_ ?_<;>conv=>arg 3;whnf
 ·refine Zl rfl rfl fun x5 hx5=>?_;conv=>arg 3;whnf
  refine Zg (Zbt (f:=Zb) (g:=Zb) (fun ka kb:Int=>(ka==kb)) (fun _ _=>rfl) r3.2.2.2.2.1 x5.src 0) ?_;conv=>arg 3;whnf
  refine Zg (Zbt (f:=Zb) (g:=Zb) (fun ka kb:Int=>(ka==kb)) (fun _ _=>rfl) r3.2.2.2.1 x5.dst 0) ?_;conv=>arg 3;whnf
  refine Zc _ Zas fun x6 hx6=>?_;conv=>arg 3;whnf
  exact Ze (ih _)
 ·exact Zd rfl
def Zh2 (t0:Bool) (t1:Bool) (t2:Bool) (t3:Bool) (a:Zj) (r3:((List Int)×(List Zm)×(List Zh)×(List (Int×Int))×(List (Int×Int))×(List (Zi×Int)))):(List Zm)→Ex×List V×Zo
  | r=>(.exit 4,[(.ptr 0 0),(.ptr 1 0),(.ptr 2 0)],[(.cells (dV t0 t1 t2 t3 a)),(.cells [(.sl 3 1),(.sl 4 2),(.sl 5 2)]),(.cells [(.sl 6 1),(.sl 7 2),(.sl 8 2),(.mp 9),(.mp 10),(.mp 11)]),(.arr 1 []),(.arr 2 []),(.arr 2 []),(.arr 1 (List.map Zb r3.1)),(.arr 2 (List.map ZD r)),(.arr 2 (List.map Zbl r3.2.2.1)),(.mp (mpD Zb Zb r3.2.2.2.1)),(.mp (mpD Zb Zb r3.2.2.2.2.1)),(.mp (mpD Zq Zb r3.2.2.2.2.2))])
theorem ZkX {t0:Bool}{t1:Bool}{t2:Bool}{t3:Bool}{a:Zj}{r3:((List Int)×(List Zm)×(List Zh)×(List (Int×Int))×(List (Int×Int))×(List (Zi×Int)))}:∀(s8:Int×(List Zm)) (r:(List Zm)),lp (ZcZ a r3) s8=some r→lpW ctx 0 [1,2,5,65,66,67] [1,2,5] ZwS [(.ptr 0 0),(.ptr 1 0),(.ptr 2 0),(.d (D.list t2 (List.map Zq a.futures))),(.d (Zb (a.futures.length:Int))),(.d (Zb s8.1))] [(.cells (dV t0 t1 t2 t3 a)),(.cells [(.sl 3 1),(.sl 4 2),(.sl 5 2)]),(.cells [(.sl 6 1),(.sl 7 2),(.sl 8 2),(.mp 9),(.mp 10),(.mp 11)]),(.arr 1 []),(.arr 2 []),(.arr 2 []),(.arr 1 (List.map Zb r3.1)),(.arr 2 (List.map ZD s8.2)),(.arr 2 (List.map Zbl r3.2.2.1)),(.mp (mpD Zb Zb r3.2.2.2.1)),(.mp (mpD Zb Zb r3.2.2.2.2.1)),(.mp (mpD Zq Zb r3.2.2.2.2.2))]=some ((Zh2 t0 t1 t2 t3 a r3) r):=by
 refine ZaG (Zh2 t0 t1 t2 t3 a r3) ?_
 intro s8 rcl ih
 show ZM _ _ (lpW _ _ _ _ _ _ _)
 unfold ZcZ
 rw[ZaH]
 conv=>arg 3;whnf
 refine Zf rfl ?_ ?_<;>conv=>arg 3;whnf
 ·refine Zl rfl rfl fun x9 hx9=>?_;conv=>arg 3;whnf
  refine Zg (Zbt (f:=Zb) (g:=Zb) (fun ka kb:Int=>(ka==kb)) (fun _ _=>rfl) r3.2.2.2.2.1 x9.maker 0) ?_;conv=>arg 3;whnf
  refine Zg (Zbt (f:=Zq) (g:=Zb) (fun ka kb:Zi=>((ka.maker==kb.maker)&&((ka.user==kb.user)&&((ka.pos==kb.pos)&&true)))) (fun _ _=>rfl) r3.2.2.2.2.2 x9 0) ?_;conv=>arg 3;whnf
  refine Zc _ Zas fun x10 hx10=>?_;conv=>arg 3;whnf
  exact Ze (ih _)
 ·exact Zd rfl
def Zh3 (t3:Bool) (a:Zj) (r3:((List Int)×(List Zm)×(List Zh)×(List (Int×Int))×(List (Int×Int))×(List (Zi×Int)))) (s12:Int×(List Int)×(List Zm)×(List Zh)) (x13:Zs):(List Zm)→Ex×List V×Zo
  | r=>(.exit 8,[(.ptr 0 0),(.ptr 1 0),(.ptr 2 0),(.d (Zb (w64 ((List.length (s12.2.2.2++[(Zh.mk (-1) s12.1)]):Int)-1)))),(.d (D.list t3 (List.map Zv a.barriers))),(.d (Zb (a.barriers.length:Int))),(.d (Zb s12.1))],[(.cells [(.sl 3 1),(.sl 4 2),(.sl 5 2)]),(.cells [(.sl 6 1),(.sl 7 2),(.sl 8 2),(.mp 9),(.mp 10),(.mp 11)]),(.cells [(.d (D.list true (List.map Zb x13.ins))),(.d (D.list true (List.map Zb x13.outs)))]),(.arr 1 []),(.arr 2 []),(.arr 2 []),(.arr 1 (List.map Zb (s12.2.1++[1]))),(.arr 2 (List.map ZD r)),(.arr 2 (List.map Zbl (s12.2.2.2++[(Zh.mk (-1) s12.1)]))),(.mp (mpD Zb Zb r3.2.2.2.1)),(.mp (mpD Zb Zb r3.2.2.2.2.1)),(.mp (mpD Zq Zb r3.2.2.2.2.2))])
theorem ZkY {t3:Bool}{a:Zj}{r3:((List Int)×(List Zm)×(List Zh)×(List (Int×Int))×(List (Int×Int))×(List (Zi×Int)))}{s12:Int×(List Int)×(List Zm)×(List Zh)}{x13:Zs}:∀(s15:Int×(List Zm)) (r:(List Zm)),lp (ZdF r3 s12 x13) s15=some r→lpW ctx 0 [2,5,12,13,88,89,90,100,101,102] [2,5,12,13,88,89,90] ZwR [(.ptr 0 0),(.ptr 1 0),(.ptr 2 0),(.d (Zb (w64 ((List.length (s12.2.2.2++[(Zh.mk (-1) s12.1)]):Int)-1)))),(.d (D.list t3 (List.map Zv a.barriers))),(.d (Zb (a.barriers.length:Int))),(.d (Zb s12.1)),(.d (D.list true (List.map Zb x13.ins))),(.d (Zb (x13.ins.length:Int))),(.d (Zb s15.1))] [(.cells [(.sl 3 1),(.sl 4 2),(.sl 5 2)]),(.cells [(.sl 6 1),(.sl 7 2),(.sl 8 2),(.mp 9),(.mp 10),(.mp 11)]),(.cells [(.d (D.list true (List.map Zb x13.ins))),(.d (D.list true (List.map Zb x13.outs)))]),(.arr 1 []),(.arr 2 []),(.arr 2 []),(.arr 1 (List.map Zb (s12.2.1++[1]))),(.arr 2 (List.map ZD s15.2)),(.arr 2 (List.map Zbl (s12.2.2.2++[(Zh.mk (-1) s12.1)]))),(.mp (mpD Zb Zb r3.2.2.2.1)),(.mp (mpD Zb Zb r3.2.2.2.2.1)),(.mp (mpD Zq Zb r3.2.2.2.2.2))]=some ((Zh3 t3 a r3 s12 x13) r):=by
 refine ZaG (Zh3 t3 a r3 s12 x13) ?_
 intro s15 rcl ih
 show ZM _ _ (lpW _ _ _ _ _ _ _)
 unfold ZdF
 rw[ZaH]
 conv=>arg 3;whnf
 refine Zf rfl ?_ ?_<;>conv=>arg 3;whnf
 ·refine Zl rfl rfl fun x16 hx16=>?_;conv=>arg 3;whnf
  refine Zg (Zbt (f:=Zb) (g:=Zb) (fun ka kb:Int=>(ka==kb)) (fun _ _=>rfl) r3.2.2.2.2.1 x16 0) ?_;conv=>arg 3;whnf
  refine Zc _ Zas fun x17 hx17=>?_;conv=>arg 3;whnf
  exact Ze (ih _)
 ·exact Zd rfl
def ZhZ (t3:Bool) (a:Zj) (r3:((List Int)×(List Zm)×(List Zh)×(List (Int×Int))×(List (Int×Int))×(List (Zi×Int)))) (s12:Int×(List Int)×(List Zm)×(List Zh)) (x13:Zs):(List Zm)→Ex×List V×Zo
  | r=>(.exit 10,[(.ptr 0 0),(.ptr 1 0),(.d (D.list t3 (List.map Zv a.barriers))),(.d (Zb (a.barriers.length:Int))),(.d (Zb s12.1))],[(.cells [(.sl 2 1),(.sl 3 2),(.sl 4 2)]),(.cells [(.sl 5 1),(.sl 6 2),(.sl 7 2),(.mp 8),(.mp 9),(.mp 10)]),(.arr 1 []),(.arr 2 []),(.arr 2 []),(.arr 1 (List.map Zb (s12.2.1++[1]))),(.arr 2 (List.map ZD r)),(.arr 2 (List.map Zbl (s12.2.2.2++[(Zh.mk (-1) s12.1)]))),(.mp (mpD Zb Zb r3.2.2.2.1)),(.mp (mpD Zb Zb r3.2.2.2.2.1)),(.mp (mpD Zq Zb r3.2.2.2.2.2))])
theorem Zk2 {t3:Bool}{a:Zj}{r3:((List Int)×(List Zm)×(List Zh)×(List (Int×Int))×(List (Int×Int))×(List (Zi×Int)))}{s12:Int×(List Int)×(List Zm)×(List Zh)}{x13:Zs}:∀(s19:Int×(List Zm)) (r:(List Zm)),lp (ZdG r3 s12 x13) s19=some r→lpW ctx 0 [2,5,13,88,89,90,117,118,119] [2,5,88,89,90] ZvR [(.ptr 0 0),(.ptr 1 0),(.d (Zb (w64 ((List.length (s12.2.2.2++[(Zh.mk (-1) s12.1)]):Int)-1)))),(.d (D.list t3 (List.map Zv a.barriers))),(.d (Zb (a.barriers.length:Int))),(.d (Zb s12.1)),(.d (D.list true (List.map Zb x13.outs))),(.d (Zb (x13.outs.length:Int))),(.d (Zb s19.1))] [(.cells [(.sl 2 1),(.sl 3 2),(.sl 4 2)]),(.cells [(.sl 5 1),(.sl 6 2),(.sl 7 2),(.mp 8),(.mp 9),(.mp 10)]),(.arr 1 []),(.arr 2 []),(.arr 2 []),(.arr 1 (List.map Zb (s12.2.1++[1]))),(.arr 2 (List.map ZD s19.2)),(.arr 2 (List.map Zbl (s12.2.2.2++[(Zh.mk (-1) s12.1)]))),(.mp (mpD Zb Zb r3.2.2.2.1)),(.mp (mpD Zb Zb r3.2.2.2.2.1)),(.mp (mpD Zq Zb r3.2.2.2.2.2))]=some ((ZhZ t3 a r3 s12 x13) r):=by
 refine ZaG (ZhZ t3 a r3 s12 x13) ?_
 intro s19 rcl ih
 show ZM _ _ (lpW _ _ _ _ _ _ _)
 unfold ZdG
 rw[ZaH]
 conv=>arg 3;whnf
 refine Zf rfl ?_ ?_<;>conv=>arg 3;whnf
 ·refine Zl rfl rfl fun x20 hx20=>?_;conv=>arg 3;whnf
  refine Zg (Zbt (f:=Zb) (g:=Zb) (fun ka kb:Int=>(ka==kb)) (fun _ _=>rfl) r3.2.2.2.1 x20 0) ?_;conv=>arg 3;whnf
  refine Zc _ Zas fun x21 hx21=>?_;conv=>arg 3;whnf
  exact Ze (ih _)
 ·exact Zd rfl
def ZhW (t3:Bool) (a:Zj) (r3:((List Int)×(List Zm)×(List Zh)×(List (Int×Int))×(List (Int×Int))×(List (Zi×Int)))):((List Int)×(List Zm)×(List Zh))→Ex×List V×Zo
  | r=>(.exit 6,[(.ptr 0 0),(.ptr 1 0)],[(.cells [(.sl 2 1),(.sl 3 2),(.sl 4 2)]),(.cells [(.sl 5 1),(.sl 6 2),(.sl 7 2),(.mp 8),(.mp 9),(.mp 10)]),(.arr 1 []),(.arr 2 []),(.arr 2 []),(.arr 1 (List.map Zb r.1)),(.arr 2 (List.map ZD r.2.1)),(.arr 2 (List.map Zbl r.2.2)),(.mp (mpD Zb Zb r3.2.2.2.1)),(.mp (mpD Zb Zb r3.2.2.2.2.1)),(.mp (mpD Zq Zb r3.2.2.2.2.2))])
theorem Zk3 {t3:Bool}{a:Zj}{r3:((List Int)×(List Zm)×(List Zh)×(List (Int×Int))×(List (Int×Int))×(List (Zi×Int)))}:∀(s12:Int×(List Int)×(List Zm)×(List Zh)) (r:((List Int)×(List Zm)×(List Zh))),lp (ZcY a r3) s12=some r→lpW ctx 0 [2,5,88,89,90] [2,5] Zwr [(.ptr 0 0),(.ptr 1 0),(.d (D.list t3 (List.map Zv a.barriers))),(.d (Zb (a.barriers.length:Int))),(.d (Zb s12.1))] [(.cells [(.sl 2 1),(.sl 3 2),(.sl 4 2)]),(.cells [(.sl 5 1),(.sl 6 2),(.sl 7 2),(.mp 8),(.mp 9),(.mp 10)]),(.arr 1 []),(.arr 2 []),(.arr 2 []),(.arr 1 (List.map Zb s12.2.1)),(.arr 2 (List.map ZD s12.2.2.1)),(.arr 2 (List.map Zbl s12.2.2.2)),(.mp (mpD Zb Zb r3.2.2.2.1)),(.mp (mpD Zb Zb r3.2.2.2.2.1)),(.mp (mpD Zq Zb r3.2.2.2.2.2))]=some ((ZhW t3 a r3) r):=by
 refine ZaG (ZhW t3 a r3) ?_
 intro s12 rcl ih
 show ZM _ _ (lpW _ _ _ _ _ _ _)
 unfold ZcY
 rw[ZaH]
 conv=>arg 3;whnf
 refine Zf rfl ?_ ?_<;>conv=>arg 3;whnf
 ·refine Zl rfl rfl fun x13 hx13=>?_;conv=>arg 3;whnf
  refine Zc _ ZaO fun x14 hx14=>?_;conv=>arg 3;whnf
  refine Zn (ZF _ _) ?_;conv=>arg 3;whnf
  refine Zc _ (ZkY _) fun r18 hr18=>?_;conv=>arg 3;whnf
  refine Zn (ZF _ _) ?_;conv=>arg 3;whnf
  refine Zc _ (Zk2 _) fun r22 hr22=>?_;conv=>arg 3;whnf
  exact Ze (ih _)
 ·exact Zd rfl
theorem ZgF {t0:Bool}{t1:Bool}{t2:Bool}{t3:Bool}{a:Zj}:∀r,(Zet a)=some r→evD ctx 41 [(.d (D.agg (dA t0 t1 t2 t3 a)))]=some (ZjR r):=by
 show ZM _ (fun r rhs=>rhs=some (ZjR r)) _
 unfold Zet
 rw[Za1 ctx 41 Zzx _ rfl rfl]
 conv=>arg 3;whnf
 refine Zp _ Zhd rfl fun x0 hx0=>?_;conv=>arg 3;whnf
 refine Zf rfl ?_ ?_<;>conv=>arg 3;whnf
 ·exact Zd rfl
 ·refine Zn (ZF _ _) ?_;conv=>arg 3;whnf
  refine Zc _ (Zk1 _) fun r3 hr3=>?_;conv=>arg 3;whnf
  refine Zn (ZF _ _) ?_;conv=>arg 3;whnf
  refine Zc _ (Zk0 _) fun r7 hr7=>?_;conv=>arg 3;whnf
  refine Zn (ZF _ _) ?_;conv=>arg 3;whnf
  refine Zc _ (ZkX _) fun r11 hr11=>?_;conv=>arg 3;whnf
  refine Zn (ZF _ _) ?_;conv=>arg 3;whnf
  refine Zc _ (Zk3 _) fun r23 hr23=>?_;conv=>arg 3;whnf
  refine Zp _ ZoT rfl fun x24 hx24=>?_;conv=>arg 3;whnf
  refine Zf rfl ?_ ?_<;>conv=>arg 3;whnf
  ·exact Zd rfl
  ·exact Zd rfl
def ZiT (r:Bool):D:=(D.bool r)
theorem Zmv {t0:Bool}{t1:Bool}{a:Zm}{b0:(List Bool)}{b1:(List Int)}:∀r,(Zc8 a b0)=some r→evD ctx 71 [(.d (D.agg [(Zb a.src),(Zb a.dst)])),(.d (D.rptr [(D.list t0 (List.map D.bool b0)),(D.list t1 (List.map Zb b1))]))]=some (ZiT r):=by
 show ZM _ (fun r rhs=>rhs=some (ZiT r)) _
 unfold Zc8
 rw[Za1 ctx 71 Zzz _ rfl rfl]
 conv=>arg 3;whnf
 refine Zl rfl rfl fun x0 hx0=>?_;conv=>arg 3;whnf
 refine Zf rfl ?_ ?_<;>conv=>arg 3;whnf
 ·refine Zl rfl rfl fun x1 hx1=>?_;conv=>arg 3;whnf
  refine Zf rfl ?_ ?_<;>conv=>arg 3;whnf
  ·exact Zd rfl
  ·exact Zd rfl
 ·exact Zd rfl
def Zch (r:Int):D:=(Zb r)
def ZbX (t0:Bool) (t1:Bool) (t2:Bool) (a:(List Zm)) (b0:(List Bool)) (b1:(List Int)):(Int⊕Unit)→Ex×List V×Zo
  | (.inl r)=>(.ret,[(.d (Zb r))],[])
  | (.inr r)=>(.exit 0,[.bad],[])
theorem ZdV {t0:Bool}{t1:Bool}{t2:Bool}{a:(List Zm)}{b0:(List Bool)}{b1:(List Int)}:∀(s0:Int) (r:(Int⊕Unit)),lp (Zac a (fun z0=>Zc8 z0 b0)) s0=some r→lpW ctx 0 [0,1,7,8] [4] Zq8 [(.d (D.list t0 (List.map ZD a))),(.d (D.fn 71 [(D.rptr [(D.list t1 (List.map D.bool b0)),(D.list t2 (List.map Zb b1))])])),(.d (Zb (a.length:Int))),(.d (Zb s0))] []=some ((ZbX t0 t1 t2 a b0 b1) r):=by
 refine ZaG (ZbX t0 t1 t2 a b0 b1) ?_
 intro s0 rcl ih
 show ZM _ _ (lpW _ _ _ _ _ _ _)
 unfold Zac
 rw[ZaH]
 conv=>arg 3;whnf
 refine Zf rfl ?_ ?_<;>conv=>arg 3;whnf
 ·refine Zl rfl rfl fun x1 hx1=>?_;conv=>arg 3;whnf
  refine Zp _ Zmv rfl fun x2 hx2=>?_;conv=>arg 3;whnf
  refine Zf rfl ?_ ?_<;>conv=>arg 3;whnf
  ·exact Zd rfl
  ·exact Ze (ih _)
 ·exact Zd rfl
theorem Zee {t0:Bool}{t1:Bool}{t2:Bool}{a:(List Zm)}{b0:(List Bool)}{b1:(List Int)}:∀r,(ZaP a (fun z0=>Zc8 z0 b0))=some r→evD ctx 104 [(.d (D.list t0 (List.map ZD a))),(.d (D.fn 71 [(D.rptr [(D.list t1 (List.map D.bool b0)),(D.list t2 (List.map Zb b1))])]))]=some (Zch r):=by
 show ZM _ (fun r rhs=>rhs=some (Zch r)) _
 unfold ZaP
 rw[Za1 ctx 104 ZtG _ rfl rfl]
 conv=>arg 3;whnf
 refine Zn (ZF _ _) ?_;conv=>arg 3;whnf
 refine Zc _ (ZdV _) fun r3 hr3=>?_
 clear hr3
 rcases r3 with r3 | r3
 ·conv=>arg 3;whnf
  exact Zd rfl
 ·conv=>arg 3;whnf
  exact Zd rfl
def ZbU (r:Bool):D:=(D.bool r)
theorem ZdU {t0:Bool}{t1:Bool}{t2:Bool}{a:(List Zm)}{b0:(List Bool)}{b1:(List Int)}:∀r,(Z1 a (fun z0=>Zc8 z0 b0))=some r→evD ctx 70 [(.d (D.list t0 (List.map ZD a))),(.d (D.fn 71 [(D.rptr [(D.list t1 (List.map D.bool b0)),(D.list t2 (List.map Zb b1))])]))]=some (ZbU r):=by
 show ZM _ (fun r rhs=>rhs=some (ZbU r)) _
 unfold Z1
 rw[Za1 ctx 70 Zyb _ rfl rfl]
 conv=>arg 3;whnf
 refine Zp _ Zee rfl fun x0 hx0=>?_;conv=>arg 3;whnf
 refine Zf rfl ?_ ?_<;>conv=>arg 3;whnf
 ·exact Zd rfl
 ·exact Zd rfl
def ZkG (r:Bool):D:=(D.bool r)
theorem Zhf {t0:Bool}{t1:Bool}{t2:Bool}{t3:Bool}{t4:Bool}{t5:Bool}{t6:Bool}{t7:Bool}{a:Zj}{b:Zcp}{c:ZB}:∀r,(ZeK a b c)=some r→evD ctx 42 [(.d (D.agg (dA t0 t1 t2 t3 a))),(.d (D.agg [(D.list t4 (List.map Zb b.work)),(D.list t5 (List.map ZD b.edges))])),(.d (D.agg [(D.list t6 (List.map D.bool c.done)),(D.list t7 (List.map Zb c.vals))]))]=some (ZkG r):=by
 show ZM _ (fun r rhs=>rhs=some (ZkG r)) _
 unfold ZeK
 rw[Za1 ctx 42 Zz7 _ rfl rfl]
 conv=>arg 3;whnf
 refine Zn (ZF _ _) ?_;conv=>arg 3;whnf
 refine Zn (ZF _ _) ?_;conv=>arg 3;whnf
 refine Zf rfl ?_ ?_<;>conv=>arg 3;whnf
 ·exact Zd rfl
 ·refine Zn (ZF _ _) ?_;conv=>arg 3;whnf
  refine Zn (ZF _ _) ?_;conv=>arg 3;whnf
  refine Zf rfl ?_ ?_<;>conv=>arg 3;whnf
  ·exact Zd rfl
  ·refine Zp _ ZdU rfl fun x0 hx0=>?_;conv=>arg 3;whnf
   refine Zf rfl ?_ ?_<;>conv=>arg 3;whnf
   ·exact Zd rfl
   ·exact Zd rfl
def Zki (r:Int):D:=(Zb r)
theorem Zhc {t0:Bool}{t1:Bool}{t2:Bool}{t3:Bool}{t4:Bool}{t5:Bool}{a:Zj}{b:ZB}:∀r,(ZeO a b)=some r→evD ctx 21 [(.d (D.agg (dA t0 t1 t2 t3 a))),(.d (D.agg [(D.list t4 (List.map D.bool b.done)),(D.list t5 (List.map Zb b.vals))]))]=some (Zki r):=by
 show ZM _ (fun r rhs=>rhs=some (Zki r)) _
 unfold ZeO
 rw[Za1 ctx 21 ZzR _ rfl rfl]
 conv=>arg 3;whnf
 refine Zp _ ZgF rfl fun x0 hx0=>?_;conv=>arg 3;whnf
 refine Zf rfl ?_ ?_<;>conv=>arg 3;whnf
 ·refine Zp _ Zhf rfl fun x1 hx1=>?_;conv=>arg 3;whnf
  refine Zf rfl ?_ ?_<;>conv=>arg 3;whnf
  ·exact Zd rfl
  ·exact Zd rfl
 ·exact Zd rfl
def Zi5 (r:Bool):D:=(D.bool r)
theorem ZmA {t0:Bool}{t1:Bool}{a:Zm}{b0:Int}{c0:(List Bool)}{c1:(List Int)}:∀r,(Zc5 a b0 c0)=some r→evD ctx 72 [(.d (D.agg [(Zb a.src),(Zb a.dst)])),(.d (D.rptr [(Zb b0)])),(.d (D.rptr [(D.list t0 (List.map D.bool c0)),(D.list t1 (List.map Zb c1))]))]=some (Zi5 r):=by
 show ZM _ (fun r rhs=>rhs=some (Zi5 r)) _
 unfold Zc5
 rw[Za1 ctx 72 ZyZ _ rfl rfl]
 conv=>arg 3;whnf
 refine Zf rfl ?_ ?_<;>conv=>arg 3;whnf
 ·refine Zl rfl rfl fun x0 hx0=>?_;conv=>arg 3;whnf
  refine Zf rfl ?_ ?_<;>conv=>arg 3;whnf
  ·exact Zd rfl
  ·exact Zd rfl
 ·exact Zd rfl
def Zcd (r:Int):D:=(Zb r)
def ZbT (t0:Bool) (t1:Bool) (t2:Bool) (a:(List Zm)) (b0:Int) (b1:(List Bool)) (b2:(List Int)):(Int⊕Unit)→Ex×List V×Zo
  | (.inl r)=>(.ret,[(.d (Zb r))],[])
  | (.inr r)=>(.exit 0,[.bad],[])
theorem ZdP {t0:Bool}{t1:Bool}{t2:Bool}{a:(List Zm)}{b0:Int}{b1:(List Bool)}{b2:(List Int)}:∀(s0:Int) (r:(Int⊕Unit)),lp (Zac a (fun z0=>Zc5 z0 b0 b1)) s0=some r→lpW ctx 0 [0,1,7,8] [4] Zq8 [(.d (D.list t0 (List.map ZD a))),(.d (D.fn 72 [(D.rptr [(Zb b0)]),(D.rptr [(D.list t1 (List.map D.bool b1)),(D.list t2 (List.map Zb b2))])])),(.d (Zb (a.length:Int))),(.d (Zb s0))] []=some ((ZbT t0 t1 t2 a b0 b1 b2) r):=by
 refine ZaG (ZbT t0 t1 t2 a b0 b1 b2) ?_
 intro s0 rcl ih
 show ZM _ _ (lpW _ _ _ _ _ _ _)
 unfold Zac
 rw[ZaH]
 conv=>arg 3;whnf
 refine Zf rfl ?_ ?_<;>conv=>arg 3;whnf
 ·refine Zl rfl rfl fun x1 hx1=>?_;conv=>arg 3;whnf
  refine Zp _ ZmA rfl fun x2 hx2=>?_;conv=>arg 3;whnf
  refine Zf rfl ?_ ?_<;>conv=>arg 3;whnf
  ·exact Zd rfl
  ·exact Ze (ih _)
 ·exact Zd rfl
theorem Zel {t0:Bool}{t1:Bool}{t2:Bool}{a:(List Zm)}{b0:Int}{b1:(List Bool)}{b2:(List Int)}:∀r,(ZaP a (fun z0=>Zc5 z0 b0 b1))=some r→evD ctx 104 [(.d (D.list t0 (List.map ZD a))),(.d (D.fn 72 [(D.rptr [(Zb b0)]),(D.rptr [(D.list t1 (List.map D.bool b1)),(D.list t2 (List.map Zb b2))])]))]=some (Zcd r):=by
 show ZM _ (fun r rhs=>rhs=some (Zcd r)) _
 unfold ZaP
 rw[Za1 ctx 104 ZtG _ rfl rfl]
 conv=>arg 3;whnf
 refine Zn (ZF _ _) ?_;conv=>arg 3;whnf
 refine Zc _ (ZdP _) fun r3 hr3=>?_
 clear hr3
 rcases r3 with r3 | r3
 ·conv=>arg 3;whnf
  exact Zd rfl
 ·conv=>arg 3;whnf
  exact Zd rfl
def ZbY (r:Bool):D:=(D.bool r)
theorem ZdS {t0:Bool}{t1:Bool}{t2:Bool}{a:(List Zm)}{b0:Int}{b1:(List Bool)}{b2:(List Int)}:∀r,(Z1 a (fun z0=>Zc5 z0 b0 b1))=some r→evD ctx 70 [(.d (D.list t0 (List.map ZD a))),(.d (D.fn 72 [(D.rptr [(Zb b0)]),(D.rptr [(D.list t1 (List.map D.bool b1)),(D.list t2 (List.map Zb b2))])]))]=some (ZbY r):=by
 show ZM _ (fun r rhs=>rhs=some (ZbY r)) _
 unfold Z1
 rw[Za1 ctx 70 Zyb _ rfl rfl]
 conv=>arg 3;whnf
 refine Zp _ Zel rfl fun x0 hx0=>?_;conv=>arg 3;whnf
 refine Zf rfl ?_ ?_<;>conv=>arg 3;whnf
 ·exact Zd rfl
 ·exact Zd rfl
def Zkh (r:Bool):D:=(D.bool r)
theorem ZjX {t0:Bool}{t1:Bool}{t2:Bool}{t3:Bool}{a:Zcp}{b:ZB}{c:Int}:∀r,(Zfr a b c)=some r→evD ctx 43 [(.d (D.agg [(D.list t0 (List.map Zb a.work)),(D.list t1 (List.map ZD a.edges))])),(.d (D.agg [(D.list t2 (List.map D.bool b.done)),(D.list t3 (List.map Zb b.vals))])),(.d (Zb c))]=some (Zkh r):=by
 show ZM _ (fun r rhs=>rhs=some (Zkh r)) _
 unfold Zfr
 rw[Za1 ctx 43 ZzA _ rfl rfl]
 conv=>arg 3;whnf
 refine Zp _ ZdS rfl fun x0 hx0=>?_;conv=>arg 3;whnf
 refine Zf rfl ?_ ?_<;>conv=>arg 3;whnf
 ·exact Zd rfl
 ·exact Zd rfl
def Zks (r:(List Int)):D:=(D.list true (List.map Zb r))
def Zir (t4:Bool) (t5:Bool) (b:ZB) (x0:(ZlU×Int)):(List Int)→Ex×List V×Zo
  | r=>(.exit 0,[(.sl 0 1)],[(.arr 1 (List.map Zb r))])
theorem Zlt {t4:Bool}{t5:Bool}{b:ZB}{x0:(ZlU×Int)}:∀(s2:Int×(List Int)) (r:(List Int)),lp (Zec b x0) s2=some r→lpW ctx 0 [3,5,7,26,27,28] [7] Zvl [(.ptr 0 0),(.ptr 1 0),(.sl 2 1),(.d (D.list t4 (List.map D.bool b.done))),(.d (Zb (b.done.length:Int))),(.d (Zb s2.1))] [(.cells [(.d (D.list t4 (List.map D.bool b.done))),(.d (D.list t5 (List.map Zb b.vals)))]),(.cells [(.d (D.list true (List.map Zb x0.1.dag.work))),(.d (D.list true (List.map ZD x0.1.dag.edges))),(.d (D.list true (List.map Zbl x0.1.pieces)))]),(.arr 1 (List.map Zb s2.2))]=some ((Zir t4 t5 b x0) r):=by
 refine ZaG (Zir t4 t5 b x0) ?_
 intro s2 rcl ih
 show ZM _ _ (lpW _ _ _ _ _ _ _)
 unfold Zec
 rw[ZaH]
 conv=>arg 3;whnf
 refine Zf rfl ?_ ?_<;>conv=>arg 3;whnf
 ·refine Zl rfl rfl fun x3 hx3=>?_;conv=>arg 3;whnf
  refine Zf rfl ?_ ?_<;>conv=>arg 3;whnf
  ·exact Ze (ih _)
  ·refine Zp _ ZjX rfl fun x4 hx4=>?_;conv=>arg 3;whnf
   refine Zf rfl ?_ ?_<;>conv=>arg 3;whnf
   ·exact Ze (ih _)
   ·refine ZaT rfl ?_;conv=>arg 3;whnf
    refine Zf (ZgQ Zb s2.2 1) ?_ ?_
    ·conv=>arg 3;whnf
     refine Zn (ZgP Zb s2.2 [s2.1]) ?_;conv=>arg 3;whnf
     exact Ze (ih _)
    ·exact Zaj
 ·exact Zd rfl
theorem ZeW {t0:Bool}{t1:Bool}{t2:Bool}{t3:Bool}{t4:Bool}{t5:Bool}{a:Zj}{b:ZB}:∀r,(Zc2 a b)=some r→evD ctx 16 [(.d (D.agg (dA t0 t1 t2 t3 a))),(.d (D.agg [(D.list t4 (List.map D.bool b.done)),(D.list t5 (List.map Zb b.vals))]))]=some (Zks r):=by
 show ZM _ (fun r rhs=>rhs=some (Zks r)) _
 unfold Zc2
 rw[Za1 ctx 16 Zz2 _ rfl rfl]
 conv=>arg 3;whnf
 refine Zp _ ZgF rfl fun x0 hx0=>?_;conv=>arg 3;whnf
 refine Zf rfl ?_ ?_<;>conv=>arg 3;whnf
 ·exact Zd rfl
 ·refine Zp _ Zhf rfl fun x1 hx1=>?_;conv=>arg 3;whnf
  refine Zf rfl ?_ ?_<;>conv=>arg 3;whnf
  ·refine Zn (ZF _ _) ?_;conv=>arg 3;whnf
   refine Zc _ (Zlt _) fun r5 hr5=>?_;conv=>arg 3;whnf
   exact Zd rfl
  ·exact Zd rfl
def ZeU (t0:Bool) (a:(List Bool)):Unit→V×Zo
  | r=>((.sl 0 1),[(.arr 1 (List.map D.bool a))])
theorem ZgZ {t0:Bool}{a:(List Bool)}:∀r,(ZbS a)=some r→evW ctx 73 [(.d (D.list t0 (List.map D.bool a)))] []=some ((ZeU t0 a) r):=by
 show ZM _ (fun r rhs=>rhs=some ((ZeU t0 a) r)) _
 unfold ZbS
 rw[Zff ctx 73 Zzb _ _ rfl rfl]
 conv=>arg 3;whnf
 refine Zf (Zts D.bool a) ?_ ?_
 ·conv=>arg 3;whnf
  refine ZaT (Zgl (f:=D.bool) (fun _=>⟨rfl,rfl⟩) a 0) ?_;conv=>arg 3;whnf
  refine Zf (Zgj D.bool a) ?_ ?_
  ·conv=>arg 3;whnf
   refine Zn (rfl:_=List.map D.bool a) ?_;conv=>arg 3;whnf
   exact Zd rfl
  ·exact Zaj
 ·exact Zaj
def Zfd (t0:Bool) (a:(List Int)):Unit→V×Zo
  | r=>((.sl 0 1),[(.arr 1 (List.map Zb a))])
theorem Zhw {t0:Bool}{a:(List Int)}:∀r,(Zcg a)=some r→evW ctx 74 [(.d (D.list t0 (List.map Zb a)))] []=some ((Zfd t0 a) r):=by
 show ZM _ (fun r rhs=>rhs=some ((Zfd t0 a) r)) _
 unfold Zcg
 rw[Zff ctx 74 ZzC _ _ rfl rfl]
 conv=>arg 3;whnf
 refine Zf (Zts Zb a) ?_ ?_
 ·conv=>arg 3;whnf
  refine ZaT (Zgl (f:=Zb) (fun _=>⟨rfl,rfl⟩) a 0) ?_;conv=>arg 3;whnf
  refine Zf (Zgj Zb a) ?_ ?_
  ·conv=>arg 3;whnf
   refine Zn (rfl:_=List.map Zb a) ?_;conv=>arg 3;whnf
   exact Zd rfl
  ·exact Zaj
 ·exact Zaj
def ZkE (r:Int):D:=(Zb r)
theorem Znw {t0:Bool}{t1:Bool}{t2:Bool}{a:ZlU}{b:Int}:∀r,(Zgi a b)=some r→evD ctx 75 [(.d (D.agg [(D.list t0 (List.map Zb a.dag.work)),(D.list t1 (List.map ZD a.dag.edges)),(D.list t2 (List.map Zbl a.pieces))])),(.d (Zb b))]=some (ZkE r):=by
 show ZM _ (fun r rhs=>rhs=some (ZkE r)) _
 unfold Zgi
 rw[Za1 ctx 75 ZAR _ rfl rfl]
 conv=>arg 3;whnf
 refine Zw0 (f:=Zbl) (g:=(fun x:Zh=>(x.part,x.step))) (l:=a.pieces) (fun _=>rfl) fun x0 hx0=>?_;conv=>arg 3;whnf
 exact Zd rfl
def ZkH (r:(List Int)):D:=(D.list true (List.map Zb r))
def Zij (t0:Bool) (t1:Bool) (t2:Bool) (t3:Bool) (a:Zj) (b:Int):(List Int)→Ex×List V×Zo
  | r=>(.exit 0,[(.d (Zb b)),(.ptr 0 0),(.sl 1 1)],[(.cells (dV t0 t1 t2 t3 a)),(.arr 1 (List.map Zb r))])
theorem Zlw {t0:Bool}{t1:Bool}{t2:Bool}{t3:Bool}{a:Zj}{b:Int}:∀(s1:Int×(List Int)) (r:(List Int)),lp (ZfT a b) s1=some r→lpW ctx 0 [1,2,5,14,15,16] [1,2,5] Zwq [(.d (Zb b)),(.ptr 0 0),(.sl 1 1),(.d (D.list t1 (List.map ZD a.edges))),(.d (Zb (a.edges.length:Int))),(.d (Zb s1.1))] [(.cells (dV t0 t1 t2 t3 a)),(.arr 1 (List.map Zb s1.2))]=some ((Zij t0 t1 t2 t3 a b) r):=by
 refine ZaG (Zij t0 t1 t2 t3 a b) ?_
 intro s1 rcl ih
 show ZM _ _ (lpW _ _ _ _ _ _ _)
 unfold ZfT
 rw[ZaH]
 conv=>arg 3;whnf
 refine Zf rfl ?_ ?_<;>conv=>arg 3;whnf
 ·refine Zl rfl rfl fun x2 hx2=>?_;conv=>arg 3;whnf
  refine Zf rfl ?_ ?_<;>conv=>arg 3;whnf
  ·refine ZaT rfl ?_;conv=>arg 3;whnf
   refine Zf (ZgQ Zb s1.2 1) ?_ ?_
   ·conv=>arg 3;whnf
    refine Zn (ZgP Zb s1.2 [x2.src]) ?_;conv=>arg 3;whnf
    exact Ze (ih _)
   ·exact Zaj
  ·exact Ze (ih _)
 ·exact Zd rfl
def Ziv (t0:Bool) (t1:Bool) (t2:Bool) (t3:Bool) (a:Zj) (x4:(List Int)):(List Int)→Ex×List V×Zo
  | r=>(.exit 2,[(.sl 0 1)],[(.arr 1 (List.map Zb r))])
theorem Zlq {t0:Bool}{t1:Bool}{t2:Bool}{t3:Bool}{a:Zj}{x4:(List Int)}:∀(s5:Int×(List Int)) (r:(List Int)),lp (ZfU a x4) s5=some r→lpW ctx 0 [2,5,32,33,34] [5] ZvG [(.ptr 0 0),(.sl 1 1),(.d (D.list true (List.map Zb x4))),(.d (Zb (x4.length:Int))),(.d (Zb s5.1))] [(.cells (dV t0 t1 t2 t3 a)),(.arr 1 (List.map Zb s5.2))]=some ((Ziv t0 t1 t2 t3 a x4) r):=by
 refine ZaG (Ziv t0 t1 t2 t3 a x4) ?_
 intro s5 rcl ih
 show ZM _ _ (lpW _ _ _ _ _ _ _)
 unfold ZfU
 rw[ZaH]
 conv=>arg 3;whnf
 refine Zf rfl ?_ ?_<;>conv=>arg 3;whnf
 ·refine Zl rfl rfl fun x6 hx6=>?_;conv=>arg 3;whnf
  refine Zl rfl rfl fun x7 hx7=>?_;conv=>arg 3;whnf
  refine ZaT rfl ?_;conv=>arg 3;whnf
  refine Zf (ZgQ Zb s5.2 1) ?_ ?_
  ·conv=>arg 3;whnf
   refine Zn (ZgP Zb s5.2 [x7.maker]) ?_;conv=>arg 3;whnf
   exact Ze (ih _)
  ·exact Zaj
 ·exact Zd rfl
theorem ZnA {t0:Bool}{t1:Bool}{t2:Bool}{t3:Bool}{a:Zj}{b:Int}:∀r,(Zfv a b)=some r→evD ctx 76 [(.d (D.agg (dA t0 t1 t2 t3 a))),(.d (Zb b))]=some (ZkH r):=by
 show ZM _ (fun r rhs=>rhs=some (ZkH r)) _
 unfold Zfv
 rw[Za1 ctx 76 Zzo _ rfl rfl]
 conv=>arg 3;whnf
 refine Zp _ Zhd rfl fun x0 hx0=>?_;conv=>arg 3;whnf
 refine Zf rfl ?_ ?_<;>conv=>arg 3;whnf
 ·exact Zd rfl
 ·refine Zn (ZF _ _) ?_;conv=>arg 3;whnf
  refine Zc _ (Zlw _) fun r3 hr3=>?_;conv=>arg 3;whnf
  refine Zp _ Zio rfl fun x4 hx4=>?_;conv=>arg 3;whnf
  refine Zn (ZF _ _) ?_;conv=>arg 3;whnf
  refine Zc _ (Zlq _) fun r8 hr8=>?_;conv=>arg 3;whnf
  exact Zd rfl
def Zkm (r:Int):D:=(D.int .u32 r)
theorem Zea {a:Int}:∀r,(Zc1 a)=some r→evD ctx 64 [(.d (Zb a))]=some (Zkm r):=by
 show ZM _ (fun r rhs=>rhs=some (Zkm r)) _
 unfold Zc1
 rw[Za1 ctx 64 Zzn _ rfl rfl]
 conv=>arg 3;whnf
 exact Zd rfl
def Zll:Unit→D
  | r=>(D.agg [(D.int .u32 0),(D.fn 97 []),(D.int .u32 1),(D.fn 98 []),(D.int .u32 0),(D.fn 99 []),(D.int .u32 7),(D.fn 100 [])])
theorem ZoK:∀r,Zie=some r→evD ctx 65 []=some (Zll r):=by
 show ZM _ (fun r rhs=>rhs=some (Zll r)) _
 unfold Zie
 rw[Za1 ctx 65 Zz8 _ rfl rfl]
 conv=>arg 3;whnf
 exact Zd rfl
def ZjU (r:Int):D:=(D.int .u32 r)
theorem ZmH {a:Int}{b:Int}:∀r,(ZfL a b)=some r→evD ctx 97 [(.d (D.int .u32 a)),(.d (D.int .u32 b))]=some (ZjU r):=by
 show ZM _ (fun r rhs=>rhs=some (ZjU r)) _
 unfold ZfL
 rw[Za1 ctx 97 Zzw _ rfl rfl]
 conv=>arg 3;whnf
 exact Zd rfl
def ZjV (r:Int):D:=(D.int .u32 r)
theorem ZmU {a:Int}{b:Int}:∀r,(ZfP a b)=some r→evD ctx 98 [(.d (D.int .u32 a)),(.d (D.int .u32 b))]=some (ZjV r):=by
 show ZM _ (fun r rhs=>rhs=some (ZjV r)) _
 unfold ZfP
 rw[Za1 ctx 98 ZzW _ rfl rfl]
 conv=>arg 3;whnf
 exact Zd rfl
def Zj1 (r:Int):D:=(D.int .u32 r)
theorem ZmW {a:Int}{b:Int}:∀r,(ZfO a b)=some r→evD ctx 99 [(.d (D.int .u32 a)),(.d (D.int .u32 b))]=some (Zj1 r):=by
 show ZM _ (fun r rhs=>rhs=some (Zj1 r)) _
 unfold ZfO
 rw[Za1 ctx 99 Zy5 _ rfl rfl]
 conv=>arg 3;whnf
 exact Zd rfl
def ZjT (r:Int):D:=(D.int .u32 r)
theorem Zm0 {a:Int}{b:Int}:∀r,(ZfS a b)=some r→evD ctx 100 [(.d (D.int .u32 a)),(.d (D.int .u32 b))]=some (ZjT r):=by
 show ZM _ (fun r rhs=>rhs=some (ZjT r)) _
 unfold ZfS
 rw[Za1 ctx 100 Zw3 _ rfl rfl]
 conv=>arg 3;whnf
 exact Zd rfl
def Zna (r:Int):D:=(Zb r)
def Zkt (t0:Bool) (a:ZV) (b:(List Int)):(List (Int×Int))→Ex×List V×Zo
  | r=>(.exit 1,[(.ptr 0 0),(.mp 1)],[(.cells [(.d (Zb a.op)),(.d (Zb a.arg)),(.d (Zb a.work))]),(.mp (mpD Zb Zb r))])
theorem ZnG {t0:Bool}{a:ZV}{b:(List Int)}:∀(s0:Int×(List (Int×Int))) (r:(List (Int×Int))),lp (ZeL b) s0=some r→lpW ctx 0 [3,7,19,20,21] [3,7] ZvH [(.ptr 0 0),(.mp 1),(.d (D.list t0 (List.map Zb b))),(.d (Zb (b.length:Int))),(.d (Zb s0.1))] [(.cells [(.d (Zb a.op)),(.d (Zb a.arg)),(.d (Zb a.work))]),(.mp (mpD Zb Zb s0.2))]=some ((Zkt t0 a b) r):=by
 refine ZaG (Zkt t0 a b) ?_
 intro s0 rcl ih
 show ZM _ _ (lpW _ _ _ _ _ _ _)
 unfold ZeL
 rw[ZaH]
 conv=>arg 3;whnf
 refine Zf rfl ?_ ?_<;>conv=>arg 3;whnf
 ·refine Zl rfl rfl fun x1 hx1=>?_;conv=>arg 3;whnf
  refine Zg (Zdt (f:=Zb) (g:=Zb) (fun ka kb:Int=>(ka==kb)) (fun _ _=>rfl) s0.2 s0.1 x1) ?_;conv=>arg 3;whnf
  exact Ze (ih _)
 ·exact Zd rfl
def Zkn (t1:Bool) (c:(List Int)):Int→Ex×List V×Zo
  | r=>(.exit 3,[(.d (D.int .u32 r))],[])
theorem Zny {t1:Bool}{c:(List Int)}:∀(s6:Int×Int) (r:Int),lp (ZeP c) s6=some r→lpW ctx 0 [10,11,60,61,62] [11] Zoz [(.ptr 0 0),(.d (D.int .u32 s6.1)),(.d (D.list t1 (List.map Zb c))),(.d (Zb (c.length:Int))),(.d (Zb s6.2))] [(.cells [(.d (D.int .u32 0)),(.d (D.fn 97 []))])]=some ((Zkn t1 c) r):=by
 refine ZaG (Zkn t1 c) ?_
 intro s6 rcl ih
 show ZM _ _ (lpW _ _ _ _ _ _ _)
 unfold ZeP
 rw[ZaH]
 conv=>arg 3;whnf
 refine Zf rfl ?_ ?_<;>conv=>arg 3;whnf
 ·refine Zl rfl rfl fun x7 hx7=>?_;conv=>arg 3;whnf
  refine Zp _ Zea rfl fun x8 hx8=>?_;conv=>arg 3;whnf
  refine Zp _ ZmH rfl fun x9 hx9=>?_;conv=>arg 3;whnf
  exact Ze (ih _)
 ·exact Zd rfl
def Zi1 (t1:Bool) (c:(List Int)):Int→Ex×List V×Zo
  | r=>(.exit 3,[(.d (D.int .u32 r))],[])
theorem Zmo {t1:Bool}{c:(List Int)}:∀(s11:Int×Int) (r:Int),lp (ZdX c) s11=some r→lpW ctx 0 [10,11,60,61,62] [11] Zoz [(.ptr 0 0),(.d (D.int .u32 s11.1)),(.d (D.list t1 (List.map Zb c))),(.d (Zb (c.length:Int))),(.d (Zb s11.2))] [(.cells [(.d (D.int .u32 1)),(.d (D.fn 98 []))])]=some ((Zi1 t1 c) r):=by
 refine ZaG (Zi1 t1 c) ?_
 intro s11 rcl ih
 show ZM _ _ (lpW _ _ _ _ _ _ _)
 unfold ZdX
 rw[ZaH]
 conv=>arg 3;whnf
 refine Zf rfl ?_ ?_<;>conv=>arg 3;whnf
 ·refine Zl rfl rfl fun x12 hx12=>?_;conv=>arg 3;whnf
  refine Zp _ Zea rfl fun x13 hx13=>?_;conv=>arg 3;whnf
  refine Zp _ ZmU rfl fun x14 hx14=>?_;conv=>arg 3;whnf
  exact Ze (ih _)
 ·exact Zd rfl
def Zi2 (t1:Bool) (c:(List Int)):Int→Ex×List V×Zo
  | r=>(.exit 3,[(.d (D.int .u32 r))],[])
theorem Zl4 {t1:Bool}{c:(List Int)}:∀(s16:Int×Int) (r:Int),lp (ZdZ c) s16=some r→lpW ctx 0 [10,11,60,61,62] [11] Zoz [(.ptr 0 0),(.d (D.int .u32 s16.1)),(.d (D.list t1 (List.map Zb c))),(.d (Zb (c.length:Int))),(.d (Zb s16.2))] [(.cells [(.d (D.int .u32 0)),(.d (D.fn 99 []))])]=some ((Zi2 t1 c) r):=by
 refine ZaG (Zi2 t1 c) ?_
 intro s16 rcl ih
 show ZM _ _ (lpW _ _ _ _ _ _ _)
 unfold ZdZ
 rw[ZaH]
 conv=>arg 3;whnf
 refine Zf rfl ?_ ?_<;>conv=>arg 3;whnf
 ·refine Zl rfl rfl fun x17 hx17=>?_;conv=>arg 3;whnf
  refine Zp _ Zea rfl fun x18 hx18=>?_;conv=>arg 3;whnf
  refine Zp _ ZmW rfl fun x19 hx19=>?_;conv=>arg 3;whnf
  exact Ze (ih _)
 ·exact Zd rfl
def ZiZ (t1:Bool) (c:(List Int)):Int→Ex×List V×Zo
  | r=>(.exit 3,[(.d (D.int .u32 r))],[])
theorem Zl3 {t1:Bool}{c:(List Int)}:∀(s21:Int×Int) (r:Int),lp (ZdO c) s21=some r→lpW ctx 0 [10,11,60,61,62] [11] Zoz [(.ptr 0 0),(.d (D.int .u32 s21.1)),(.d (D.list t1 (List.map Zb c))),(.d (Zb (c.length:Int))),(.d (Zb s21.2))] [(.cells [(.d (D.int .u32 7)),(.d (D.fn 100 []))])]=some ((ZiZ t1 c) r):=by
 refine ZaG (ZiZ t1 c) ?_
 intro s21 rcl ih
 show ZM _ _ (lpW _ _ _ _ _ _ _)
 unfold ZdO
 rw[ZaH]
 conv=>arg 3;whnf
 refine Zf rfl ?_ ?_<;>conv=>arg 3;whnf
 ·refine Zl rfl rfl fun x22 hx22=>?_;conv=>arg 3;whnf
  refine Zp _ Zea rfl fun x23 hx23=>?_;conv=>arg 3;whnf
  refine Zp _ Zm0 rfl fun x24 hx24=>?_;conv=>arg 3;whnf
  exact Ze (ih _)
 ·exact Zd rfl
theorem Zq5 {t0:Bool}{t1:Bool}{a:ZV}{b:(List Int)}{c:(List Int)}:∀r,(Zi7 a b c)=some r→evD ctx 39 [(.d (D.agg [(Zb a.op),(Zb a.arg),(Zb a.work)])),(.d (D.list t0 (List.map Zb b))),(.d (D.list t1 (List.map Zb c)))]=some (Zna r):=by
 show ZM _ (fun r rhs=>rhs=some (Zna r)) _
 unfold Zi7
 rw[Za1 ctx 39 ZyY _ rfl rfl]
 conv=>arg 3;whnf
 refine Zf rfl ?_ ?_<;>conv=>arg 3;whnf
 ·refine Zn (ZF _ _) ?_;conv=>arg 3;whnf
  refine Zc _ (ZnG _) fun r2 hr2=>?_;conv=>arg 3;whnf
  refine Zg (Zbt (f:=Zb) (g:=Zb) (fun ka kb:Int=>(ka==kb)) (fun _ _=>rfl) r2 a.arg 0) ?_;conv=>arg 3;whnf
  refine Zp _ Zea rfl fun x3 hx3=>?_;conv=>arg 3;whnf
  exact Zd rfl
 ·refine Zf rfl ?_ ?_<;>conv=>arg 3;whnf
  ·refine Zp _ Zea rfl fun x4 hx4=>?_;conv=>arg 3;whnf
   exact Zd rfl
  ·refine Zf rfl ?_ ?_<;>conv=>arg 3;whnf
   ·exact Zd rfl
   ·refine Zf rfl ?_ ?_<;>conv=>arg 3;whnf
    ·exact Zd rfl
    ·refine Zp _ ZoK rfl fun x5 hx5=>?_;conv=>arg 3;whnf
     refine Zf rfl ?_ ?_
     ·conv=>arg 3;whnf
      refine ZsR rfl ?_ ?_ ?_ ?_<;>conv=>arg 3;whnf
      ·refine Zg rfl ?_;conv=>arg 3;whnf
       refine Zn (ZF _ _) ?_;conv=>arg 3;whnf
       refine Zc _ (Zny _) fun r10 hr10=>?_;conv=>arg 3;whnf
       exact Zd rfl
      ·refine Zg rfl ?_;conv=>arg 3;whnf
       refine Zn (ZF _ _) ?_;conv=>arg 3;whnf
       refine Zc _ (Zmo _) fun r15 hr15=>?_;conv=>arg 3;whnf
       exact Zd rfl
      ·conv=>arg 3;whnf
       refine Zg rfl ?_;conv=>arg 3;whnf
       refine Zn (ZF _ _) ?_;conv=>arg 3;whnf
       refine Zc _ (Zl4 _) fun r20 hr20=>?_;conv=>arg 3;whnf
       exact Zd rfl
      ·conv=>arg 3;whnf
       refine Zg rfl ?_;conv=>arg 3;whnf
       refine Zn (ZF _ _) ?_;conv=>arg 3;whnf
       refine Zc _ (Zl3 _) fun r25 hr25=>?_;conv=>arg 3;whnf
       exact Zd rfl
     ·exact Zaj
def Zj2 (r:ZB):D:=(D.agg [(D.list true (List.map D.bool r.done)),(D.list true (List.map Zb r.vals))])
def Zh5 (t0:Bool) (t1:Bool) (t2:Bool) (t3:Bool) (t7:Bool) (a:Zj) (c:(List Int)) (d:ZB) (e:Int) (x3:Zh) (x5:(List Int)):(List Int)→Ex×List V×Zo
  | r=>(.exit 0,[(.d (D.list t7 (List.map Zb c))),(.ptr 0 0),(.ptr 1 0),(.ptr 2 0),(.d (Zb x3.part)),(.sl 3 1)],[(.cells (dV t0 t1 t2 t3 a)),(.cells [(.sl 4 1),(.sl 5 1)]),(.cells [(.sl 6 1),(.sl 7 1)]),(.arr 1 (List.map Zb r)),(.arr 1 (List.map D.bool (List.set d.done e.toNat true))),(.arr 1 (List.map Zb d.vals)),(.arr 1 []),(.arr 1 [])])
theorem ZkZ {t0:Bool}{t1:Bool}{t2:Bool}{t3:Bool}{t7:Bool}{a:Zj}{c:(List Int)}{d:ZB}{e:Int}{x3:Zh}{x5:(List Int)}:∀(s6:Int×(List Int)) (r:(List Int)),lp (ZdI d x5) s6=some r→lpW ctx 0 [2,5,8,10,11,12,44,45,46] [2,5,8,10,11,12] Zvp [(.d (D.list t7 (List.map Zb c))),(.ptr 0 0),(.ptr 1 0),(.ptr 2 0),(.d (Zb x3.part)),(.sl 3 1),(.d (D.list true (List.map Zb x5))),(.d (Zb (x5.length:Int))),(.d (Zb s6.1))] [(.cells (dV t0 t1 t2 t3 a)),(.cells [(.sl 4 1),(.sl 5 1)]),(.cells [(.sl 6 1),(.sl 7 1)]),(.arr 1 (List.map Zb s6.2)),(.arr 1 (List.map D.bool (List.set d.done e.toNat true))),(.arr 1 (List.map Zb d.vals)),(.arr 1 []),(.arr 1 [])]=some ((Zh5 t0 t1 t2 t3 t7 a c d e x3 x5) r):=by
 refine ZaG (Zh5 t0 t1 t2 t3 t7 a c d e x3 x5) ?_
 intro s6 rcl ih
 show ZM _ _ (lpW _ _ _ _ _ _ _)
 unfold ZdI
 rw[ZaH]
 conv=>arg 3;whnf
 refine Zf rfl ?_ ?_<;>conv=>arg 3;whnf
 ·refine Zl rfl rfl fun x7 hx7=>?_;conv=>arg 3;whnf
  refine Zl rfl rfl fun x8 hx8=>?_;conv=>arg 3;whnf
  refine Zg (Zz rfl hx8) ?_;conv=>arg 3;whnf
  refine ZaT rfl ?_;conv=>arg 3;whnf
  refine Zf (ZgQ Zb s6.2 1) ?_ ?_
  ·conv=>arg 3;whnf
   refine Zn (ZgP Zb s6.2 [x8]) ?_;conv=>arg 3;whnf
   exact Ze (ih _)
  ·exact Zaj
 ·exact Zd rfl
theorem Zjk {t0:Bool}{t1:Bool}{t2:Bool}{t3:Bool}{t4:Bool}{t5:Bool}{t6:Bool}{t7:Bool}{t8:Bool}{t9:Bool}{a:Zj}{b:ZlU}{c:(List Int)}{d:ZB}{e:Int}:∀r,(Ze1 a b c d e)=some r→evD ctx 44 [(.d (D.agg (dA t0 t1 t2 t3 a))),(.d (D.agg [(D.list t4 (List.map Zb b.dag.work)),(D.list t5 (List.map ZD b.dag.edges)),(D.list t6 (List.map Zbl b.pieces))])),(.d (D.list t7 (List.map Zb c))),(.d (D.agg [(D.list t8 (List.map D.bool d.done)),(D.list t9 (List.map Zb d.vals))])),(.d (Zb e))]=some (Zj2 r):=by
 show ZM _ (fun r rhs=>rhs=some (Zj2 r)) _
 unfold Ze1
 rw[Za1 ctx 44 ZzO _ rfl rfl]
 conv=>arg 3;whnf
 refine Zc _ ZgZ fun x0 hx0=>?_;conv=>arg 3;whnf
 refine Zc _ Zhw fun x1 hx1=>?_;conv=>arg 3;whnf
 refine Zl rfl rfl fun x2 hx2=>?_;conv=>arg 3;whnf
 refine Zg (Zz rfl hx2) ?_;conv=>arg 3;whnf
 refine Zn (ZaN D.bool d.done e.toNat true) ?_;conv=>arg 3;whnf
 refine Zl rfl rfl fun x3 hx3=>?_;conv=>arg 3;whnf
 refine Zf rfl ?_ ?_<;>conv=>arg 3;whnf
 ·exact Zd rfl
 ·refine Zp _ Znw rfl fun x4 hx4=>?_;conv=>arg 3;whnf
  refine Zf rfl ?_ ?_<;>conv=>arg 3;whnf
  ·exact Zd rfl
  ·refine Zp _ ZnA rfl fun x5 hx5=>?_;conv=>arg 3;whnf
   refine Zn (ZF _ _) ?_;conv=>arg 3;whnf
   refine Zc _ (ZkZ _) fun r9 hr9=>?_;conv=>arg 3;whnf
   refine Zl rfl rfl fun x10 hx10=>?_;conv=>arg 3;whnf
   refine Zp _ Zq5 rfl fun x11 hx11=>?_;conv=>arg 3;whnf
   refine Zl rfl rfl fun x12 hx12=>?_;conv=>arg 3;whnf
   refine Zg (Zz rfl hx12) ?_;conv=>arg 3;whnf
   refine Zn (ZaN Zb d.vals x3.part.toNat x11) ?_;conv=>arg 3;whnf
   exact Zd rfl
def ZjW (r:(ZB×Int)):D:=(D.tup [(D.agg [(D.list true (List.map D.bool r.1.done)),(D.list true (List.map Zb r.1.vals))]),(Zb r.2)])
theorem Zm3 {t0:Bool}{t1:Bool}{t2:Bool}{t3:Bool}{t4:Bool}{t5:Bool}{t6:Bool}{a:Zj}{b:(List Int)}{c:ZB}{d:Int}:∀r,(ZfF a b c d)=some r→evD ctx 18 [(.d (D.agg (dA t0 t1 t2 t3 a))),(.d (D.list t4 (List.map Zb b))),(.d (D.agg [(D.list t5 (List.map D.bool c.done)),(D.list t6 (List.map Zb c.vals))])),(.d (Zb d))]=some (ZjW r):=by
 show ZM _ (fun r rhs=>rhs=some (ZjW r)) _
 unfold ZfF
 rw[Za1 ctx 18 Zz3 _ rfl rfl]
 conv=>arg 3;whnf
 refine Zp _ ZgF rfl fun x0 hx0=>?_;conv=>arg 3;whnf
 refine Zf rfl ?_ ?_<;>conv=>arg 3;whnf
 ·refine Zf rfl ?_ ?_<;>conv=>arg 3;whnf
  ·exact Zd rfl
  ·refine Zp _ Zjk rfl fun x1 hx1=>?_;conv=>arg 3;whnf
   exact Zd rfl
 ·refine Zp _ Zhf rfl fun x2 hx2=>?_;conv=>arg 3;whnf
  refine Zf rfl ?_ ?_<;>conv=>arg 3;whnf
  ·refine Zf rfl ?_ ?_<;>conv=>arg 3;whnf
   ·refine ZaT rfl ?_;conv=>arg 3;whnf
    exact Zd rfl
   ·refine Zn (ZF _ _) ?_;conv=>arg 3;whnf
    refine Zf rfl ?_ ?_<;>conv=>arg 3;whnf
    ·refine ZaT rfl ?_;conv=>arg 3;whnf
     exact Zd rfl
    ·refine Zl rfl rfl fun x3 hx3=>?_;conv=>arg 3;whnf
     refine Zf rfl ?_ ?_<;>conv=>arg 3;whnf
     ·refine ZaT rfl ?_;conv=>arg 3;whnf
      exact Zd rfl
     ·refine Zp _ ZjX rfl fun x4 hx4=>?_;conv=>arg 3;whnf
      refine Zf rfl ?_ ?_<;>conv=>arg 3;whnf
      ·refine ZaT rfl ?_;conv=>arg 3;whnf
       exact Zd rfl
      ·refine Zf rfl ?_ ?_<;>conv=>arg 3;whnf
       ·exact Zd rfl
       ·refine Zp _ Zjk rfl fun x5 hx5=>?_;conv=>arg 3;whnf
        exact Zd rfl
  ·refine ZaT rfl ?_;conv=>arg 3;whnf
   exact Zd rfl
def Zhm (r:Bool):D:=(D.bool r)
def Zf9 (t0:Bool) (t1:Bool) (t2:Bool) (t3:Bool) (t4:Bool) (t5:Bool) (a:Zj) (b:ZB) (c:Int) (x8:(List Int)) (x11:(ZB×Int)):(Unit⊕Unit)→Ex×List V×Zo
  | (.inl r)=>(.exit 0,[(.d (Zb c)),(.ptr 0 0),(.ptr 1 0),(.d (D.list true (List.map Zb x8))),(.ptr 2 0),(.d (Zb x11.2)),(.d (D.bool true)),(.d (D.bool true))],[(.cells (dV t0 t1 t2 t3 a)),(.cells [(.d (D.list t4 (List.map D.bool b.done))),(.d (D.list t5 (List.map Zb b.vals)))]),(.cells [(.d (D.list true (List.map D.bool x11.1.done))),(.d (D.list true (List.map Zb x11.1.vals)))])])
  | (.inr r)=>(.exit 0,[(.d (Zb c)),(.ptr 0 0),(.ptr 1 0),(.d (D.list true (List.map Zb x8))),(.ptr 2 0),(.d (Zb x11.2)),(.d (D.bool false)),(.d (D.bool true))],[(.cells (dV t0 t1 t2 t3 a)),(.cells [(.d (D.list t4 (List.map D.bool b.done))),(.d (D.list t5 (List.map Zb b.vals)))]),(.cells [(.d (D.list true (List.map D.bool x11.1.done))),(.d (D.list true (List.map Zb x11.1.vals)))])])
theorem ZiL {t0:Bool}{t1:Bool}{t2:Bool}{t3:Bool}{t4:Bool}{t5:Bool}{a:Zj}{b:ZB}{c:Int}{x8:(List Int)}{x11:(ZB×Int)}:∀(s12:Bool×Int) (r:(Unit⊕Unit)),lp (Zbi c x8) s12=some r→lpW ctx 0 [2,3,4,7,8,9,10,11,12] [2,3,4,7,8,9,10,11] ZyH [(.d (Zb c)),(.ptr 0 0),(.ptr 1 0),(.d (D.list true (List.map Zb x8))),(.ptr 2 0),(.d (Zb x11.2)),(.d (D.bool s12.1)),(.d (D.bool true)),(.d (Zb s12.2))] [(.cells (dV t0 t1 t2 t3 a)),(.cells [(.d (D.list t4 (List.map D.bool b.done))),(.d (D.list t5 (List.map Zb b.vals)))]),(.cells [(.d (D.list true (List.map D.bool x11.1.done))),(.d (D.list true (List.map Zb x11.1.vals)))])]=some ((Zf9 t0 t1 t2 t3 t4 t5 a b c x8 x11) r):=by
 refine ZaG (Zf9 t0 t1 t2 t3 t4 t5 a b c x8 x11) ?_
 intro s12 rcl ih
 show ZM _ _ (lpW _ _ _ _ _ _ _)
 unfold Zbi
 rw[ZaH]
 rcases hb:s12.1 with _ | _
 ·refine Zkx ?_;conv=>arg 3;whnf
  refine Zn (ZF _ _) ?_;conv=>arg 3;whnf
  refine Zf rfl ?_ ?_<;>conv=>arg 3;whnf
  ·refine Zl rfl rfl fun x13 hx13=>?_;conv=>arg 3;whnf
   refine Zf rfl ?_ ?_<;>conv=>arg 3;whnf
   ·exact Ze (ih _)
   ·exact Ze (ih _)
  ·exact Zd rfl
 ·refine Zj5 ?_;conv=>arg 3;whnf
  refine Zn (ZF _ _) ?_;conv=>arg 3;whnf
  refine Zf rfl ?_ ?_<;>conv=>arg 3;whnf
  ·exact Ze (ih _)
  ·exact Zd rfl
def Zf8 (t0:Bool) (t1:Bool) (t2:Bool) (t3:Bool) (t4:Bool) (t5:Bool) (a:Zj) (b:ZB) (c:Int) (x8:(List Int)) (x11:(ZB×Int)):(Unit⊕Unit)→Ex×List V×Zo
  | (.inl r)=>(.exit 2,[(.d (Zb c)),(.ptr 0 0),(.d (D.list true (List.map Zb x8))),(.ptr 1 0),(.d (Zb x11.2)),(.d (D.bool true)),(.d (D.bool true))],[(.cells (dV t0 t1 t2 t3 a)),(.cells [(.d (D.list true (List.map D.bool x11.1.done))),(.d (D.list true (List.map Zb x11.1.vals)))])])
  | (.inr r)=>(.exit 2,[(.d (Zb c)),(.ptr 0 0),(.d (D.list true (List.map Zb x8))),(.ptr 1 0),(.d (Zb x11.2)),(.d (D.bool true)),(.d (D.bool false))],[(.cells (dV t0 t1 t2 t3 a)),(.cells [(.d (D.list true (List.map D.bool x11.1.done))),(.d (D.list true (List.map Zb x11.1.vals)))])])
theorem Zi8 {t0:Bool}{t1:Bool}{t2:Bool}{t3:Bool}{t4:Bool}{t5:Bool}{a:Zj}{b:ZB}{c:Int}{x8:(List Int)}{x11:(ZB×Int)}:∀(s15:Bool×Int) (r:(Unit⊕Unit)),lp (Zbj b) s15=some r→lpW ctx 0 [2,3,4,7,8,9,10,11,13] [2,3,7,8,9,10,11] ZvE [(.d (Zb c)),(.ptr 0 0),(.ptr 1 0),(.d (D.list true (List.map Zb x8))),(.ptr 2 0),(.d (Zb x11.2)),(.d (D.bool true)),(.d (D.bool s15.1)),(.d (Zb s15.2))] [(.cells (dV t0 t1 t2 t3 a)),(.cells [(.d (D.list t4 (List.map D.bool b.done))),(.d (D.list t5 (List.map Zb b.vals)))]),(.cells [(.d (D.list true (List.map D.bool x11.1.done))),(.d (D.list true (List.map Zb x11.1.vals)))])]=some ((Zf8 t0 t1 t2 t3 t4 t5 a b c x8 x11) r):=by
 refine ZaG (Zf8 t0 t1 t2 t3 t4 t5 a b c x8 x11) ?_
 intro s15 rcl ih
 show ZM _ _ (lpW _ _ _ _ _ _ _)
 unfold Zbj
 rw[ZaH]
 rcases hb:s15.1 with _ | _
 ·refine Zkx ?_;conv=>arg 3;whnf
  refine Zn (ZF _ _) ?_;conv=>arg 3;whnf
  refine Zf rfl ?_ ?_<;>conv=>arg 3;whnf
  ·exact Ze (ih _)
  ·exact Zd rfl
 ·refine Zj5 ?_;conv=>arg 3;whnf
  refine Zn (ZF _ _) ?_;conv=>arg 3;whnf
  refine Zf rfl ?_ ?_<;>conv=>arg 3;whnf
  ·refine Zl rfl rfl fun x16 hx16=>?_;conv=>arg 3;whnf
   refine Zf rfl ?_ ?_<;>conv=>arg 3;whnf
   ·exact Ze (ih _)
   ·exact Ze (ih _)
  ·exact Zd rfl
def Zge (t0:Bool) (t1:Bool) (t2:Bool) (t3:Bool) (a:Zj) (c:Int) (x8:(List Int)) (x11:(ZB×Int)) (x20:(List Int)) (s21:Int):(Unit⊕Unit)→Ex×List V×Zo
  | (.inl r)=>(.exit 6,[(.d (Zb c)),(.ptr 0 0),(.d (D.list true (List.map Zb x8))),(.ptr 1 0),(.d (D.bool true)),(.d (D.list true (List.map Zb x20))),(.d (Zb s21)),(.d (D.bool true))],[(.cells (dV t0 t1 t2 t3 a)),(.cells [(.d (D.list true (List.map D.bool x11.1.done))),(.d (D.list true (List.map Zb x11.1.vals)))])])
  | (.inr r)=>(.exit 6,[(.d (Zb c)),(.ptr 0 0),(.d (D.list true (List.map Zb x8))),(.ptr 1 0),(.d (D.bool true)),(.d (D.list true (List.map Zb x20))),(.d (Zb s21)),(.d (D.bool false))],[(.cells (dV t0 t1 t2 t3 a)),(.cells [(.d (D.list true (List.map D.bool x11.1.done))),(.d (D.list true (List.map Zb x11.1.vals)))])])
theorem ZiY {t0:Bool}{t1:Bool}{t2:Bool}{t3:Bool}{a:Zj}{c:Int}{x8:(List Int)}{x11:(ZB×Int)}{x20:(List Int)}{s21:Int}:∀(s22:Bool×Int) (r:(Unit⊕Unit)),lp (Zfl x8 x20 s21) s22=some r→lpW ctx 0 [2,3,7,8,10,14,15,16,17] [2,3,7,8,10,14,15,16] Zxd [(.d (Zb c)),(.ptr 0 0),(.d (D.list true (List.map Zb x8))),(.ptr 1 0),(.d (D.bool true)),(.d (D.list true (List.map Zb x20))),(.d (Zb s21)),(.d (D.bool s22.1)),(.d (Zb s22.2))] [(.cells (dV t0 t1 t2 t3 a)),(.cells [(.d (D.list true (List.map D.bool x11.1.done))),(.d (D.list true (List.map Zb x11.1.vals)))])]=some ((Zge t0 t1 t2 t3 a c x8 x11 x20 s21) r):=by
 refine ZaG (Zge t0 t1 t2 t3 a c x8 x11 x20 s21) ?_
 intro s22 rcl ih
 show ZM _ _ (lpW _ _ _ _ _ _ _)
 unfold Zfl
 rw[ZaH]
 rcases hb:s22.1 with _ | _
 ·refine Zkx ?_;conv=>arg 3;whnf
  refine Zn (ZF _ _) ?_;conv=>arg 3;whnf
  refine Zf rfl ?_ ?_<;>conv=>arg 3;whnf
  ·refine Zl rfl rfl fun x23 hx23=>?_;conv=>arg 3;whnf
   refine Zl rfl rfl fun x24 hx24=>?_;conv=>arg 3;whnf
   refine Zf rfl ?_ ?_<;>conv=>arg 3;whnf
   ·exact Ze (ih _)
   ·exact Ze (ih _)
  ·exact Zd rfl
 ·refine Zj5 ?_;conv=>arg 3;whnf
  refine Zn (ZF _ _) ?_;conv=>arg 3;whnf
  refine Zf rfl ?_ ?_<;>conv=>arg 3;whnf
  ·exact Ze (ih _)
  ·exact Zd rfl
def Zgm (t0:Bool) (t1:Bool) (t2:Bool) (t3:Bool) (a:Zj) (c:Int) (x8:(List Int)) (x11:(ZB×Int)) (x20:(List Int)):(Unit⊕Unit)→Ex×List V×Zo
  | (.inl r)=>(.ret,[(.ptr 0 0),(.d (D.bool false)),(.ptr 1 0),(.d (D.bool true))],[(.cells (dV t0 t1 t2 t3 a)),(.cells [(.d (D.list true (List.map D.bool x11.1.done))),(.d (D.list true (List.map Zb x11.1.vals)))])])
  | (.inr r)=>(.exit 4,[(.ptr 0 0),.bad,(.ptr 1 0),(.d (D.bool true))],[(.cells (dV t0 t1 t2 t3 a)),(.cells [(.d (D.list true (List.map D.bool x11.1.done))),(.d (D.list true (List.map Zb x11.1.vals)))])])
theorem ZiM {t0:Bool}{t1:Bool}{t2:Bool}{t3:Bool}{a:Zj}{c:Int}{x8:(List Int)}{x11:(ZB×Int)}{x20:(List Int)}:∀(s21:Int) (r:(Unit⊕Unit)),lp (Zfm c x8 x20) s21=some r→lpW ctx 0 [2,3,7,8,10,14,15] [3,6,8,10] Zsc [(.d (Zb c)),(.ptr 0 0),(.d (D.list true (List.map Zb x8))),(.ptr 1 0),(.d (D.bool true)),(.d (D.list true (List.map Zb x20))),(.d (Zb s21))] [(.cells (dV t0 t1 t2 t3 a)),(.cells [(.d (D.list true (List.map D.bool x11.1.done))),(.d (D.list true (List.map Zb x11.1.vals)))])]=some ((Zgm t0 t1 t2 t3 a c x8 x11 x20) r):=by
 refine ZaG (Zgm t0 t1 t2 t3 a c x8 x11 x20) ?_
 intro s21 rcl ih
 show ZM _ _ (lpW _ _ _ _ _ _ _)
 unfold Zfm
 rw[ZaH]
 conv=>arg 3;whnf
 refine Zn (ZF _ _) ?_;conv=>arg 3;whnf
 refine Zf rfl ?_ ?_<;>conv=>arg 3;whnf
 ·refine Zc _ (ZiY _) fun r25 hr25=>?_
  clear hr25
  rcases r25 with r25 | r25
  ·conv=>arg 3;whnf
   refine Zl rfl rfl fun x26 hx26=>?_;conv=>arg 3;whnf
   refine Zf rfl ?_ ?_<;>conv=>arg 3;whnf
   ·refine Z5 rfl ?_;conv=>arg 3;whnf
    exact Ze (ih _)
   ·refine ZaT rfl ?_;conv=>arg 3;whnf
    exact Zd rfl
  ·conv=>arg 3;whnf
   refine Zl rfl rfl fun x27 hx27=>?_;conv=>arg 3;whnf
   refine Zf rfl ?_ ?_<;>conv=>arg 3;whnf
   ·refine ZaT rfl ?_;conv=>arg 3;whnf
    exact Zd rfl
   ·refine Z5 rfl ?_;conv=>arg 3;whnf
    exact Ze (ih _)
 ·exact Zd rfl
def ZfI (t0:Bool) (t1:Bool) (t2:Bool) (t3:Bool) (a:Zj) (c:Int) (x8:(List Int)) (x11:(ZB×Int)) (x34:(List Int)) (s35:Int):(Unit⊕Unit)→Ex×List V×Zo
  | (.inl r)=>(.exit 6,[(.d (Zb c)),(.ptr 0 0),(.d (D.list true (List.map Zb x8))),(.ptr 1 0),(.d (D.bool true)),(.d (D.list true (List.map Zb x34))),(.d (Zb s35)),(.d (D.bool true))],[(.cells (dV t0 t1 t2 t3 a)),(.cells [(.d (D.list true (List.map D.bool x11.1.done))),(.d (D.list true (List.map Zb x11.1.vals)))])])
  | (.inr r)=>(.exit 6,[(.d (Zb c)),(.ptr 0 0),(.d (D.list true (List.map Zb x8))),(.ptr 1 0),(.d (D.bool true)),(.d (D.list true (List.map Zb x34))),(.d (Zb s35)),(.d (D.bool false))],[(.cells (dV t0 t1 t2 t3 a)),(.cells [(.d (D.list true (List.map D.bool x11.1.done))),(.d (D.list true (List.map Zb x11.1.vals)))])])
theorem Zh8 {t0:Bool}{t1:Bool}{t2:Bool}{t3:Bool}{a:Zj}{c:Int}{x8:(List Int)}{x11:(ZB×Int)}{x34:(List Int)}{s35:Int}:∀(s36:Bool×Int) (r:(Unit⊕Unit)),lp (Za5 x8 x34 s35) s36=some r→lpW ctx 0 [2,3,7,8,10,14,15,16,17] [2,3,7,8,10,14,15,16] Zxd [(.d (Zb c)),(.ptr 0 0),(.d (D.list true (List.map Zb x8))),(.ptr 1 0),(.d (D.bool true)),(.d (D.list true (List.map Zb x34))),(.d (Zb s35)),(.d (D.bool s36.1)),(.d (Zb s36.2))] [(.cells (dV t0 t1 t2 t3 a)),(.cells [(.d (D.list true (List.map D.bool x11.1.done))),(.d (D.list true (List.map Zb x11.1.vals)))])]=some ((ZfI t0 t1 t2 t3 a c x8 x11 x34 s35) r):=by
 refine ZaG (ZfI t0 t1 t2 t3 a c x8 x11 x34 s35) ?_
 intro s36 rcl ih
 show ZM _ _ (lpW _ _ _ _ _ _ _)
 unfold Za5
 rw[ZaH]
 rcases hb:s36.1 with _ | _
 ·refine Zkx ?_;conv=>arg 3;whnf
  refine Zn (ZF _ _) ?_;conv=>arg 3;whnf
  refine Zf rfl ?_ ?_<;>conv=>arg 3;whnf
  ·refine Zl rfl rfl fun x37 hx37=>?_;conv=>arg 3;whnf
   refine Zl rfl rfl fun x38 hx38=>?_;conv=>arg 3;whnf
   refine Zf rfl ?_ ?_<;>conv=>arg 3;whnf
   ·exact Ze (ih _)
   ·exact Ze (ih _)
  ·exact Zd rfl
 ·refine Zj5 ?_;conv=>arg 3;whnf
  refine Zn (ZF _ _) ?_;conv=>arg 3;whnf
  refine Zf rfl ?_ ?_<;>conv=>arg 3;whnf
  ·exact Ze (ih _)
  ·exact Zd rfl
def ZfN (t0:Bool) (t1:Bool) (t2:Bool) (t3:Bool) (a:Zj) (c:Int) (x8:(List Int)) (x11:(ZB×Int)) (x34:(List Int)):(Unit⊕Unit)→Ex×List V×Zo
  | (.inl r)=>(.ret,[(.ptr 0 0),(.d (D.bool false)),(.ptr 1 0),(.d (D.bool true))],[(.cells (dV t0 t1 t2 t3 a)),(.cells [(.d (D.list true (List.map D.bool x11.1.done))),(.d (D.list true (List.map Zb x11.1.vals)))])])
  | (.inr r)=>(.exit 4,[(.ptr 0 0),.bad,(.ptr 1 0),(.d (D.bool true))],[(.cells (dV t0 t1 t2 t3 a)),(.cells [(.d (D.list true (List.map D.bool x11.1.done))),(.d (D.list true (List.map Zb x11.1.vals)))])])
theorem Zid {t0:Bool}{t1:Bool}{t2:Bool}{t3:Bool}{a:Zj}{c:Int}{x8:(List Int)}{x11:(ZB×Int)}{x34:(List Int)}:∀(s35:Int) (r:(Unit⊕Unit)),lp (Zb3 c x8 x34) s35=some r→lpW ctx 0 [2,3,7,8,10,14,15] [3,6,8,10] Zsc [(.d (Zb c)),(.ptr 0 0),(.d (D.list true (List.map Zb x8))),(.ptr 1 0),(.d (D.bool true)),(.d (D.list true (List.map Zb x34))),(.d (Zb s35))] [(.cells (dV t0 t1 t2 t3 a)),(.cells [(.d (D.list true (List.map D.bool x11.1.done))),(.d (D.list true (List.map Zb x11.1.vals)))])]=some ((ZfN t0 t1 t2 t3 a c x8 x11 x34) r):=by
 refine ZaG (ZfN t0 t1 t2 t3 a c x8 x11 x34) ?_
 intro s35 rcl ih
 show ZM _ _ (lpW _ _ _ _ _ _ _)
 unfold Zb3
 rw[ZaH]
 conv=>arg 3;whnf
 refine Zn (ZF _ _) ?_;conv=>arg 3;whnf
 refine Zf rfl ?_ ?_<;>conv=>arg 3;whnf
 ·refine Zc _ (Zh8 _) fun r39 hr39=>?_
  clear hr39
  rcases r39 with r39 | r39
  ·conv=>arg 3;whnf
   refine Zl rfl rfl fun x40 hx40=>?_;conv=>arg 3;whnf
   refine Zf rfl ?_ ?_<;>conv=>arg 3;whnf
   ·refine Z5 rfl ?_;conv=>arg 3;whnf
    exact Ze (ih _)
   ·refine ZaT rfl ?_;conv=>arg 3;whnf
    exact Zd rfl
  ·conv=>arg 3;whnf
   refine Zl rfl rfl fun x41 hx41=>?_;conv=>arg 3;whnf
   refine Zf rfl ?_ ?_<;>conv=>arg 3;whnf
   ·refine ZaT rfl ?_;conv=>arg 3;whnf
    exact Zd rfl
   ·refine Z5 rfl ?_;conv=>arg 3;whnf
    exact Ze (ih _)
 ·exact Zd rfl
def ZfJ (t0:Bool) (t1:Bool) (t2:Bool) (t3:Bool) (t4:Bool) (t5:Bool) (a:Zj) (b:ZB) (c:Int) (x8:(List Int)) (x11:(ZB×Int)):(Unit⊕Unit)→Ex×List V×Zo
  | (.inl r)=>(.exit 2,[(.d (Zb c)),(.ptr 0 0),(.d (D.list true (List.map Zb x8))),(.ptr 1 0),(.d (Zb x11.2)),(.d (D.bool false)),(.d (D.bool true))],[(.cells (dV t0 t1 t2 t3 a)),(.cells [(.d (D.list true (List.map D.bool x11.1.done))),(.d (D.list true (List.map Zb x11.1.vals)))])])
  | (.inr r)=>(.exit 2,[(.d (Zb c)),(.ptr 0 0),(.d (D.list true (List.map Zb x8))),(.ptr 1 0),(.d (Zb x11.2)),(.d (D.bool false)),(.d (D.bool false))],[(.cells (dV t0 t1 t2 t3 a)),(.cells [(.d (D.list true (List.map D.bool x11.1.done))),(.d (D.list true (List.map Zb x11.1.vals)))])])
theorem Zib {t0:Bool}{t1:Bool}{t2:Bool}{t3:Bool}{t4:Bool}{t5:Bool}{a:Zj}{b:ZB}{c:Int}{x8:(List Int)}{x11:(ZB×Int)}:∀(s46:Bool×Int) (r:(Unit⊕Unit)),lp (Za0 b) s46=some r→lpW ctx 0 [2,3,4,7,8,9,10,11,13] [2,3,7,8,9,10,11] ZvE [(.d (Zb c)),(.ptr 0 0),(.ptr 1 0),(.d (D.list true (List.map Zb x8))),(.ptr 2 0),(.d (Zb x11.2)),(.d (D.bool false)),(.d (D.bool s46.1)),(.d (Zb s46.2))] [(.cells (dV t0 t1 t2 t3 a)),(.cells [(.d (D.list t4 (List.map D.bool b.done))),(.d (D.list t5 (List.map Zb b.vals)))]),(.cells [(.d (D.list true (List.map D.bool x11.1.done))),(.d (D.list true (List.map Zb x11.1.vals)))])]=some ((ZfJ t0 t1 t2 t3 t4 t5 a b c x8 x11) r):=by
 refine ZaG (ZfJ t0 t1 t2 t3 t4 t5 a b c x8 x11) ?_
 intro s46 rcl ih
 show ZM _ _ (lpW _ _ _ _ _ _ _)
 unfold Za0
 rw[ZaH]
 rcases hb:s46.1 with _ | _
 ·refine Zkx ?_;conv=>arg 3;whnf
  refine Zn (ZF _ _) ?_;conv=>arg 3;whnf
  refine Zf rfl ?_ ?_<;>conv=>arg 3;whnf
  ·exact Ze (ih _)
  ·exact Zd rfl
 ·refine Zj5 ?_;conv=>arg 3;whnf
  refine Zn (ZF _ _) ?_;conv=>arg 3;whnf
  refine Zf rfl ?_ ?_<;>conv=>arg 3;whnf
  ·refine Zl rfl rfl fun x47 hx47=>?_;conv=>arg 3;whnf
   refine Zf rfl ?_ ?_<;>conv=>arg 3;whnf
   ·exact Ze (ih _)
   ·exact Ze (ih _)
  ·exact Zd rfl
def ZfH (t0:Bool) (t1:Bool) (t2:Bool) (t3:Bool) (a:Zj) (c:Int) (x8:(List Int)) (x11:(ZB×Int)) (x51:(List Int)):Unit→Ex×List V×Zo
  | r=>(.exit 4,[(.ptr 0 0),.bad,(.ptr 1 0),(.d (D.bool false))],[(.cells (dV t0 t1 t2 t3 a)),(.cells [(.d (D.list true (List.map D.bool x11.1.done))),(.d (D.list true (List.map Zb x11.1.vals)))])])
theorem Zh9 {t0:Bool}{t1:Bool}{t2:Bool}{t3:Bool}{a:Zj}{c:Int}{x8:(List Int)}{x11:(ZB×Int)}{x51:(List Int)}:∀(s52:Unit) (r:Unit),lp (ZcE x8) s52=some r→lpW ctx 0 [2,3,7,8,10,14,15] [3,6,8,10] Zsc [(.d (Zb c)),(.ptr 0 0),(.d (D.list true (List.map Zb x8))),(.ptr 1 0),(.d (D.bool false)),(.d (D.list true (List.map Zb x51))),(.d (Zb 0))] [(.cells (dV t0 t1 t2 t3 a)),(.cells [(.d (D.list true (List.map D.bool x11.1.done))),(.d (D.list true (List.map Zb x11.1.vals)))])]=some ((ZfH t0 t1 t2 t3 a c x8 x11 x51) r):=by
 refine ZaG (ZfH t0 t1 t2 t3 a c x8 x11 x51) ?_
 intro s52 rcl ih
 show ZM _ _ (lpW _ _ _ _ _ _ _)
 unfold ZcE
 rw[ZaH]
 conv=>arg 3;whnf
 refine Zn (ZF _ _) ?_;conv=>arg 3;whnf
 refine Zf rfl ?_ ?_<;>conv=>arg 3;whnf
 ·exact Zd rfl
 ·exact Zd rfl
def ZfE (t0:Bool) (t1:Bool) (t2:Bool) (t3:Bool) (a:Zj) (c:Int) (x8:(List Int)) (x11:(ZB×Int)) (x56:(List Int)):Unit→Ex×List V×Zo
  | r=>(.exit 4,[(.ptr 0 0),.bad,(.ptr 1 0),(.d (D.bool false))],[(.cells (dV t0 t1 t2 t3 a)),(.cells [(.d (D.list true (List.map D.bool x11.1.done))),(.d (D.list true (List.map Zb x11.1.vals)))])])
theorem Zia {t0:Bool}{t1:Bool}{t2:Bool}{t3:Bool}{a:Zj}{c:Int}{x8:(List Int)}{x11:(ZB×Int)}{x56:(List Int)}:∀(s57:Unit) (r:Unit),lp (ZcF x8) s57=some r→lpW ctx 0 [2,3,7,8,10,14,15] [3,6,8,10] Zsc [(.d (Zb c)),(.ptr 0 0),(.d (D.list true (List.map Zb x8))),(.ptr 1 0),(.d (D.bool false)),(.d (D.list true (List.map Zb x56))),(.d (Zb 0))] [(.cells (dV t0 t1 t2 t3 a)),(.cells [(.d (D.list true (List.map D.bool x11.1.done))),(.d (D.list true (List.map Zb x11.1.vals)))])]=some ((ZfE t0 t1 t2 t3 a c x8 x11 x56) r):=by
 refine ZaG (ZfE t0 t1 t2 t3 a c x8 x11 x56) ?_
 intro s57 rcl ih
 show ZM _ _ (lpW _ _ _ _ _ _ _)
 unfold ZcF
 rw[ZaH]
 conv=>arg 3;whnf
 refine Zn (ZF _ _) ?_;conv=>arg 3;whnf
 refine Zf rfl ?_ ?_<;>conv=>arg 3;whnf
 ·exact Zd rfl
 ·exact Zd rfl
theorem Zj8 {t0:Bool}{t1:Bool}{t2:Bool}{t3:Bool}{t4:Bool}{t5:Bool}{a:Zj}{b:ZB}{c:Int}:∀r,(Ze7 a b c)=some r→evD ctx 4 [(.d (D.agg (dA t0 t1 t2 t3 a))),(.d (D.agg [(D.list t4 (List.map D.bool b.done)),(D.list t5 (List.map Zb b.vals))])),(.d (Zb c))]=some (Zhm r):=by
 show ZM _ (fun r rhs=>rhs=some (Zhm r)) _
 unfold Ze7
 rw[Za1 ctx 4 fn4 _ rfl rfl]
 conv=>arg 3;whnf
 refine Zp _ Zfu rfl fun x0 hx0=>?_;conv=>arg 3;whnf
 refine Zf rfl ?_ ?_<;>conv=>arg 3;whnf
 ·refine Zp _ ZoU rfl fun x1 hx1=>?_;conv=>arg 3;whnf
  refine Zf rfl ?_ ?_<;>conv=>arg 3;whnf
  ·refine Zc _ ZcH fun x2 hx2=>?_;conv=>arg 3;whnf
   refine Zc _ ZcI fun x3 hx3=>?_;conv=>arg 3;whnf
   refine Zp _ Zhc rfl fun x4 hx4=>?_;conv=>arg 3;whnf
   refine Zf rfl ?_ ?_<;>conv=>arg 3;whnf
   ·refine Zp _ Zfu rfl fun x5 hx5=>?_;conv=>arg 3;whnf
    refine Zf rfl ?_ ?_<;>conv=>arg 3;whnf
    ·exact Zd rfl
    ·exact Zd rfl
   ·refine Zc _ ZcH fun x6 hx6=>?_;conv=>arg 3;whnf
    refine Zc _ ZcI fun x7 hx7=>?_;conv=>arg 3;whnf
    refine Zp _ ZeW rfl fun x8 hx8=>?_;conv=>arg 3;whnf
    refine Zc _ ZcH fun x9 hx9=>?_;conv=>arg 3;whnf
    refine Zc _ ZcI fun x10 hx10=>?_;conv=>arg 3;whnf
    refine Zp _ Zm3 rfl fun x11 hx11=>?_;conv=>arg 3;whnf
    refine Zc _ (ZiL _) fun r14 hr14=>?_
    clear hr14
    rcases r14 with r14 | r14
    ·conv=>arg 3;whnf
     refine Zc _ (Zi8 _) fun r17 hr17=>?_
     clear hr17
     rcases r17 with r17 | r17
     ·conv=>arg 3;whnf
      refine Zf rfl ?_ ?_<;>conv=>arg 3;whnf
      ·refine Z5 rfl ?_;conv=>arg 3;whnf
       refine Zn (ZF _ _) ?_;conv=>arg 3;whnf
       refine Zf rfl ?_ ?_<;>conv=>arg 3;whnf
       ·refine Z5 rfl ?_;conv=>arg 3;whnf
        refine Zc _ ZcH fun x18 hx18=>?_;conv=>arg 3;whnf
        refine Zc _ ZcI fun x19 hx19=>?_;conv=>arg 3;whnf
        refine Zp _ ZeW rfl fun x20 hx20=>?_;conv=>arg 3;whnf
        refine Zc _ (ZiM _) fun r28 hr28=>?_
        clear hr28
        rcases r28 with r28 | r28
        ·conv=>arg 3;whnf
         exact Zd rfl
        ·conv=>arg 3;whnf
         refine Zc _ ZcH fun x29 hx29=>?_;conv=>arg 3;whnf
         refine Zc _ ZcI fun x30 hx30=>?_;conv=>arg 3;whnf
         refine Zp _ Zhc rfl fun x31 hx31=>?_;conv=>arg 3;whnf
         refine Zf rfl ?_ ?_<;>conv=>arg 3;whnf
         ·exact Zd rfl
         ·exact Zd rfl
       ·refine ZaT rfl ?_;conv=>arg 3;whnf
        exact Zd rfl
      ·refine ZaT rfl ?_;conv=>arg 3;whnf
       exact Zd rfl
     ·conv=>arg 3;whnf
      refine Zf rfl ?_ ?_<;>conv=>arg 3;whnf
      ·refine Z5 rfl ?_;conv=>arg 3;whnf
       refine Zn (ZF _ _) ?_;conv=>arg 3;whnf
       refine Zf rfl ?_ ?_<;>conv=>arg 3;whnf
       ·refine ZaT rfl ?_;conv=>arg 3;whnf
        exact Zd rfl
       ·refine Z5 rfl ?_;conv=>arg 3;whnf
        refine Zc _ ZcH fun x32 hx32=>?_;conv=>arg 3;whnf
        refine Zc _ ZcI fun x33 hx33=>?_;conv=>arg 3;whnf
        refine Zp _ ZeW rfl fun x34 hx34=>?_;conv=>arg 3;whnf
        refine Zc _ (Zid _) fun r42 hr42=>?_
        clear hr42
        rcases r42 with r42 | r42
        ·conv=>arg 3;whnf
         exact Zd rfl
        ·conv=>arg 3;whnf
         refine Zc _ ZcH fun x43 hx43=>?_;conv=>arg 3;whnf
         refine Zc _ ZcI fun x44 hx44=>?_;conv=>arg 3;whnf
         refine Zp _ Zhc rfl fun x45 hx45=>?_;conv=>arg 3;whnf
         refine Zf rfl ?_ ?_<;>conv=>arg 3;whnf
         ·exact Zd rfl
         ·exact Zd rfl
      ·refine ZaT rfl ?_;conv=>arg 3;whnf
       exact Zd rfl
    ·conv=>arg 3;whnf
     refine Zc _ (Zib _) fun r48 hr48=>?_
     clear hr48
     rcases r48 with r48 | r48
     ·conv=>arg 3;whnf
      refine Zf rfl ?_ ?_<;>conv=>arg 3;whnf
      ·refine ZaT rfl ?_;conv=>arg 3;whnf
       exact Zd rfl
      ·refine Z5 rfl ?_;conv=>arg 3;whnf
       refine Zn (ZF _ _) ?_;conv=>arg 3;whnf
       refine Zf rfl ?_ ?_<;>conv=>arg 3;whnf
       ·refine Z5 rfl ?_;conv=>arg 3;whnf
        refine Zc _ ZcH fun x49 hx49=>?_;conv=>arg 3;whnf
        refine Zc _ ZcI fun x50 hx50=>?_;conv=>arg 3;whnf
        refine Zp _ ZeW rfl fun x51 hx51=>?_;conv=>arg 3;whnf
        refine Zc _ (Zh9 _) fun r53 hr53=>?_;conv=>arg 3;whnf
        exact Zd rfl
       ·refine ZaT rfl ?_;conv=>arg 3;whnf
        exact Zd rfl
     ·conv=>arg 3;whnf
      refine Zf rfl ?_ ?_<;>conv=>arg 3;whnf
      ·refine ZaT rfl ?_;conv=>arg 3;whnf
       exact Zd rfl
      ·refine Z5 rfl ?_;conv=>arg 3;whnf
       refine Zn (ZF _ _) ?_;conv=>arg 3;whnf
       refine Zf rfl ?_ ?_<;>conv=>arg 3;whnf
       ·refine ZaT rfl ?_;conv=>arg 3;whnf
        exact Zd rfl
       ·refine Z5 rfl ?_;conv=>arg 3;whnf
        refine Zc _ ZcH fun x54 hx54=>?_;conv=>arg 3;whnf
        refine Zc _ ZcI fun x55 hx55=>?_;conv=>arg 3;whnf
        refine Zp _ ZeW rfl fun x56 hx56=>?_;conv=>arg 3;whnf
        refine Zc _ (Zia _) fun r58 hr58=>?_;conv=>arg 3;whnf
        exact Zd rfl
  ·refine Zp _ Zfu rfl fun x59 hx59=>?_;conv=>arg 3;whnf
   refine Zf rfl ?_ ?_<;>conv=>arg 3;whnf
   ·exact Zd rfl
   ·exact Zd rfl
 ·refine Zp _ Zfu rfl fun x60 hx60=>?_;conv=>arg 3;whnf
  refine Zf rfl ?_ ?_<;>conv=>arg 3;whnf
  ·exact Zd rfl
  ·exact Zd rfl
end Go.Proofs.YtnmbdjkbaihicaaDoor
namespace Go.Proofs.YtnmbdjkbaihicaaDoor
open Go Go.Proofs.YtnmbdjkbaihicaaDoorE
abbrev Zwk:List Lf×Bool:=([.int .i64],false)
abbrev ZrD:List Lf×Bool:=([.int .i64,.int .i64,.sl true [.int .i64,.int .i64,.int .i64],.sl true [.int .i64,.int .i64],.sl true [.int .i64,.int .i64,.int .i64],.sl true [.sl false [.int .i64],.sl false [.int .i64]]],true)
abbrev ZrU:List Lf×Bool:=([.sl false [.bool],.sl false [.int .i64]],true)
end Go.Proofs.YtnmbdjkbaihicaaDoor
namespace Go.Proofs.YtnmbdjkbaihicaaDoor
open Go Go.Proofs.YtnmbdjkbaihicaaDoorE
set_option linter.unusedVariables false
set_option linter.unusedSimpArgs false
noncomputable def Zls (d:Zj) (m:ZB):Int:=bif @decide (ZhM d) (Classical.propDecidable _) then (bif Ze4 d m then 0 else 80) else (Znx d).2
theorem ZuJ {d:Zj} (hz:ZiP d) (m:ZB):ZeO d m=some (Zls d m):=by
 unfold ZeO Zls
 rw[ZqT hz,Option.bind_some]
 by_cases hl:ZhM d
 ·rw[@decide_eq_true _ (Classical.propDecidable _) hl,ZqE hl]
  simp only[beq_self_eq_true,cond_true,ZmD (ZhJ hl.2).1,Option.bind_some]
  cases Ze4 d m<;>rfl
 ·have hne:=(ZnU hl).2
  rw[@decide_eq_false _ (Classical.propDecidable _) hl,beq_false_of_ne hne]
  rfl
theorem ZuU {d:Zj}{m:ZB} (h:Zls d m=0):ZhM d∧Ze4 d m=true:=by
 unfold Zls at h
 by_cases hl:ZhM d
 ·rw[@decide_eq_true _ (Classical.propDecidable _) hl] at h
  refine⟨hl,?_⟩
  cases hr:Ze4 d m with
  | true=>rfl
  | false=>rw[hr] at h;simp at h
 ·rw[@decide_eq_false _ (Classical.propDecidable _) hl] at h
  exact absurd h (ZnU hl).2
theorem ZuE {d:Zj}{m:ZB} (h1:ZhM d) (h2:Ze4 d m=true):Zls d m=0:=by
 unfold Zls
 rw[@decide_eq_true _ (Classical.propDecidable _) h1,h2];rfl
theorem ZrC (m:ZB) (hl:m.done.length≤1000) (step:Bool×Int→Option ((Bool×Int)⊕(Unit⊕Unit)))
  (h1:∀(i:Nat) x,i<m.done.length→m.done[i]? = some x→step (true,(i:Int))=some (.inl (x,((i+1:Nat):Int))))
  (h2:∀i:Nat,i<m.done.length→step (false,(i:Int))=some (.inl (false,((i+1:Nat):Int))))
  (h3:step (true,(m.done.length:Int))=some (.inr (.inl ()))) (h4:step (false,(m.done.length:Int))=some (.inr (.inr ()))):lp step (true,0)=some (bif m.done.all id then .inl () else .inr ()):=by
 have key:∀k i:Nat,i+k=m.done.length→∀b:Bool,lp step (b,(i:Int))=some (bif b&&(m.done.drop i).all id then .inl () else .inr ()):=by
  intro k
  induction k with
  | zero=>
   intro i hi b
   have:i=m.done.length:=by omega
   subst this
   rw[Za7,List.drop_length]
   cases b
   ·rw[h4];rfl
   ·rw[h3];rfl
  | succ k ih=>
   intro i hi b
   have hi':i<m.done.length:=by omega
   rw[Za7,List.drop_eq_getElem_cons hi',List.all_cons]
   cases b with
   | true=>rw[h1 i m.done[i] hi' (List.getElem?_eq_getElem hi')];dsimp only;rw[ih (i+1) (by omega)];rfl
   | false=>rw[h2 i hi'];dsimp only;rw[ih (i+1) (by omega)];rfl
 have:=key m.done.length 0 (by omega) true
 rw[List.drop_zero] at this
 exact this
theorem Zuj {d:Zj}{input:List Int}{m:ZB} (hG:ZgY (ZaE d).dag) (o:OKM d m) (hR:∀e∈(ZaE d).dag.edges,bAt m.done e.dst=true→bAt m.done e.src=true) {i:Nat} (hi:i<ZfM d) (hr:Zf3 (ZaE d).dag m.done i=true) :
  Ze4 d (ZhY d input m (i:Int))=true∧∀j:Nat,j<ZfM d→Zf3 (ZaE d).dag m.done j=true→(Zf3 (ZaE d).dag (ZhY d input m (i:Int)).done j=true↔j≠i):=by
 obtain⟨r1,r2⟩:=ZgL.1 hr
 have on:=o.n
 have hd:∀z,0≤z→bAt (ZhY d input m (i:Int)).done z=(decide (z=(i:Int)) || bAt m.done z):=fun z hz=>by
  rw[Zur,Int.toNat_natCast]
  exact Zt8 (by rw[on];exact hi) z hz
 refine⟨ZuM (ZtM input o _) fun e he h=>?_,fun j hj hrj=>?_⟩
 ·have s0:=(hG.src e he).1
  have d0:=(hG.dst e he).1
  rw[hd e.dst d0,Bool.or_eq_true,decide_eq_true_eq] at h
  rw[hd e.src s0,Bool.or_eq_true]
  rcases h with h | h
  ·exact .inr (r2 e he h)
  ·exact .inr (hR e he h)
 ·obtain⟨q1,q2⟩:=ZgL.1 hrj
  rw[ZgL,hd (j:Int) (by omega)]
  constructor
  ·rintro ⟨h1,_⟩ hji
   subst hji
   simp at h1
  ·intro hne
   refine⟨by rw[q1,decide_eq_false (show ¬(j:Int)=(i:Int) by omega)];rfl,fun e he hdst=>?_⟩
   rw[hd e.src (hG.src e he).1,q2 e he hdst,Bool.or_true]
theorem Zpr (d:Zj) (m:ZB) (c:Int):Ze7 d m c=some true:=by
 have aw:ZeY=some true:=rfl
 have hfew:Zg4 d [] m=some (few d&&(decide ((m.done.length:Int)≤70)&&decide ((m.vals.length:Int)≤70))):=by
  unfold Zg4
  rw[ZAl,Option.bind_some]
  cases few d<;>cases decide ((m.done.length:Int)≤70)<;>cases decide ((m.vals.length:Int)≤70)<;>rfl
 unfold Ze7
 simp only[aw,cond_true,hfew,Option.bind_some]
 cases hf:few d with
 | false=>rfl
 | true=>
  by_cases hd1:(m.done.length:Int)≤70
  case neg=>rw[decide_eq_false hd1];rfl
  by_cases hd2:(m.vals.length:Int)≤70
  case neg=>rw[decide_eq_true hd1,decide_eq_false hd2];rfl
  have hz:=Zum hf
  have hownm:Zbx m=some ():=Zsr (by omega) (by omega)
  rw[decide_eq_true hd1,decide_eq_true hd2]
  simp only[Bool.and_self,cond_true,cond_false,ZBZ d hz,Option.bind_some,hownm,show Zj.mk d.period d.deadline d.parts d.edges d.futures d.barriers=d from rfl,ZuJ hz]
  by_cases hc:Zls d m=0
  case neg=>rw[bne,beq_false_of_ne hc];rfl
  obtain⟨hl,hr⟩:=ZuU hc
  obtain⟨o,hR⟩:=ZmX hr
  obtain⟨hG,hA⟩:=ZhJ hl.2
  have hn64:ZfM d≤64:=hG.wl
  have on:=o.n
  have ov:=o.v
  have hpl:=(Zl2 hl.1).pl
  have rl:(ZbM d m).length≤64:=Nat.le_trans (ZgW _ _) hn64
  have l0:lp (Zbi c (ZbM d m)) (false,0)=some (bif (ZbM d m).any (fun x=>x==c) then .inl () else .inr ()):=Zvd (ZbM d m) (by omega) _ (fun x=>x==c) (fun i hi=>by
    simp only[Zbi,cond_true,ZdL hi,ZT hi (show(ZbM d m).length<9223372036854775808 by omega)]) (fun i x hi hx=>by
    simp only[Zbi,cond_false,cond_true,ZdL hi,Zax hx,Option.bind_some,ZT hi (show(ZbM d m).length<9223372036854775808 by omega)]
    cases x==c<;>rfl) (by simp only[Zbi,cond_true,Zex];rfl) (by simp only[Zbi,cond_false,Zex]<;>rfl)
  have l1:lp (Zbj m) (true,0)=some (bif m.done.all id then .inl () else .inr ()):=ZrC m (by omega) _ (fun i x hi hx=>by
    simp only[Zbj,cond_true,ZdL hi,Zax hx,Option.bind_some,ZT hi (show m.done.length<9223372036854775808 by omega)]
    cases x<;>rfl) (fun i hi=>by simp only[Zbj,cond_false,cond_true,ZdL hi,ZT hi (show m.done.length<9223372036854775808 by omega)]) (by simp only[Zbj,cond_true,Zex];rfl) (by simp only[Zbj,cond_false,Zex]<;>rfl)
  have l12:lp (Za0 m) (true,0)=some (bif m.done.all id then .inl () else .inr ()):=ZrC m (by omega) _ (fun i x hi hx=>by
    simp only[Za0,cond_true,ZdL hi,Zax hx,Option.bind_some,ZT hi (show m.done.length<9223372036854775808 by omega)]
    cases x<;>rfl) (fun i hi=>by simp only[Za0,cond_false,cond_true,ZdL hi,ZT hi (show m.done.length<9223372036854775808 by omega)]) (by simp only[Za0,cond_true,Zex];rfl) (by simp only[Za0,cond_false,Zex]<;>rfl)
  have none0:m.done.all id=true↔ZbM d m=[]:=by
   constructor
   ·intro h
    refine List.eq_nil_iff_forall_not_mem.2 fun z hz2=>?_
    obtain⟨i,hi,hri,rfl⟩:=Zh7.1 hz2
    have hi2:i<m.done.length:=by rw[on];exact hi
    have:=List.all_eq_true.1 h m.done[i] (List.getElem_mem hi2)
    have hb:=(ZgL.1 hri).1
    unfold bAt at hb
    rw[Int.toNat_natCast,List.getElem?_eq_getElem hi2] at hb
    simp only at hb
    rw[hb] at this
    cases this
   ·intro h
    refine List.all_eq_true.2 fun x hx=>?_
    apply Classical.byContradiction
    intro hx2
    have:¬ZBW d m:=fun ha=>by
     obtain⟨i,hi⟩:=List.getElem?_of_mem hx
     have:=ha i (by rw[← on];exact(List.getElem?_eq_some_iff.1 hi).1)
     unfold bAt at this
     rw[Int.toNat_natCast,hi] at this
     exact hx2 this
    obtain⟨i,hi,hri⟩:=Zs4 hl o this
    have hm:(i:Int)∈ZbM d m:=Zh7.2 ⟨i,hi,hri,rfl⟩
    rw[h] at hm
    cases hm
  rw[hc]
  simp only[bne_self_eq_false,cond_false,ZmI hz m,if_pos (show ZhM d∧Ze4 d m=true from ⟨hl,hr⟩),Option.bind_some,Ztf hz [] (show([]:List Int).length≤1000 by simp),l0]
  by_cases hhas:(ZbM d m).any (fun x=>x==c)=true
  ·rw[hhas]
   obtain⟨z,hz2,hz3⟩:=List.any_eq_true.1 hhas
   have hzc:z=c:=by simpa using hz3
   subst hzc
   have hne:ZbM d m≠[]:=fun he=>by rw[he] at hz2;cases hz2
   have hall:m.done.all id=false:=by
    cases ha:m.done.all id with
    | false=>rfl
    | true=>exact absurd (none0.1 ha) hne
   have hlen:(((ZbM d m).length:Int)==0)=false:=beq_false_of_ne (by have:=List.length_pos_iff.2 hne;omega)
   obtain⟨i,hi,hri,rfl⟩:=Zh7.1 hz2
   have hgo:goM d [] m (i:Int)=(ZhY d [] m (i:Int),0):=by
    obtain⟨r1,r2⟩:=ZgL.1 hri
    have hw:(ZaE d).dag.edges.any (Zhg m.done (i:Int))=false:=List.any_eq_false.2 fun e he hcc=>by
     unfold Zhg at hcc
     simp only[Bool.and_eq_true,beq_iff_eq,Bool.not_eq_true'] at hcc
     rw[r2 e he hcc.1] at hcc
     cases hcc.2
    unfold goM
    rw[@decide_eq_true _ (Classical.propDecidable _) hl,hr,decide_eq_false (show ¬(i:Int)<0 by omega),decide_eq_false (show ¬(m.done.length:Int)≤(i:Int) by rw[on];omega),r1,hw]
    rfl
   obtain⟨f1,f2⟩:=Zuj (input:=[]) hG o hR hi hri
   have of_:=ZtM [] o (i:Int)
   have hown2:Zbx (ZhY d [] m (i:Int))=some ():=Zsr (by rw[of_.n];omega) (by rw[of_.v];omega)
   have rl2:(ZbM d (ZhY d [] m (i:Int))).length≤64:=Nat.le_trans (ZgW _ _) hn64
   have l3:=ZgM (ZbM d m) (Zb3 (i:Int) (ZbM d m) (ZbM d (ZhY d [] m (i:Int)))) (fun _ _=>false) (fun _ _=>.inl ()) (.inr ()) (fun k x hk hx=>by
    have l2:lp (Za5 (ZbM d m) (ZbM d (ZhY d [] m (i:Int))) (k:Int)) (false,0)=some (bif (ZbM d (ZhY d [] m (i:Int))).any (fun y=>y==x) then .inl () else .inr ()):=Zvd _ (by omega) _ (fun y=>y==x) (fun j hj=>by
      simp only[Za5,cond_true,ZdL hj,ZT hj (show(ZbM d (ZhY d [] m (i:Int))).length<9223372036854775808 by omega)]) (fun j y hj hy=>by
      simp only[Za5,cond_false,cond_true,ZdL hj,Zax hy,Zax hx,Option.bind_some,ZT hj (show(ZbM d (ZhY d [] m (i:Int))).length<9223372036854775808 by omega)]
      cases y==x<;>rfl) (by simp only[Za5,cond_true,Zex];rfl) (by simp only[Za5,cond_false,Zex]<;>rfl)
    obtain⟨j,hj,hrj,rfl⟩:=Zh7.1 (List.mem_of_getElem? hx)
    have iff:=f2 j hj hrj
    have hany:(ZbM d (ZhY d [] m (i:Int))).any (fun y=>y==(j:Int))=((j:Int) != (i:Int)):=by
     rw[Bool.eq_iff_iff,List.any_eq_true,bne_iff_ne]
     constructor
     ·rintro ⟨y,hy,hyj⟩
      have:y=(j:Int):=by simpa using hyj
      subst this
      obtain⟨j',hj',hrj',he⟩:=Zh7.1 hy
      have:j'=j:=by omega
      subst this
      have:=iff.1 hrj'
      omega
     ·intro hne2
      exact⟨(j:Int),Zh7.2 ⟨j,hj,iff.2 (by omega),rfl⟩,by simp⟩
    rw[hany] at l2
    simp only[Zb3,ZdL hk,cond_true,l2,Option.bind_some,Zax hx,ZT hk (show(ZbM d m).length<9223372036854775808 by omega)]
    cases (j:Int) != (i:Int)<;>rfl) (by simp only[Zb3,Zex];rfl)
   rw[ZeN,Zj9,show((ZbM d m).any fun _=>false)=false by simp] at l3
   rw[hgo]
   simp only[cond_true,l1,hall,cond_false,Option.bind_some,beq_self_eq_true,hlen,hown2,ZmI hz (ZhY d [] m (i:Int)),if_pos (show ZhM d∧Ze4 d (ZhY d [] m (i:Int))=true from ⟨hl,f1⟩),l3,ZuE hl f1]
  ·have hhas2:(ZbM d m).any (fun x=>x==c)=false:=by
    cases h:(ZbM d m).any (fun x=>x==c) with
    | false=>rfl
    | true=>exact absurd h hhas
   rw[hhas2]
   have hgo:(goM d [] m c).2≠0∧(goM d [] m c).1=⟨[],[]⟩:=by
    unfold goM
    rw[@decide_eq_true _ (Classical.propDecidable _) hl,hr]
    simp only[cond_true]
    by_cases h1:c<0
    ·rw[decide_eq_true h1];exact⟨by show(81:Int)≠0;omega,rfl⟩
    by_cases h2:(m.done.length:Int)≤c
    ·rw[decide_eq_false h1,decide_eq_true h2];exact⟨by show(81:Int)≠0;omega,rfl⟩
    rw[decide_eq_false h1,decide_eq_false h2]
    cases h3:bAt m.done c with
    | true=>exact⟨by show(82:Int)≠0;omega,rfl⟩
    | false=>
     cases h4:(ZaE d).dag.edges.any (Zhg m.done c) with
     | true=>exact⟨by show(83:Int)≠0;omega,rfl⟩
     | false=>
      exfalso
      have ec:((c.toNat:Nat):Int)=c:=Int.toNat_of_nonneg (by omega)
      have hm:c∈ZbM d m:=Zh7.2 ⟨c.toNat,by rw[← on];omega,ZgL.2 ⟨by rw[ec];exact h3,fun e he hdst=>by
       have:=List.any_eq_false.1 h4 e he
       unfold Zhg at this
       rw[hdst,ec] at this
       simpa using this⟩,ec.symm⟩
      have:=List.any_eq_false.1 hhas2 c hm
      simp at this
   have hb:((goM d [] m c).2==0)=false:=beq_false_of_ne hgo.1
   have hown2:Zbx (⟨[],[]⟩:ZB)=some ():=Zsr (by simp) (by simp)
   obtain⟨x,hx⟩:∃x,Zc2 d (⟨[],[]⟩:ZB)=some x:=⟨_,ZmI hz _⟩
   have e3:lp (ZcE (ZbM d m)) ()=some ():=Zq1 (by unfold ZcE;cases decide ((0:Int)<((ZbM d m).length:Int))<;>rfl)
   have e4:lp (ZcF (ZbM d m)) ()=some ():=Zq1 (by unfold ZcF;cases decide ((0:Int)<((ZbM d m).length:Int))<;>rfl)
   cases ha:m.done.all id with
   | true=>
    have he:=none0.1 ha
    rw[ha] at l12
    have hlen:(((ZbM d m).length:Int)==0)=true:=by rw[he];rfl
    simp only[cond_true,cond_false,l12,Option.bind_some,hb,hlen,hgo.2,hown2,hx,e3]
   | false=>
    have he:ZbM d m≠[]:=fun he=>by rw[none0.2 he] at ha;cases ha
    rw[ha] at l12
    have hlen:(((ZbM d m).length:Int)==0)=false:=beq_false_of_ne (by have:=List.length_pos_iff.2 he;omega)
    simp only[cond_true,cond_false,l12,Option.bind_some,hb,hlen,hgo.2,hown2,hx,e4]
theorem Zrb (xs:List D) (h:Zf6 ZrD.1 xs) (ys:List D) (k:Zf6 ZrU.1 ys) (zs:List D) (n:Zf6 Zwk.1 zs) :
  ∃H',evW ctx 4 (ZcU [Zps ZrD.2 xs,Zps ZrU.2 ys,Zps Zwk.2 zs]) []=some (.d (.bool true),H'):=by
 obtain⟨d,hd,_⟩:=Zxy h
 obtain⟨m,hm⟩:=Zu0 k
 obtain⟨c,hc,_⟩:=Zzy n
 show ∃H',evW ctx 4 [.d (D.agg xs),.d (D.agg ys),.d (Zps false zs)] []=_
 rw[hd,hm,hc]
 exact Zxq (Zj8 true (Zpr d m c))
end Go.Proofs.YtnmbdjkbaihicaaDoor
namespace Go.Proofs.YtnmbdjkbaihicaaDoor.LawEvalReady
open Go.ChangeShapes Go.WideShapes Go.ChangeAt Go.RowKit Go.Proofs.YtnmbdjkbaihicaaDoorE
set_option linter.unusedVariables false
theorem own:ownKnob Tryd.prog.godebug=none:=by kernel_rfl
theorem ZqU:laidOutB Tryd.prog=true:=by kernel_rfl
def Zpl : List (String × DataW Unit) := [("math/bits.deBruijn32tab", Rows.laid_math_bits_deBruijn32tab), ("math/bits.deBruijn64tab", Rows.laid_math_bits_deBruijn64tab)]
theorem Zw6 (os:Os) (args:Array Value):laidMetH Tryd.prog Zpl ((World.doorLaid Tryd.prog 19 os).forCall (fun _ _=>0) ⟨#[],args,[]⟩).memory:=
 laidMetH_of_parts3 (fuel:=8) (laidMet_of_run' 8 (by kernel_rfl) (by kernel_rfl)) (by kernel_rfl) (by kernel_rfl)
theorem ZvQ {W:World} (h:laidMetH Tryd.prog Zpl W):GOK Zx R0 W:=by
 intro g l hg
 unfold Zx at hg
 split at hg
 ·cases hg
  exact ZoS (t := 148) (N := 32) (e := 5) (k := .u8) h (by kernel_rfl) (n := "math/bits.deBruijn32tab") (by rw [show DataW.agg (ZlC ZyQ) = Rows.laid_math_bits_deBruijn32tab by kernel_rfl]; simp [Zpl]) (by kernel_rfl) (by kernel_rfl) (by kernel_rfl) (by kernel_rfl) (by kernel_rfl) (by kernel_rfl) (by decide)
 ·cases hg
  exact ZoS (t := 149) (N := 64) (e := 5) (k := .u8) h (by kernel_rfl) (n := "math/bits.deBruijn64tab") (by rw [show DataW.agg (ZlC ZyI) = Rows.laid_math_bits_deBruijn64tab by kernel_rfl]; simp [Zpl]) (by kernel_rfl) (by kernel_rfl) (by kernel_rfl) (by kernel_rfl) (by kernel_rfl) (by kernel_rfl) (by decide)
 ·cases hg
theorem ZzF (os:Os) (started:os.Started) (H:Type) (enc:TypeId×Value→H) :
  ReturnsInHanded {} Tryd.checked os 4 .any (fun w args=>(Rows.evalReadySpec.pre enc Tryd.prog Tryd.f4 [] false w args∧laidMetH Tryd.prog Zpl w)∧sizedMet enc Tryd.prog Tryd.f4 (OpenSpec.ofChange Rows.evalReadySpec) false w args) (Rows.evalReadySpec.post enc Tryd.prog Tryd.f4 false true false false):=by
 refine returnsInHanded_of_change_and (C:=Tryd.checked) (X:=fun w _=>laidMetH Tryd.prog Zpl w) (fun _ _ _ hh h=>h.of_heap hh) own started (by kernel_rfl) Tryd.func4
  (ChangeSpec.witness_shaped (enc:=enc) (C:=Tryd.checked) (os:=os) (X:=fun w _=>laidMetH Tryd.prog Zpl w) false (World.doorLaid Tryd.prog 19 os) #[.agg #[.int .i64 0,.int .i64 0,.slice none 0 0,.slice none 0 0,.slice none 0 0,.slice none 0 0],.agg #[.slice none 0 0,.slice none 0 0],.int .i64 0] 8 rfl (World.shaped_of_RefB (by kernel_rfl) (by kernel_rfl)) (by kernel_rfl) (by kernel_rfl) (by kernel_rfl) (Zw6 os _)) ?_
 intro W base args ds gs before hval0 hW _ _ hL _
 have hval:∀(j:Nat) t v,Tryd.f4.params[j]? = some t→args[j]? = some v→Value.okWide Tryd.prog W .any base t v:=hval0
 have hW':=hW
 obtain⟨p,q,hA0,hV,rfl,hfz,hnd⟩:=hW
 have hA:DataW.TrodAll enc Tryd.prog W 0 (fun _=>true) true Tryd.f4.params.toList args.toList ds p:=hA0
 rw[Tryd.params4] at hA hval
 obtain⟨v0,vs0,d0,ds0,p0,q0,hargs,rfl,rfl,h0,r0⟩:=trodAll_cons hA
 obtain⟨v1,vs1,d1,ds1,p1,q1,rfl,rfl,rfl,h1,r1⟩:=trodAll_cons r0
 obtain⟨v2,vs2,d2,ds2,p2,q2,rfl,rfl,rfl,h2,r2⟩:=trodAll_cons r1
 obtain⟨rfl,rfl,rfl⟩:=trodAll_nil r2
 obtain rfl:args = #[v0,v1,v2]:=by cases args;simp_all
 obtain⟨rfl,rfl⟩:=trodVars_none hV
 have lt0:∀x∈p0,x.block<W.heap.size:=by obtain⟨m,hm⟩:=h0;exact DataW.trod_lt m _ _ _ hm
 obtain⟨x0,ok0,den0⟩:=ZsL (P:=Tryd.prog) (n:=8) (t:=27) (l:=ZrD.1) (ag:=ZrD.2) (by kernel_rfl) (hval 0 27 v0 rfl rfl) h0
 have lt1:∀x∈p1,x.block<W.heap.size:=by obtain⟨m,hm⟩:=h1;exact DataW.trod_lt m _ _ _ hm
 obtain⟨x1,ok1,den1⟩:=ZsL (P:=Tryd.prog) (n:=8) (t:=33) (l:=ZrU.1) (ag:=ZrU.2) (by kernel_rfl) (hval 1 33 v1 rfl rfl) h1
 have lt2:∀x∈p2,x.block<W.heap.size:=by obtain⟨m,hm⟩:=h2;exact DataW.trod_lt m _ _ _ hm
 obtain⟨x2,ok2,den2⟩:=ZsL (P:=Tryd.prog) (n:=8) (t:=3) (l:=Zwk.1) (ag:=Zwk.2) (by kernel_rfl) (hval 2 3 v2 rfl rfl) h2
 obtain⟨H1,ev⟩:=Zrb x0 ok0 x1 ok1 x2 ok2
 have den:Za2 All All All W [Zps ZrD.2 x0,Zps ZrU.2 x1,Zps Zwk.2 x2] [v0,v1,v2]:=⟨_,_,rfl,den0,⟨_,_,rfl,den1,⟨_,_,rfl,den2,rfl⟩⟩⟩
 refine(ZuW ZBd (ZvQ hL) den ev).mono fun e W' ⟨he,bel⟩=>?_
 subst he
 exact⟨_,rfl,_,_,_,[],_,[],hW',trodAll_mk1 (shut_bool Tryd.underlying4 _),(trodAll_cons_mk (Below.trod ZqU (by kernel_rfl) (of_decide_eq_true (by kernel_rfl)) h0 bel lt0) (trodAll_cons_mk (Below.trod ZqU (by kernel_rfl) (of_decide_eq_true (by kernel_rfl)) h1 bel lt1) (trodAll_cons_mk (Below.trod ZqU (by kernel_rfl) (of_decide_eq_true (by kernel_rfl)) h2 bel lt2) trodAll_mk0))),rfl,bel.frame _,fun h=>by cases h⟩
theorem over:Rows.evalReadyRow.holds Tryd.pinned (OpenSpec.ofChange Rows.evalReadySpec):=
 OpenClaim.holds_of_wide 4 Tryd.f4 rfl rfl rfl rfl rfl rfl rfl ⟨rfl,rfl,rfl,rfl,rfl⟩ rfl rfl rfl rfl rfl (by kernel_rfl) Tryd.func4 (by kernel_rfl)
  (of_decide_eq_true (by kernel_rfl)) (by unfold Func.isWrapper;first | (rw[if_pos (by decide +kernel)];kernel_rfl) | (rw[if_neg (by decide +kernel)];exact⟨rfl,rfl⟩))
  (fun os started H enc _=>ZzF os started H enc)
theorem proved:Rows.EvalReadySaid:=over
theorem carded:Rows.EvalReadyCardSaid:=
 Claim7.holds_tied_plain_at .later [] [.data, .data] true (true, "3ab9be834fa2b7d026ba399aa683e49be0919143fbbd24a24d6e9902cb90d35e") false
  proved (fun _ h=>by cases h) (by kernel_rfl) (fun _ h=>by cases h) evalReady_row_tie rfl ⟨rfl,rfl⟩ (by kernel_rfl) rfl
  (fun f fn hf hfn=>by
   obtain rfl : f = 4 := Option.some.inj ((show Tryd.prog.funcNamed "trefoil/trefoillaw08.EvalReady" = some 4 by kernel_rfl).symm.trans hf) |>.symm
   obtain rfl:fn=Tryd.f4:=(Option.some.inj (Tryd.func4.symm.trans hfn)).symm
   exact⟨by kernel_rfl,fun j t ht=>by
    rw[Tryd.params4] at ht
    have hm:t∈[27,33,3]:=by simpa using Array.mem_of_getElem? ht
    have hall:([27,33,3].all fun u=>!Tryd.prog.wantsStandIn u)=true:=by kernel_rfl
    exact(show Tryd.prog.wantsStandIn t=false by simpa using List.all_eq_true.1 hall t hm)⟩)
  (by kernel_rfl)
end Go.Proofs.YtnmbdjkbaihicaaDoor.LawEvalReady
namespace Go.Proofs.YtnmbdjkbaihicaaDoor
theorem evalReady_holds:Rows.EvalReadyCardSaid:=LawEvalReady.carded
#print axioms evalReady_holds
end Go.Proofs.YtnmbdjkbaihicaaDoor
