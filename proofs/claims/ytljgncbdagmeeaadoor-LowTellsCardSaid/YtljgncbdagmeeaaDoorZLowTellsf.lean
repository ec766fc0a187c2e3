/- LowTells: part 6 of 6 of the proof: the row and the card of the law, out of what the evaluator says of it; without conditions. -/
import Derived.Test.YtljgncbdagmeeaaDoorZLowTellse
import Derived.KernelRfl
import Derived.Test.YtljgncbdagmeeaaDoorRows
import Derived.Test.YtljgncbdagmeeaaDoorCards
import Derived.Test.YtljgncbdagmeeaaDoorTie
import Derived.WalkKit
import Derived.ProofKit
import Derived.OpenShut
import Derived.ShutString
import Derived.ChangeOld
import Derived.Below
import Derived.SizedLaws
import Derived.Handed
import Derived.LaidMore
import Derived.Stop.Joined
import Derived.ChangeShapes
import Derived.Carry
import Derived.SevenTiedAt
set_option maxRecDepth 100000
set_option maxHeartbeats 40000000
namespace Go.Proofs.YtljgncbdagmeeaaDoor
open Go Go.Proofs.YtljgncbdagmeeaaDoorE
set_option linter.unusedVariables false
set_option linter.unusedSimpArgs false
def Zgl (b:Int) (c:Int) (m1_0:(List Int)) (m2_0:(List Zj)) (m3_0:(List Zh)) (m4_0:(List (Int×Int))) (m5_0:(List (Int×Int))) (m6_0:(List (Zi×Int))):Unit→V×Zo
  | r=>((.d (D.tup [])),[(.cells [(.sl 1 1),(.sl 7 2),(.sl 3 2),(.mp 4),(.mp 5),(.mp 6)]),(.arr 1 (List.map Zb m1_0)),.dead,(.arr 2 (List.map Z8 m3_0)),(.mp (mpD Zb Zb m4_0)),(.mp (mpD Zb Zb m5_0)),(.mp (mpD Zq Zb m6_0)),(.arr 2 (List.map Zt (m2_0++[(Zj.mk b c)])))])
theorem Zau {b:Int} {c:Int} {m1_0:(List Int)} {m2_0:(List Zj)} {m3_0:(List Zh)} {m4_0:(List (Int×Int))} {m5_0:(List (Int×Int))} {m6_0:(List (Zi×Int))}:∀r,(ZI b c m2_0)=some r→evW ctx 43 [(.ptr 0 0),(.d (Zb b)),(.d (Zb c))] [(.cells [(.sl 1 1),(.sl 2 2),(.sl 3 2),(.mp 4),(.mp 5),(.mp 6)]),(.arr 1 (List.map Zb m1_0)),(.arr 2 (List.map Zt m2_0)),(.arr 2 (List.map Z8 m3_0)),(.mp (mpD Zb Zb m4_0)),(.mp (mpD Zb Zb m5_0)),(.mp (mpD Zq Zb m6_0))]=some ((Zgl b c m1_0 m2_0 m3_0 m4_0 m5_0 m6_0) r):=by
 show ZM _ (fun r rhs=>rhs=some ((Zgl b c m1_0 m2_0 m3_0 m4_0 m5_0 m6_0) r)) _
 unfold ZI
 rw[ZfY ctx 43 ZzG _ _ rfl rfl]
 conv=>arg 3; whnf
 refine Zbs rfl ?_
 conv=>arg 3; whnf
 refine Ze (Zd5 Zt m2_0 1) ?_ ?_
 ·conv=>arg 3; whnf
  refine Zn (Zd4 Zt m2_0 [(Zj.mk b c)]) ?_
  conv=>arg 3; whnf
  exact Zc rfl
 ·exact Zac
def Zgj (t0:Bool) (t1:Bool) (t2:Bool) (t3:Bool) (b:Zk) (c:Int) (m1_0:(List Int)) (m2_0:(List Zj)) (m3_0:(List Zh)) (m4_0:(List (Int×Int))) (m5_0:(List (Int×Int))) (m6_0:(List (Zi×Int))):(((List (Int×Int))×(List (Zi×Int))×(List Int)×(List Zj)×(List Zh))⊕((List Int)⊕Unit))→V×Zo
  | (.inl r)=>((.d (D.tup [])),[(.cells [(.sl 7 1),(.sl 8 2),(.sl 9 2),(.mp 4),(.mp 5),(.mp 6)]),.dead,.dead,.dead,(.mp (mpD Zb Zb (Zv (fun ka kb:Int=>(ka==kb)) m4_0 c (m3_0.length:Int)))),(.mp (mpD Zb Zb r.1)),(.mp (mpD Zq Zb r.2.1)),(.arr 1 (List.map Zb r.2.2.1)),(.arr 2 (List.map Zt r.2.2.2.1)),(.arr 2 (List.map Z8 r.2.2.2.2))])
  | (.inr (.inl r))=>((.d (D.tup [])),[(.cells [(.sl 7 1),(.sl 2 2),(.sl 8 2),(.mp 4),(.mp 5),(.mp 6)]),.dead,(.arr 2 (List.map Zt m2_0)),.dead,(.mp (mpD Zb Zb (Zv (fun ka kb:Int=>(ka==kb)) m4_0 c (m3_0.length:Int)))),(.mp (mpD Zb Zb (Zv (fun ka kb:Int=>(ka==kb)) m5_0 c (w64 ((List.length (m3_0++[(Zh.mk c 0)]):Int)-1))))),(.mp (mpD Zq Zb m6_0)),(.arr 1 (List.map Zb r)),(.arr 2 (List.map Z8 (m3_0++[(Zh.mk c 0)])))])
  | (.inr (.inr r))=>((.d (D.tup [])),[(.cells [(.sl 1 1),(.sl 2 2),(.sl 3 2),(.mp 4),(.mp 5),(.mp 6)]),(.arr 1 (List.map Zb m1_0)),(.arr 2 (List.map Zt m2_0)),(.arr 2 (List.map Z8 m3_0)),(.mp (mpD Zb Zb (Zv (fun ka kb:Int=>(ka==kb)) m4_0 c (m3_0.length:Int)))),(.mp (mpD Zb Zb m5_0)),(.mp (mpD Zq Zb m6_0))])
def ZfL (t0:Bool) (t1:Bool) (t2:Bool) (t3:Bool) (b:Zk) (c:Int) (m3_0:(List Zh)) (m4_0:(List (Int×Int))) (x0:(List Int)):((List (Int×Int))×(List (Zi×Int))×(List Int)×(List Zj)×(List Zh))→Ex×List V×Zo
  | r=>(.exit 0,[],[(.cells [(.sl 7 1),(.sl 8 2),(.sl 9 2),(.mp 4),(.mp 5),(.mp 6)]),.dead,.dead,.dead,(.mp (mpD Zb Zb (Zv (fun ka kb:Int=>(ka==kb)) m4_0 c (m3_0.length:Int)))),(.mp (mpD Zb Zb r.1)),(.mp (mpD Zq Zb r.2.1)),(.arr 1 (List.map Zb r.2.2.1)),(.arr 2 (List.map Zt r.2.2.2.1)),(.arr 2 (List.map Z8 r.2.2.2.2))])
theorem Zcx {t0:Bool} {t1:Bool} {t2:Bool} {t3:Bool} {b:Zk} {c:Int} {m3_0:(List Zh)} {m4_0:(List (Int×Int))} {x0:(List Int)}:∀(s14:Int×Int×(List (Int×Int))×(List (Zi×Int))×(List Int)×(List Zj)×(List Zh)) (r:((List (Int×Int))×(List (Zi×Int))×(List Int)×(List Zj)×(List Zh))),lp (ZB b c x0) s14=some r→lpW ctx 7 [0,2,4,6,7,26,27] [] Zpa [(.ptr 0 0),(.d (Zb c)),(.ptr 7 0),(.d (Zb s14.1)),(.d (D.list true (List.map Zb x0))),(.d (Zb (w64 ((x0.length:Int)+1)))),(.d (Zb s14.2.1))] [(.cells [(.sl 8 1),(.sl 9 2),(.sl 10 2),(.mp 4),(.mp 5),(.mp 6)]),.dead,.dead,.dead,(.mp (mpD Zb Zb (Zv (fun ka kb:Int=>(ka==kb)) m4_0 c (m3_0.length:Int)))),(.mp (mpD Zb Zb s14.2.2.1)),(.mp (mpD Zq Zb s14.2.2.2.1)),(.cells (dV t0 t1 t2 t3 b)),(.arr 1 (List.map Zb s14.2.2.2.2.1)),(.arr 2 (List.map Zt s14.2.2.2.2.2.1)),(.arr 2 (List.map Z8 s14.2.2.2.2.2.2))]=some ((ZfL t0 t1 t2 t3 b c m3_0 m4_0 x0) r):=by
 refine Zam (ZfL t0 t1 t2 t3 b c m3_0 m4_0 x0) ?_
 intro s14 rcl ih
 show ZM _ _ (lpW _ _ _ _ _ _ _)
 unfold ZB
 rw[Zao]
 conv=>arg 3; whnf
 refine Ze rfl ?_ ?_
 ·conv=>arg 3; whnf
  refine Zl rfl rfl fun x15 hx15=>?_
  conv=>arg 3; whnf
  refine Zn (ZD _ _) ?_
  conv=>arg 3; whnf
  refine Ze rfl ?_ ?_
  ·conv=>arg 3; whnf
   refine Zl rfl rfl fun x16 hx16=>?_
   conv=>arg 3; whnf
   refine Zl rfl rfl fun x17 hx17=>?_
   conv=>arg 3; whnf
   refine Zd _ ZaN fun x18 hx18=>?_
   conv=>arg 3; whnf
   refine Zg (ZdY (f:=Zb) (g:=Zb) (fun ka kb:Int=>(ka==kb)) (fun _ _=>rfl) s14.2.2.1 c (w64 ((List.length (s14.2.2.2.2.2.2++[(Zh.mk c s14.2.1)]):Int)-1))) ?_
   conv=>arg 3; whnf
   refine Ze rfl ?_ ?_
   ·conv=>arg 3; whnf
    refine Zg (Zbz (f:=Zb) (g:=Zb) (fun ka kb:Int=>(ka==kb)) (fun _ _=>rfl) (Zv (fun ka kb:Int=>(ka==kb)) s14.2.2.1 c (w64 ((List.length (s14.2.2.2.2.2.2++[(Zh.mk c s14.2.1)]):Int)-1))) c 0) ?_
    conv=>arg 3; whnf
    refine Zg (Zbz (f:=Zb) (g:=Zb) (fun ka kb:Int=>(ka==kb)) (fun _ _=>rfl) (Zv (fun ka kb:Int=>(ka==kb)) s14.2.2.1 c (w64 ((List.length (s14.2.2.2.2.2.2++[(Zh.mk c s14.2.1)]):Int)-1))) c 0) ?_
    conv=>arg 3; whnf
    refine Zd _ Zau fun x19 hx19=>?_
    conv=>arg 3; whnf
    refine Zl rfl rfl fun x20 hx20=>?_
    conv=>arg 3; whnf
    refine Zl rfl rfl fun x21 hx21=>?_
    conv=>arg 3; whnf
    refine Zg (Zbz (f:=Zb) (g:=Zb) (fun ka kb:Int=>(ka==kb)) (fun _ _=>rfl) (Zv (fun ka kb:Int=>(ka==kb)) s14.2.2.1 c (w64 ((List.length (s14.2.2.2.2.2.2++[(Zh.mk c s14.2.1)]):Int)-1))) c 0) ?_
    conv=>arg 3; whnf
    refine Zg (ZdY (f:=Zq) (g:=Zb) (fun ka kb:Zi=>((ka.maker==kb.maker)&&((ka.user==kb.user)&&((ka.pos==kb.pos)&&true)))) (fun _ _=>rfl) s14.2.2.2.1 x21 (Z5 (fun ka kb:Int=>(ka==kb)) (Zv (fun ka kb:Int=>(ka==kb)) s14.2.2.1 c (w64 ((List.length (s14.2.2.2.2.2.2++[(Zh.mk c s14.2.1)]):Int)-1))) c 0)) ?_
    conv=>arg 3; whnf
    exact Zf (ih _)
   ·conv=>arg 3; whnf
    exact Zf (ih _)
  ·conv=>arg 3; whnf
   refine Zd _ ZaN fun x22 hx22=>?_
   conv=>arg 3; whnf
   refine Zg (ZdY (f:=Zb) (g:=Zb) (fun ka kb:Int=>(ka==kb)) (fun _ _=>rfl) s14.2.2.1 c (w64 ((List.length (s14.2.2.2.2.2.2++[(Zh.mk c s14.2.1)]):Int)-1))) ?_
   conv=>arg 3; whnf
   refine Ze rfl ?_ ?_
   ·conv=>arg 3; whnf
    refine Zg (Zbz (f:=Zb) (g:=Zb) (fun ka kb:Int=>(ka==kb)) (fun _ _=>rfl) (Zv (fun ka kb:Int=>(ka==kb)) s14.2.2.1 c (w64 ((List.length (s14.2.2.2.2.2.2++[(Zh.mk c s14.2.1)]):Int)-1))) c 0) ?_
    conv=>arg 3; whnf
    refine Zg (Zbz (f:=Zb) (g:=Zb) (fun ka kb:Int=>(ka==kb)) (fun _ _=>rfl) (Zv (fun ka kb:Int=>(ka==kb)) s14.2.2.1 c (w64 ((List.length (s14.2.2.2.2.2.2++[(Zh.mk c s14.2.1)]):Int)-1))) c 0) ?_
    conv=>arg 3; whnf
    refine Zd _ Zau fun x23 hx23=>?_
    conv=>arg 3; whnf
    refine Zl rfl rfl fun x24 hx24=>?_
    conv=>arg 3; whnf
    refine Zl rfl rfl fun x25 hx25=>?_
    conv=>arg 3; whnf
    refine Zg (Zbz (f:=Zb) (g:=Zb) (fun ka kb:Int=>(ka==kb)) (fun _ _=>rfl) (Zv (fun ka kb:Int=>(ka==kb)) s14.2.2.1 c (w64 ((List.length (s14.2.2.2.2.2.2++[(Zh.mk c s14.2.1)]):Int)-1))) c 0) ?_
    conv=>arg 3; whnf
    refine Zg (ZdY (f:=Zq) (g:=Zb) (fun ka kb:Zi=>((ka.maker==kb.maker)&&((ka.user==kb.user)&&((ka.pos==kb.pos)&&true)))) (fun _ _=>rfl) s14.2.2.2.1 x25 (Z5 (fun ka kb:Int=>(ka==kb)) (Zv (fun ka kb:Int=>(ka==kb)) s14.2.2.1 c (w64 ((List.length (s14.2.2.2.2.2.2++[(Zh.mk c s14.2.1)]):Int)-1))) c 0)) ?_
    conv=>arg 3; whnf
    exact Zf (ih _)
   ·conv=>arg 3; whnf
    exact Zf (ih _)
 ·conv=>arg 3; whnf
  exact Zc rfl
def Zfg (t0:Bool) (t1:Bool) (t2:Bool) (t3:Bool) (b:Zk) (c:Int) (m1_0:(List Int)) (m2_0:(List Zj)) (m3_0:(List Zh)) (m4_0:(List (Int×Int))) (m5_0:(List (Int×Int))) (m6_0:(List (Zi×Int))) (x0:(List Int)) (x4:Zi):(((List (Int×Int))×(List (Zi×Int))×(List Int)×(List Zj)×(List Zh))⊕Unit)→Ex×List V×Zo
  | (.inl r)=>(.exit 0,[],[(.cells [(.sl 7 1),(.sl 8 2),(.sl 9 2),(.mp 4),(.mp 5),(.mp 6)]),.dead,.dead,.dead,(.mp (mpD Zb Zb (Zv (fun ka kb:Int=>(ka==kb)) m4_0 c (m3_0.length:Int)))),(.mp (mpD Zb Zb r.1)),(.mp (mpD Zq Zb r.2.1)),(.arr 1 (List.map Zb r.2.2.1)),(.arr 2 (List.map Zt r.2.2.2.1)),(.arr 2 (List.map Z8 r.2.2.2.2))])
  | (.inr r)=>(.exit 0,[],[(.cells [(.sl 7 1),(.sl 2 2),(.sl 8 2),(.mp 4),(.mp 5),(.mp 6)]),.dead,(.arr 2 (List.map Zt m2_0)),.dead,(.mp (mpD Zb Zb (Zv (fun ka kb:Int=>(ka==kb)) m4_0 c (m3_0.length:Int)))),(.mp (mpD Zb Zb (Zv (fun ka kb:Int=>(ka==kb)) m5_0 c (w64 ((List.length (m3_0++[(Zh.mk c 0)]):Int)-1))))),(.mp (mpD Zq Zb m6_0)),(.arr 1 (List.map Zb (m1_0++[(w64 (x4.pos-0))]))),(.arr 2 (List.map Z8 (m3_0++[(Zh.mk c 0)])))])
theorem Zha {t0:Bool} {t1:Bool} {t2:Bool} {t3:Bool} {b:Zk} {c:Int} {m1_0:(List Int)} {m2_0:(List Zj)} {m3_0:(List Zh)} {m4_0:(List (Int×Int))} {m5_0:(List (Int×Int))} {m6_0:(List (Zi×Int))} {x0:(List Int)} {x4:Zi}:∀(s6:Unit) (r:(((List (Int×Int))×(List (Zi×Int))×(List Int)×(List Zj)×(List Zh))⊕Unit)),lp (Zbo b c m1_0 m2_0 m3_0 m5_0 m6_0 x0 x4) s6=some r→lpW ctx 7 [0,2,4,6,7,26,27] [] Zpa [(.ptr 0 0),(.d (Zb c)),(.ptr 7 0),(.d (Zb x4.pos)),(.d (D.list true (List.map Zb x0))),(.d (Zb (w64 ((x0.length:Int)+1)))),(.d (Zb 1))] [(.cells [(.sl 8 1),(.sl 2 2),(.sl 9 2),(.mp 4),(.mp 5),(.mp 6)]),.dead,(.arr 2 (List.map Zt m2_0)),.dead,(.mp (mpD Zb Zb (Zv (fun ka kb:Int=>(ka==kb)) m4_0 c (m3_0.length:Int)))),(.mp (mpD Zb Zb (Zv (fun ka kb:Int=>(ka==kb)) m5_0 c (w64 ((List.length (m3_0++[(Zh.mk c 0)]):Int)-1))))),(.mp (mpD Zq Zb m6_0)),(.cells (dV t0 t1 t2 t3 b)),(.arr 1 (List.map Zb (m1_0++[(w64 (x4.pos-0))]))),(.arr 2 (List.map Z8 (m3_0++[(Zh.mk c 0)])))]=some ((Zfg t0 t1 t2 t3 b c m1_0 m2_0 m3_0 m4_0 m5_0 m6_0 x0 x4) r):=by
 refine Zam (Zfg t0 t1 t2 t3 b c m1_0 m2_0 m3_0 m4_0 m5_0 m6_0 x0 x4) ?_
 intro s6 rcl ih
 show ZM _ _ (lpW _ _ _ _ _ _ _)
 unfold Zbo
 rw[Zao]
 conv=>arg 3; whnf
 refine Ze rfl ?_ ?_
 ·conv=>arg 3; whnf
  refine Zl rfl rfl fun x7 hx7=>?_
  conv=>arg 3; whnf
  refine Zn (ZD _ _) ?_
  conv=>arg 3; whnf
  refine Ze rfl ?_ ?_
  ·conv=>arg 3; whnf
   refine Zl rfl rfl fun x8 hx8=>?_
   conv=>arg 3; whnf
   refine Zl rfl rfl fun x9 hx9=>?_
   conv=>arg 3; whnf
   refine Zd _ ZaN fun x10 hx10=>?_
   conv=>arg 3; whnf
   refine Zg (ZdY (f:=Zb) (g:=Zb) (fun ka kb:Int=>(ka==kb)) (fun _ _=>rfl) (Zv (fun ka kb:Int=>(ka==kb)) m5_0 c (w64 ((List.length (m3_0++[(Zh.mk c 0)]):Int)-1))) c (w64 ((List.length ((m3_0++[(Zh.mk c 0)])++[(Zh.mk c 1)]):Int)-1))) ?_
   conv=>arg 3; whnf
   refine Zbs rfl ?_
   conv=>arg 3; whnf
   refine Zg (Zbz (f:=Zb) (g:=Zb) (fun ka kb:Int=>(ka==kb)) (fun _ _=>rfl) (Zv (fun ka kb:Int=>(ka==kb)) (Zv (fun ka kb:Int=>(ka==kb)) m5_0 c (w64 ((List.length (m3_0++[(Zh.mk c 0)]):Int)-1))) c (w64 ((List.length ((m3_0++[(Zh.mk c 0)])++[(Zh.mk c 1)]):Int)-1))) c 0) ?_
   conv=>arg 3; whnf
   refine Zg (Zbz (f:=Zb) (g:=Zb) (fun ka kb:Int=>(ka==kb)) (fun _ _=>rfl) (Zv (fun ka kb:Int=>(ka==kb)) (Zv (fun ka kb:Int=>(ka==kb)) m5_0 c (w64 ((List.length (m3_0++[(Zh.mk c 0)]):Int)-1))) c (w64 ((List.length ((m3_0++[(Zh.mk c 0)])++[(Zh.mk c 1)]):Int)-1))) c 0) ?_
   conv=>arg 3; whnf
   refine Zd _ Zau fun x11 hx11=>?_
   conv=>arg 3; whnf
   refine Zl rfl rfl fun x12 hx12=>?_
   conv=>arg 3; whnf
   refine Zl rfl rfl fun x13 hx13=>?_
   conv=>arg 3; whnf
   refine Zg (Zbz (f:=Zb) (g:=Zb) (fun ka kb:Int=>(ka==kb)) (fun _ _=>rfl) (Zv (fun ka kb:Int=>(ka==kb)) (Zv (fun ka kb:Int=>(ka==kb)) m5_0 c (w64 ((List.length (m3_0++[(Zh.mk c 0)]):Int)-1))) c (w64 ((List.length ((m3_0++[(Zh.mk c 0)])++[(Zh.mk c 1)]):Int)-1))) c 0) ?_
   conv=>arg 3; whnf
   refine Zg (ZdY (f:=Zq) (g:=Zb) (fun ka kb:Zi=>((ka.maker==kb.maker)&&((ka.user==kb.user)&&((ka.pos==kb.pos)&&true)))) (fun _ _=>rfl) m6_0 x13 (Z5 (fun ka kb:Int=>(ka==kb)) (Zv (fun ka kb:Int=>(ka==kb)) (Zv (fun ka kb:Int=>(ka==kb)) m5_0 c (w64 ((List.length (m3_0++[(Zh.mk c 0)]):Int)-1))) c (w64 ((List.length ((m3_0++[(Zh.mk c 0)])++[(Zh.mk c 1)]):Int)-1))) c 0)) ?_
   conv=>arg 3; whnf
   refine Zd _ (Zcx _) fun r26 hr26=>?_
   conv=>arg 3; whnf
   exact Zc rfl
  ·conv=>arg 3; whnf
   refine Zd _ ZaN fun x27 hx27=>?_
   conv=>arg 3; whnf
   refine Zg (ZdY (f:=Zb) (g:=Zb) (fun ka kb:Int=>(ka==kb)) (fun _ _=>rfl) (Zv (fun ka kb:Int=>(ka==kb)) m5_0 c (w64 ((List.length (m3_0++[(Zh.mk c 0)]):Int)-1))) c (w64 ((List.length ((m3_0++[(Zh.mk c 0)])++[(Zh.mk c 1)]):Int)-1))) ?_
   conv=>arg 3; whnf
   refine Zbs rfl ?_
   conv=>arg 3; whnf
   refine Zg (Zbz (f:=Zb) (g:=Zb) (fun ka kb:Int=>(ka==kb)) (fun _ _=>rfl) (Zv (fun ka kb:Int=>(ka==kb)) (Zv (fun ka kb:Int=>(ka==kb)) m5_0 c (w64 ((List.length (m3_0++[(Zh.mk c 0)]):Int)-1))) c (w64 ((List.length ((m3_0++[(Zh.mk c 0)])++[(Zh.mk c 1)]):Int)-1))) c 0) ?_
   conv=>arg 3; whnf
   refine Zg (Zbz (f:=Zb) (g:=Zb) (fun ka kb:Int=>(ka==kb)) (fun _ _=>rfl) (Zv (fun ka kb:Int=>(ka==kb)) (Zv (fun ka kb:Int=>(ka==kb)) m5_0 c (w64 ((List.length (m3_0++[(Zh.mk c 0)]):Int)-1))) c (w64 ((List.length ((m3_0++[(Zh.mk c 0)])++[(Zh.mk c 1)]):Int)-1))) c 0) ?_
   conv=>arg 3; whnf
   refine Zd _ Zau fun x28 hx28=>?_
   conv=>arg 3; whnf
   refine Zl rfl rfl fun x29 hx29=>?_
   conv=>arg 3; whnf
   refine Zl rfl rfl fun x30 hx30=>?_
   conv=>arg 3; whnf
   refine Zg (Zbz (f:=Zb) (g:=Zb) (fun ka kb:Int=>(ka==kb)) (fun _ _=>rfl) (Zv (fun ka kb:Int=>(ka==kb)) (Zv (fun ka kb:Int=>(ka==kb)) m5_0 c (w64 ((List.length (m3_0++[(Zh.mk c 0)]):Int)-1))) c (w64 ((List.length ((m3_0++[(Zh.mk c 0)])++[(Zh.mk c 1)]):Int)-1))) c 0) ?_
   conv=>arg 3; whnf
   refine Zg (ZdY (f:=Zq) (g:=Zb) (fun ka kb:Zi=>((ka.maker==kb.maker)&&((ka.user==kb.user)&&((ka.pos==kb.pos)&&true)))) (fun _ _=>rfl) m6_0 x30 (Z5 (fun ka kb:Int=>(ka==kb)) (Zv (fun ka kb:Int=>(ka==kb)) (Zv (fun ka kb:Int=>(ka==kb)) m5_0 c (w64 ((List.length (m3_0++[(Zh.mk c 0)]):Int)-1))) c (w64 ((List.length ((m3_0++[(Zh.mk c 0)])++[(Zh.mk c 1)]):Int)-1))) c 0)) ?_
   conv=>arg 3; whnf
   refine Zd _ (Zcx _) fun r43 hr43=>?_
   conv=>arg 3; whnf
   exact Zc rfl
 ·conv=>arg 3; whnf
  exact Zc rfl
def Zfk (t0:Bool) (t1:Bool) (t2:Bool) (t3:Bool) (b:Zk) (c:Int) (m1_0:(List Int)) (m2_0:(List Zj)) (m3_0:(List Zh)) (m4_0:(List (Int×Int))) (m5_0:(List (Int×Int))) (m6_0:(List (Zi×Int))) (x0:(List Int)) (x2:ZX):(((List (Int×Int))×(List (Zi×Int))×(List Int)×(List Zj)×(List Zh))⊕Unit)→Ex×List V×Zo
  | (.inl r)=>(.exit 0,[],[(.cells [(.sl 7 1),(.sl 8 2),(.sl 9 2),(.mp 4),(.mp 5),(.mp 6)]),.dead,.dead,.dead,(.mp (mpD Zb Zb (Zv (fun ka kb:Int=>(ka==kb)) m4_0 c (m3_0.length:Int)))),(.mp (mpD Zb Zb r.1)),(.mp (mpD Zq Zb r.2.1)),(.arr 1 (List.map Zb r.2.2.1)),(.arr 2 (List.map Zt r.2.2.2.1)),(.arr 2 (List.map Z8 r.2.2.2.2))])
  | (.inr r)=>(.exit 0,[],[(.cells [(.sl 7 1),(.sl 2 2),(.sl 8 2),(.mp 4),(.mp 5),(.mp 6)]),.dead,(.arr 2 (List.map Zt m2_0)),.dead,(.mp (mpD Zb Zb (Zv (fun ka kb:Int=>(ka==kb)) m4_0 c (m3_0.length:Int)))),(.mp (mpD Zb Zb (Zv (fun ka kb:Int=>(ka==kb)) m5_0 c (w64 ((List.length (m3_0++[(Zh.mk c 0)]):Int)-1))))),(.mp (mpD Zq Zb m6_0)),(.arr 1 (List.map Zb (m1_0++[(w64 (x2.work-0))]))),(.arr 2 (List.map Z8 (m3_0++[(Zh.mk c 0)])))])
theorem Zhg {t0:Bool} {t1:Bool} {t2:Bool} {t3:Bool} {b:Zk} {c:Int} {m1_0:(List Int)} {m2_0:(List Zj)} {m3_0:(List Zh)} {m4_0:(List (Int×Int))} {m5_0:(List (Int×Int))} {m6_0:(List (Zi×Int))} {x0:(List Int)} {x2:ZX}:∀(s46:Unit) (r:(((List (Int×Int))×(List (Zi×Int))×(List Int)×(List Zj)×(List Zh))⊕Unit)),lp (Zb5 b c m1_0 m2_0 m3_0 m5_0 m6_0 x0 x2) s46=some r→lpW ctx 7 [0,2,4,6,7,26,27] [] Zpa [(.ptr 0 0),(.d (Zb c)),(.ptr 7 0),(.d (Zb x2.work)),(.d (D.list true (List.map Zb x0))),(.d (Zb (w64 ((x0.length:Int)+1)))),(.d (Zb 1))] [(.cells [(.sl 8 1),(.sl 2 2),(.sl 9 2),(.mp 4),(.mp 5),(.mp 6)]),.dead,(.arr 2 (List.map Zt m2_0)),.dead,(.mp (mpD Zb Zb (Zv (fun ka kb:Int=>(ka==kb)) m4_0 c (m3_0.length:Int)))),(.mp (mpD Zb Zb (Zv (fun ka kb:Int=>(ka==kb)) m5_0 c (w64 ((List.length (m3_0++[(Zh.mk c 0)]):Int)-1))))),(.mp (mpD Zq Zb m6_0)),(.cells (dV t0 t1 t2 t3 b)),(.arr 1 (List.map Zb (m1_0++[(w64 (x2.work-0))]))),(.arr 2 (List.map Z8 (m3_0++[(Zh.mk c 0)])))]=some ((Zfk t0 t1 t2 t3 b c m1_0 m2_0 m3_0 m4_0 m5_0 m6_0 x0 x2) r):=by
 refine Zam (Zfk t0 t1 t2 t3 b c m1_0 m2_0 m3_0 m4_0 m5_0 m6_0 x0 x2) ?_
 intro s46 rcl ih
 show ZM _ _ (lpW _ _ _ _ _ _ _)
 unfold Zb5
 rw[Zao]
 conv=>arg 3; whnf
 refine Ze rfl ?_ ?_
 ·conv=>arg 3; whnf
  refine Zl rfl rfl fun x47 hx47=>?_
  conv=>arg 3; whnf
  refine Zn (ZD _ _) ?_
  conv=>arg 3; whnf
  refine Ze rfl ?_ ?_
  ·conv=>arg 3; whnf
   refine Zl rfl rfl fun x48 hx48=>?_
   conv=>arg 3; whnf
   refine Zl rfl rfl fun x49 hx49=>?_
   conv=>arg 3; whnf
   refine Zd _ ZaN fun x50 hx50=>?_
   conv=>arg 3; whnf
   refine Zg (ZdY (f:=Zb) (g:=Zb) (fun ka kb:Int=>(ka==kb)) (fun _ _=>rfl) (Zv (fun ka kb:Int=>(ka==kb)) m5_0 c (w64 ((List.length (m3_0++[(Zh.mk c 0)]):Int)-1))) c (w64 ((List.length ((m3_0++[(Zh.mk c 0)])++[(Zh.mk c 1)]):Int)-1))) ?_
   conv=>arg 3; whnf
   refine Zbs rfl ?_
   conv=>arg 3; whnf
   refine Zg (Zbz (f:=Zb) (g:=Zb) (fun ka kb:Int=>(ka==kb)) (fun _ _=>rfl) (Zv (fun ka kb:Int=>(ka==kb)) (Zv (fun ka kb:Int=>(ka==kb)) m5_0 c (w64 ((List.length (m3_0++[(Zh.mk c 0)]):Int)-1))) c (w64 ((List.length ((m3_0++[(Zh.mk c 0)])++[(Zh.mk c 1)]):Int)-1))) c 0) ?_
   conv=>arg 3; whnf
   refine Zg (Zbz (f:=Zb) (g:=Zb) (fun ka kb:Int=>(ka==kb)) (fun _ _=>rfl) (Zv (fun ka kb:Int=>(ka==kb)) (Zv (fun ka kb:Int=>(ka==kb)) m5_0 c (w64 ((List.length (m3_0++[(Zh.mk c 0)]):Int)-1))) c (w64 ((List.length ((m3_0++[(Zh.mk c 0)])++[(Zh.mk c 1)]):Int)-1))) c 0) ?_
   conv=>arg 3; whnf
   refine Zd _ Zau fun x51 hx51=>?_
   conv=>arg 3; whnf
   refine Zl rfl rfl fun x52 hx52=>?_
   conv=>arg 3; whnf
   refine Zl rfl rfl fun x53 hx53=>?_
   conv=>arg 3; whnf
   refine Zg (Zbz (f:=Zb) (g:=Zb) (fun ka kb:Int=>(ka==kb)) (fun _ _=>rfl) (Zv (fun ka kb:Int=>(ka==kb)) (Zv (fun ka kb:Int=>(ka==kb)) m5_0 c (w64 ((List.length (m3_0++[(Zh.mk c 0)]):Int)-1))) c (w64 ((List.length ((m3_0++[(Zh.mk c 0)])++[(Zh.mk c 1)]):Int)-1))) c 0) ?_
   conv=>arg 3; whnf
   refine Zg (ZdY (f:=Zq) (g:=Zb) (fun ka kb:Zi=>((ka.maker==kb.maker)&&((ka.user==kb.user)&&((ka.pos==kb.pos)&&true)))) (fun _ _=>rfl) m6_0 x53 (Z5 (fun ka kb:Int=>(ka==kb)) (Zv (fun ka kb:Int=>(ka==kb)) (Zv (fun ka kb:Int=>(ka==kb)) m5_0 c (w64 ((List.length (m3_0++[(Zh.mk c 0)]):Int)-1))) c (w64 ((List.length ((m3_0++[(Zh.mk c 0)])++[(Zh.mk c 1)]):Int)-1))) c 0)) ?_
   conv=>arg 3; whnf
   refine Zd _ (Zcx _) fun r66 hr66=>?_
   conv=>arg 3; whnf
   exact Zc rfl
  ·conv=>arg 3; whnf
   refine Zd _ ZaN fun x67 hx67=>?_
   conv=>arg 3; whnf
   refine Zg (ZdY (f:=Zb) (g:=Zb) (fun ka kb:Int=>(ka==kb)) (fun _ _=>rfl) (Zv (fun ka kb:Int=>(ka==kb)) m5_0 c (w64 ((List.length (m3_0++[(Zh.mk c 0)]):Int)-1))) c (w64 ((List.length ((m3_0++[(Zh.mk c 0)])++[(Zh.mk c 1)]):Int)-1))) ?_
   conv=>arg 3; whnf
   refine Zbs rfl ?_
   conv=>arg 3; whnf
   refine Zg (Zbz (f:=Zb) (g:=Zb) (fun ka kb:Int=>(ka==kb)) (fun _ _=>rfl) (Zv (fun ka kb:Int=>(ka==kb)) (Zv (fun ka kb:Int=>(ka==kb)) m5_0 c (w64 ((List.length (m3_0++[(Zh.mk c 0)]):Int)-1))) c (w64 ((List.length ((m3_0++[(Zh.mk c 0)])++[(Zh.mk c 1)]):Int)-1))) c 0) ?_
   conv=>arg 3; whnf
   refine Zg (Zbz (f:=Zb) (g:=Zb) (fun ka kb:Int=>(ka==kb)) (fun _ _=>rfl) (Zv (fun ka kb:Int=>(ka==kb)) (Zv (fun ka kb:Int=>(ka==kb)) m5_0 c (w64 ((List.length (m3_0++[(Zh.mk c 0)]):Int)-1))) c (w64 ((List.length ((m3_0++[(Zh.mk c 0)])++[(Zh.mk c 1)]):Int)-1))) c 0) ?_
   conv=>arg 3; whnf
   refine Zd _ Zau fun x68 hx68=>?_
   conv=>arg 3; whnf
   refine Zl rfl rfl fun x69 hx69=>?_
   conv=>arg 3; whnf
   refine Zl rfl rfl fun x70 hx70=>?_
   conv=>arg 3; whnf
   refine Zg (Zbz (f:=Zb) (g:=Zb) (fun ka kb:Int=>(ka==kb)) (fun _ _=>rfl) (Zv (fun ka kb:Int=>(ka==kb)) (Zv (fun ka kb:Int=>(ka==kb)) m5_0 c (w64 ((List.length (m3_0++[(Zh.mk c 0)]):Int)-1))) c (w64 ((List.length ((m3_0++[(Zh.mk c 0)])++[(Zh.mk c 1)]):Int)-1))) c 0) ?_
   conv=>arg 3; whnf
   refine Zg (ZdY (f:=Zq) (g:=Zb) (fun ka kb:Zi=>((ka.maker==kb.maker)&&((ka.user==kb.user)&&((ka.pos==kb.pos)&&true)))) (fun _ _=>rfl) m6_0 x70 (Z5 (fun ka kb:Int=>(ka==kb)) (Zv (fun ka kb:Int=>(ka==kb)) (Zv (fun ka kb:Int=>(ka==kb)) m5_0 c (w64 ((List.length (m3_0++[(Zh.mk c 0)]):Int)-1))) c (w64 ((List.length ((m3_0++[(Zh.mk c 0)])++[(Zh.mk c 1)]):Int)-1))) c 0)) ?_
   conv=>arg 3; whnf
   refine Zd _ (Zcx _) fun r83 hr83=>?_
   conv=>arg 3; whnf
   exact Zc rfl
 ·conv=>arg 3; whnf
  exact Zc rfl
def Zfd (t0:Bool) (t1:Bool) (t2:Bool) (t3:Bool) (b:Zk) (c:Int) (m1_0:(List Int)) (m2_0:(List Zj)) (m3_0:(List Zh)) (m4_0:(List (Int×Int))) (m5_0:(List (Int×Int))) (m6_0:(List (Zi×Int))) (x0:(List Int)):(((List (Int×Int))×(List (Zi×Int))×(List Int)×(List Zj)×(List Zh))⊕((List Int)⊕Unit))→Ex×List V×Zo
  | (.inl r)=>(.exit 0,[],[(.cells [(.sl 7 1),(.sl 8 2),(.sl 9 2),(.mp 4),(.mp 5),(.mp 6)]),.dead,.dead,.dead,(.mp (mpD Zb Zb (Zv (fun ka kb:Int=>(ka==kb)) m4_0 c (m3_0.length:Int)))),(.mp (mpD Zb Zb r.1)),(.mp (mpD Zq Zb r.2.1)),(.arr 1 (List.map Zb r.2.2.1)),(.arr 2 (List.map Zt r.2.2.2.1)),(.arr 2 (List.map Z8 r.2.2.2.2))])
  | (.inr (.inl r))=>(.exit 0,[],[(.cells [(.sl 7 1),(.sl 2 2),(.sl 8 2),(.mp 4),(.mp 5),(.mp 6)]),.dead,(.arr 2 (List.map Zt m2_0)),.dead,(.mp (mpD Zb Zb (Zv (fun ka kb:Int=>(ka==kb)) m4_0 c (m3_0.length:Int)))),(.mp (mpD Zb Zb (Zv (fun ka kb:Int=>(ka==kb)) m5_0 c (w64 ((List.length (m3_0++[(Zh.mk c 0)]):Int)-1))))),(.mp (mpD Zq Zb m6_0)),(.arr 1 (List.map Zb r)),(.arr 2 (List.map Z8 (m3_0++[(Zh.mk c 0)])))])
  | (.inr (.inr r))=>(.exit 0,[],[(.cells [(.sl 1 1),(.sl 2 2),(.sl 3 2),(.mp 4),(.mp 5),(.mp 6)]),(.arr 1 (List.map Zb m1_0)),(.arr 2 (List.map Zt m2_0)),(.arr 2 (List.map Z8 m3_0)),(.mp (mpD Zb Zb (Zv (fun ka kb:Int=>(ka==kb)) m4_0 c (m3_0.length:Int)))),(.mp (mpD Zb Zb m5_0)),(.mp (mpD Zq Zb m6_0))])
theorem Zhh {t0:Bool} {t1:Bool} {t2:Bool} {t3:Bool} {b:Zk} {c:Int} {m1_0:(List Int)} {m2_0:(List Zj)} {m3_0:(List Zh)} {m4_0:(List (Int×Int))} {m5_0:(List (Int×Int))} {m6_0:(List (Zi×Int))} {x0:(List Int)}:∀(s1:Unit) (r:(((List (Int×Int))×(List (Zi×Int))×(List Int)×(List Zj)×(List Zh))⊕((List Int)⊕Unit))),lp (Zbp b c m1_0 m2_0 m3_0 m5_0 m6_0 x0) s1=some r→lpW ctx 7 [0,2,4,6,7,26,27] [] Zpa [(.ptr 0 0),(.d (Zb c)),(.ptr 7 0),(.d (Zb 0)),(.d (D.list true (List.map Zb x0))),(.d (Zb (w64 ((x0.length:Int)+1)))),(.d (Zb 0))] [(.cells [(.sl 1 1),(.sl 2 2),(.sl 3 2),(.mp 4),(.mp 5),(.mp 6)]),(.arr 1 (List.map Zb m1_0)),(.arr 2 (List.map Zt m2_0)),(.arr 2 (List.map Z8 m3_0)),(.mp (mpD Zb Zb (Zv (fun ka kb:Int=>(ka==kb)) m4_0 c (m3_0.length:Int)))),(.mp (mpD Zb Zb m5_0)),(.mp (mpD Zq Zb m6_0)),(.cells (dV t0 t1 t2 t3 b))]=some ((Zfd t0 t1 t2 t3 b c m1_0 m2_0 m3_0 m4_0 m5_0 m6_0 x0) r):=by
 refine Zam (Zfd t0 t1 t2 t3 b c m1_0 m2_0 m3_0 m4_0 m5_0 m6_0 x0) ?_
 intro s1 rcl ih
 show ZM _ _ (lpW _ _ _ _ _ _ _)
 unfold Zbp
 rw[Zao]
 conv=>arg 3; whnf
 refine Ze rfl ?_ ?_
 ·conv=>arg 3; whnf
  refine Zl rfl rfl fun x2 hx2=>?_
  conv=>arg 3; whnf
  refine Zn (ZD _ _) ?_
  conv=>arg 3; whnf
  refine Ze rfl ?_ ?_
  ·conv=>arg 3; whnf
   refine Zl rfl rfl fun x3 hx3=>?_
   conv=>arg 3; whnf
   refine Zl rfl rfl fun x4 hx4=>?_
   conv=>arg 3; whnf
   refine Zd _ ZaN fun x5 hx5=>?_
   conv=>arg 3; whnf
   refine Zg (ZdY (f:=Zb) (g:=Zb) (fun ka kb:Int=>(ka==kb)) (fun _ _=>rfl) m5_0 c (w64 ((List.length (m3_0++[(Zh.mk c 0)]):Int)-1))) ?_
   conv=>arg 3; whnf
   refine Zan rfl ?_
   conv=>arg 3; whnf
   refine Zd _ (Zha _) fun r44 hr44=>?_
   clear hr44
   rcases r44 with r44 | r44
   ·conv=>arg 3; whnf
    exact Zc rfl
   ·conv=>arg 3; whnf
    exact Zc rfl
  ·conv=>arg 3; whnf
   refine Zd _ ZaN fun x45 hx45=>?_
   conv=>arg 3; whnf
   refine Zg (ZdY (f:=Zb) (g:=Zb) (fun ka kb:Int=>(ka==kb)) (fun _ _=>rfl) m5_0 c (w64 ((List.length (m3_0++[(Zh.mk c 0)]):Int)-1))) ?_
   conv=>arg 3; whnf
   refine Zan rfl ?_
   conv=>arg 3; whnf
   refine Zd _ (Zhg _) fun r84 hr84=>?_
   clear hr84
   rcases r84 with r84 | r84
   ·conv=>arg 3; whnf
    exact Zc rfl
   ·conv=>arg 3; whnf
    exact Zc rfl
 ·conv=>arg 3; whnf
  exact Zc rfl
theorem ZjD {t0:Bool} {t1:Bool} {t2:Bool} {t3:Bool} {b:Zk} {c:Int} {m1_0:(List Int)} {m2_0:(List Zj)} {m3_0:(List Zh)} {m4_0:(List (Int×Int))} {m5_0:(List (Int×Int))} {m6_0:(List (Zi×Int))}:∀r,(Zdo b c m1_0 m2_0 m3_0 m5_0 m6_0)=some r→evW ctx 42 [(.ptr 0 0),(.d (D.agg (dA t0 t1 t2 t3 b))),(.d (Zb c))] [(.cells [(.sl 1 1),(.sl 2 2),(.sl 3 2),(.mp 4),(.mp 5),(.mp 6)]),(.arr 1 (List.map Zb m1_0)),(.arr 2 (List.map Zt m2_0)),(.arr 2 (List.map Z8 m3_0)),(.mp (mpD Zb Zb m4_0)),(.mp (mpD Zb Zb m5_0)),(.mp (mpD Zq Zb m6_0))]=some ((Zgj t0 t1 t2 t3 b c m1_0 m2_0 m3_0 m4_0 m5_0 m6_0) r):=by
 show ZM _ (fun r rhs=>rhs=some ((Zgj t0 t1 t2 t3 b c m1_0 m2_0 m3_0 m4_0 m5_0 m6_0) r)) _
 unfold Zdo
 rw[ZfY ctx 42 ZAf _ _ rfl rfl]
 conv=>arg 3; whnf
 refine Zn (ZD _ _) ?_
 conv=>arg 3; whnf
 refine Zg (ZdY (f:=Zb) (g:=Zb) (fun ka kb:Int=>(ka==kb)) (fun _ _=>rfl) m4_0 c (m3_0.length:Int)) ?_
 conv=>arg 3; whnf
 refine Zp _ ZmN rfl fun x0 hx0=>?_
 conv=>arg 3; whnf
 refine Zn (ZD _ _) ?_
 conv=>arg 3; whnf
 refine Zd _ (Zhh _) fun r85 hr85=>?_
 clear hr85
 rcases r85 with r85 | (r85 | r85)
 ·conv=>arg 3; whnf
  exact Zc rfl
 ·conv=>arg 3; whnf
  exact Zc rfl
 ·conv=>arg 3; whnf
  exact Zc rfl
def ZjS (r:Bool):D:=(D.bool r)
theorem Znb {a:Int}:∀r,(ZcW a)=some r→evD ctx 54 [(.d (Zb a))]=some (ZjS r):=by
 show ZM _ (fun r rhs=>rhs=some (ZjS r)) _
 unfold ZcW
 rw[ZaV ctx 54 Zzt _ rfl rfl]
 conv=>arg 3; whnf
 refine Ze rfl ?_ ?_
 ·conv=>arg 3; whnf
  exact Zc rfl
 ·conv=>arg 3; whnf
  refine Ze rfl ?_ ?_
  ·conv=>arg 3; whnf
   exact Zc rfl
  ·conv=>arg 3; whnf
   exact Zc rfl
def Zcn (r:Int):D:=(Zb r)
def Zb3 (t0:Bool) (a:(List Int)):(Int⊕Unit)→Ex×List V×Zo
  | (.inl r)=>(.ret,[(.d (Zb r))],[])
  | (.inr r)=>(.exit 0,[.bad],[])
theorem Zei {t0:Bool} {a:(List Int)}:∀(s0:Int) (r:(Int⊕Unit)),lp (Zaq a (fun z0=>ZcW z0)) s0=some r→lpW ctx 0 [0,1,7,8] [4] Zq7 [(.d (D.list t0 (List.map Zb a))),(.d (D.fn 54 [])),(.d (Zb (a.length:Int))),(.d (Zb s0))] []=some ((Zb3 t0 a) r):=by
 refine Zam (Zb3 t0 a) ?_
 intro s0 rcl ih
 show ZM _ _ (lpW _ _ _ _ _ _ _)
 unfold Zaq
 rw[Zao]
 conv=>arg 3; whnf
 refine Ze rfl ?_ ?_
 ·conv=>arg 3; whnf
  refine Zl rfl rfl fun x1 hx1=>?_
  conv=>arg 3; whnf
  refine Zp _ Znb rfl fun x2 hx2=>?_
  conv=>arg 3; whnf
  refine Ze rfl ?_ ?_
  ·conv=>arg 3; whnf
   exact Zc rfl
  ·conv=>arg 3; whnf
   exact Zf (ih _)
 ·conv=>arg 3; whnf
  exact Zc rfl
theorem ZeK {t0:Bool} {a:(List Int)}:∀r,(ZaW a (fun z0=>ZcW z0))=some r→evD ctx 101 [(.d (D.list t0 (List.map Zb a))),(.d (D.fn 54 []))]=some (Zcn r):=by
 show ZM _ (fun r rhs=>rhs=some (Zcn r)) _
 unfold ZaW
 rw[ZaV ctx 101 ZtF _ rfl rfl]
 conv=>arg 3; whnf
 refine Zn (ZD _ _) ?_
 conv=>arg 3; whnf
 refine Zd _ (Zei _) fun r3 hr3=>?_
 clear hr3
 rcases r3 with r3 | r3
 ·conv=>arg 3; whnf
  exact Zc rfl
 ·conv=>arg 3; whnf
  exact Zc rfl
def Zb8 (r:Bool):D:=(D.bool r)
theorem Zej {t0:Bool} {a:(List Int)}:∀r,(Z3 a (fun z0=>ZcW z0))=some r→evD ctx 53 [(.d (D.list t0 (List.map Zb a))),(.d (D.fn 54 []))]=some (Zb8 r):=by
 show ZM _ (fun r rhs=>rhs=some (Zb8 r)) _
 unfold Z3
 rw[ZaV ctx 53 ZyE _ rfl rfl]
 conv=>arg 3; whnf
 refine Zp _ ZeK rfl fun x0 hx0=>?_
 conv=>arg 3; whnf
 refine Ze rfl ?_ ?_
 ·conv=>arg 3; whnf
  exact Zc rfl
 ·conv=>arg 3; whnf
  exact Zc rfl
def ZjW (r:Bool):D:=(D.bool r)
theorem ZiU {t0:Bool} {t1:Bool} {a:Int} {b0:(List Int)} {b1:(List Zj)}:∀r,(ZeZ a b0)=some r→evD ctx 55 [(.d (Zb a)),(.d (D.rptr [(D.list t0 (List.map Zb b0)),(D.list t1 (List.map Zt b1))]))]=some (ZjW r):=by
 show ZM _ (fun r rhs=>rhs=some (ZjW r)) _
 unfold ZeZ
 rw[ZaV ctx 55 Zzo _ rfl rfl]
 conv=>arg 3; whnf
 refine Ze rfl ?_ ?_
 ·conv=>arg 3; whnf
  refine Zn (ZD _ _) ?_
  conv=>arg 3; whnf
  refine Ze rfl ?_ ?_
  ·conv=>arg 3; whnf
   exact Zc rfl
  ·conv=>arg 3; whnf
   exact Zc rfl
 ·conv=>arg 3; whnf
  exact Zc rfl
def Zlx (r:((List Int)×Bool)):D:=(D.tup [(D.list true (List.map Zb r.1)),(D.bool r.2)])
def Zi8 (t0:Bool) (t1:Bool) (a:Zae) (s0:(List Int)×(List Bool)) (s1:Int):(Unit⊕Unit)→Ex×List V×Zo
  | (.inl r)=>(.exit 3,[(.ptr 0 0),(.sl 1 1),(.sl 2 1),(.d (Zb s1)),(.d (Zb (a.work.length:Int))),(.d (Zb s1))],[(.cells [(.d (D.list t0 (List.map Zb a.work))),(.d (D.list t1 (List.map Zt a.edges)))]),(.arr 1 (List.map Zb s0.1)),(.arr 1 (List.map D.bool s0.2))])
  | (.inr r)=>(.exit 4,[(.ptr 0 0),(.sl 1 1),(.sl 2 1),(.d (Zb s1)),(.d (Zb (a.work.length:Int))),(.d (Zb s1))],[(.cells [(.d (D.list t0 (List.map Zb a.work))),(.d (D.list t1 (List.map Zt a.edges)))]),(.arr 1 (List.map Zb s0.1)),(.arr 1 (List.map D.bool s0.2))])
theorem ZmC {t0:Bool} {t1:Bool} {a:Zae} {s0:(List Int)×(List Bool)} {s1:Int}:∀(s3:Int) (r:(Unit⊕Unit)),lp (ZeJ a s0 s1) s3=some r→lpW ctx 0 [1,4,5,6,21,22,30,31,32] [1,4,5,6,21,22] ZvZ [(.ptr 0 0),(.sl 1 1),(.sl 2 1),(.d (Zb s1)),(.d (Zb (a.work.length:Int))),(.d (Zb s1)),(.d (D.list t1 (List.map Zt a.edges))),(.d (Zb (a.edges.length:Int))),(.d (Zb s3))] [(.cells [(.d (D.list t0 (List.map Zb a.work))),(.d (D.list t1 (List.map Zt a.edges)))]),(.arr 1 (List.map Zb s0.1)),(.arr 1 (List.map D.bool s0.2))]=some ((Zi8 t0 t1 a s0 s1) r):=by
 refine Zam (Zi8 t0 t1 a s0 s1) ?_
 intro s3 rcl ih
 show ZM _ _ (lpW _ _ _ _ _ _ _)
 unfold ZeJ
 rw[Zao]
 conv=>arg 3; whnf
 refine Ze rfl ?_ ?_
 ·conv=>arg 3; whnf
  refine Zl rfl rfl fun x4 hx4=>?_
  conv=>arg 3; whnf
  refine Ze rfl ?_ ?_
  ·conv=>arg 3; whnf
   refine Zl rfl rfl fun x5 hx5=>?_
   conv=>arg 3; whnf
   refine Zg (ZA rfl hx5) ?_
   conv=>arg 3; whnf
   refine Ze rfl ?_ ?_
   ·conv=>arg 3; whnf
    exact Zf (ih _)
   ·conv=>arg 3; whnf
    exact Zc rfl
  ·conv=>arg 3; whnf
   exact Zf (ih _)
 ·conv=>arg 3; whnf
  exact Zc rfl
def Zi3 (t0:Bool) (t1:Bool) (a:Zae) (s0:(List Int)×(List Bool)):(((List Int)×(List Bool))⊕Unit)→Ex×List V×Zo
  | (.inl r)=>(.exit 1,[(.ptr 0 0),(.sl 1 1),(.sl 2 1)],[(.cells [(.d (D.list t0 (List.map Zb a.work))),(.d (D.list t1 (List.map Zt a.edges)))]),(.arr 1 (List.map Zb r.1)),(.arr 1 (List.map D.bool r.2))])
  | (.inr r)=>(.exit 2,[(.ptr 0 0),(.sl 1 1),(.sl 2 1)],[(.cells [(.d (D.list t0 (List.map Zb a.work))),(.d (D.list t1 (List.map Zt a.edges)))]),(.arr 1 (List.map Zb s0.1)),(.arr 1 (List.map D.bool s0.2))])
theorem ZmL {t0:Bool} {t1:Bool} {a:Zae} {s0:(List Int)×(List Bool)}:∀(s1:Int) (r:(((List Int)×(List Bool))⊕Unit)),lp (ZdS a s0) s1=some r→lpW ctx 0 [1,4,5,21,22] [1,4,5] Zwv [(.ptr 0 0),(.sl 1 1),(.sl 2 1),(.d (Zb (a.work.length:Int))),(.d (Zb s1))] [(.cells [(.d (D.list t0 (List.map Zb a.work))),(.d (D.list t1 (List.map Zt a.edges)))]),(.arr 1 (List.map Zb s0.1)),(.arr 1 (List.map D.bool s0.2))]=some ((Zi3 t0 t1 a s0) r):=by
 refine Zam (Zi3 t0 t1 a s0) ?_
 intro s1 rcl ih
 show ZM _ _ (lpW _ _ _ _ _ _ _)
 unfold ZdS
 rw[Zao]
 conv=>arg 3; whnf
 refine Ze rfl ?_ ?_
 ·conv=>arg 3; whnf
  refine Zl rfl rfl fun x2 hx2=>?_
  conv=>arg 3; whnf
  refine Zg (ZA rfl hx2) ?_
  conv=>arg 3; whnf
  refine Ze rfl ?_ ?_
  ·conv=>arg 3; whnf
   exact Zf (ih _)
  ·conv=>arg 3; whnf
   refine Zn (ZD _ _) ?_
   conv=>arg 3; whnf
   refine Zd _ (ZmC _) fun r6 hr6=>?_
   clear hr6
   rcases r6 with r6 | r6
   ·conv=>arg 3; whnf
    exact Zf (ih _)
   ·conv=>arg 3; whnf
    refine Zg (Zbb rfl hx2) ?_
    conv=>arg 3; whnf
    refine Zg (ZA rfl hx2) ?_
    conv=>arg 3; whnf
    refine Zn (ZaM D.bool s0.2 s1.toNat true) ?_
    conv=>arg 3; whnf
    refine Zbs rfl ?_
    conv=>arg 3; whnf
    refine Ze (Zd5 Zb s0.1 1) ?_ ?_
    ·conv=>arg 3; whnf
     refine Zn (Zd4 Zb s0.1 [s1]) ?_
     conv=>arg 3; whnf
     exact Zc rfl
    ·exact Zac
 ·conv=>arg 3; whnf
  exact Zc rfl
def ZiQ (t0:Bool) (t1:Bool) (a:Zae):((List Int)⊕(List Int))→Ex×List V×Zo
  | (.inl r)=>(.ret,[(.nilsl 1),(.d (D.bool false)),(.sl 0 1)],[(.arr 1 (List.map Zb r))])
  | (.inr r)=>(.exit 0,[.bad,.bad,(.sl 0 1)],[(.arr 1 (List.map Zb r))])
theorem ZmX {t0:Bool} {t1:Bool} {a:Zae}:∀(s0:(List Int)×(List Bool)) (r:((List Int)⊕(List Int))),lp (ZeM a) s0=some r→lpW ctx 0 [1,4,5] [2,3,4] ZwL [(.ptr 0 0),(.sl 1 1),(.sl 2 1)] [(.cells [(.d (D.list t0 (List.map Zb a.work))),(.d (D.list t1 (List.map Zt a.edges)))]),(.arr 1 (List.map Zb s0.1)),(.arr 1 (List.map D.bool s0.2))]=some ((ZiQ t0 t1 a) r):=by
 refine Zam (ZiQ t0 t1 a) ?_
 intro s0 rcl ih
 show ZM _ _ (lpW _ _ _ _ _ _ _)
 unfold ZeM
 rw[Zao]
 conv=>arg 3; whnf
 refine Zn (ZD _ _) ?_
 conv=>arg 3; whnf
 refine Zn (ZD _ _) ?_
 conv=>arg 3; whnf
 refine Ze rfl ?_ ?_
 ·conv=>arg 3; whnf
  refine Zn (ZD _ _) ?_
  conv=>arg 3; whnf
  refine Zd _ (ZmL _) fun r7 hr7=>?_
  clear hr7
  rcases r7 with r7 | r7
  ·conv=>arg 3; whnf
   exact Zf (ih _)
  ·conv=>arg 3; whnf
   exact Zc rfl
 ·conv=>arg 3; whnf
  exact Zc rfl
theorem ZoL {t0:Bool} {t1:Bool} {a:Zae}:∀r,(Zfb a)=some r→evD ctx 57 [(.d (D.agg [(D.list t0 (List.map Zb a.work)),(D.list t1 (List.map Zt a.edges))]))]=some (Zlx r):=by
 show ZM _ (fun r rhs=>rhs=some (Zlx r)) _
 unfold Zfb
 rw[ZaV ctx 57 Zz3 _ rfl rfl]
 conv=>arg 3; whnf
 refine Zn (ZD _ _) ?_
 conv=>arg 3; whnf
 refine Ze rfl ?_ ?_
 ·conv=>arg 3; whnf
  refine Zn (ZtQ D.bool (false:Bool) (a.work.length:Int)) ?_
  conv=>arg 3; whnf
  refine Zd _ (ZmX _) fun r8 hr8=>?_
  clear hr8
  rcases r8 with r8 | r8
  ·conv=>arg 3; whnf
   exact Zc rfl
  ·conv=>arg 3; whnf
   exact Zc rfl
 ·exact Zac
def ZlD (r:Int):D:=(Zb r)
def ZiV (t0:Bool) (t1:Bool) (a:Zae):(Unit⊕Unit)→Ex×List V×Zo
  | (.inl r)=>(.ret,[(.ptr 0 0),(.d (Zb 42))],[(.cells [(.d (D.list t0 (List.map Zb a.work))),(.d (D.list t1 (List.map Zt a.edges)))])])
  | (.inr r)=>(.exit 0,[(.ptr 0 0),.bad],[(.cells [(.d (D.list t0 (List.map Zb a.work))),(.d (D.list t1 (List.map Zt a.edges)))])])
theorem ZmY {t0:Bool} {t1:Bool} {a:Zae}:∀(s1:Int) (r:(Unit⊕Unit)),lp (Zd2 a) s1=some r→lpW ctx 0 [1,3,23,24,25] [1,2] Zwy [(.ptr 0 0),(.fn 55 [(.ptr 0 0)]),(.d (D.list t1 (List.map Zt a.edges))),(.d (Zb (a.edges.length:Int))),(.d (Zb s1))] [(.cells [(.d (D.list t0 (List.map Zb a.work))),(.d (D.list t1 (List.map Zt a.edges)))])]=some ((ZiV t0 t1 a) r):=by
 refine Zam (ZiV t0 t1 a) ?_
 intro s1 rcl ih
 show ZM _ _ (lpW _ _ _ _ _ _ _)
 unfold Zd2
 rw[Zao]
 conv=>arg 3; whnf
 refine Ze rfl ?_ ?_
 ·conv=>arg 3; whnf
  refine Zl rfl rfl fun x2 hx2=>?_
  conv=>arg 3; whnf
  refine Zp _ ZiU rfl fun x3 hx3=>?_
  conv=>arg 3; whnf
  refine Ze rfl ?_ ?_
  ·conv=>arg 3; whnf
   refine Zp _ ZiU rfl fun x4 hx4=>?_
   conv=>arg 3; whnf
   refine Ze rfl ?_ ?_
   ·conv=>arg 3; whnf
    refine Ze rfl ?_ ?_
    ·conv=>arg 3; whnf
     exact Zc rfl
    ·conv=>arg 3; whnf
     refine Ze rfl ?_ ?_
     ·conv=>arg 3; whnf
      refine Ze (Zwc Zt a.edges s1.toNat) ?_ ?_
      ·conv=>arg 3; whnf
       refine Zbs rfl ?_
       conv=>arg 3; whnf
       refine Zn (Zq0 Zt a.edges s1.toNat) ?_
       conv=>arg 3; whnf
       refine Zp _ Zel rfl fun x5 hx5=>?_
       conv=>arg 3; whnf
       refine Ze rfl ?_ ?_
       ·conv=>arg 3; whnf
        exact Zc rfl
       ·conv=>arg 3; whnf
        exact Zf (ih _)
      ·exact Zac
     ·exact Zac
   ·conv=>arg 3; whnf
    exact Zc rfl
  ·conv=>arg 3; whnf
   exact Zc rfl
 ·conv=>arg 3; whnf
  exact Zc rfl
theorem Zo1 {t0:Bool} {t1:Bool} {a:Zae}:∀r,(ZgL a)=some r→evD ctx 25 [(.d (D.agg [(D.list t0 (List.map Zb a.work)),(D.list t1 (List.map Zt a.edges))]))]=some (ZlD r):=by
 show ZM _ (fun r rhs=>rhs=some (ZlD r)) _
 unfold ZgL
 rw[ZaV ctx 25 ZzZ _ rfl rfl]
 conv=>arg 3; whnf
 refine Zn (ZD _ _) ?_
 conv=>arg 3; whnf
 refine Ze rfl ?_ ?_
 ·conv=>arg 3; whnf
  exact Zc rfl
 ·conv=>arg 3; whnf
  refine Zn (ZD _ _) ?_
  conv=>arg 3; whnf
  refine Ze rfl ?_ ?_
  ·conv=>arg 3; whnf
   exact Zc rfl
  ·conv=>arg 3; whnf
   refine Zp _ Zej rfl fun x0 hx0=>?_
   conv=>arg 3; whnf
   refine Ze rfl ?_ ?_
   ·conv=>arg 3; whnf
    exact Zc rfl
   ·conv=>arg 3; whnf
    refine Zn (ZD _ _) ?_
    conv=>arg 3; whnf
    refine Zd _ (ZmY _) fun r6 hr6=>?_
    clear hr6
    rcases r6 with r6 | r6
    ·conv=>arg 3; whnf
     exact Zc rfl
    ·conv=>arg 3; whnf
     refine Zp _ ZoL rfl fun x7 hx7=>?_
     conv=>arg 3; whnf
     refine Ze rfl ?_ ?_
     ·conv=>arg 3; whnf
      exact Zc rfl
     ·conv=>arg 3; whnf
      exact Zc rfl
def ZjM (r:(Zg1×Int)):D:=(D.tup [(D.agg [(D.list true (List.map Zb r.1.dag.work)),(D.list true (List.map Zt r.1.dag.edges)),(D.list true (List.map Z8 r.1.pieces))]),(Zb r.2)])
def ZhF (t0:Bool) (t1:Bool) (t2:Bool) (t3:Bool) (a:Zk):((List Int)×(List Zj)×(List Zh)×(List (Int×Int))×(List (Int×Int))×(List (Zi×Int)))→Ex×List V×Zo
  | r=>(.exit 0,[(.ptr 0 0),(.ptr 1 0),(.ptr 2 0)],[(.cells (dV t0 t1 t2 t3 a)),(.cells [(.sl 3 1),(.sl 4 2),(.sl 5 2)]),(.cells [(.sl 6 1),(.sl 7 2),(.sl 8 2),(.mp 9),(.mp 10),(.mp 11)]),(.arr 1 []),(.arr 2 []),(.arr 2 []),(.arr 1 (List.map Zb r.1)),(.arr 2 (List.map Zt r.2.1)),(.arr 2 (List.map Z8 r.2.2.1)),(.mp (mpD Zb Zb r.2.2.2.1)),(.mp (mpD Zb Zb r.2.2.2.2.1)),(.mp (mpD Zq Zb r.2.2.2.2.2))])
theorem Zlj {t0:Bool} {t1:Bool} {t2:Bool} {t3:Bool} {a:Zk}:∀(s1:Int×(List Int)×(List Zj)×(List Zh)×(List (Int×Int))×(List (Int×Int))×(List (Zi×Int))) (r:((List Int)×(List Zj)×(List Zh)×(List (Int×Int))×(List (Int×Int))×(List (Zi×Int)))),lp (Zcj a) s1=some r→lpW ctx 0 [1,2,5,31,32] [1,2,5] Zvj [(.ptr 0 0),(.ptr 1 0),(.ptr 2 0),(.d (Zb (a.parts.length:Int))),(.d (Zb s1.1))] [(.cells (dV t0 t1 t2 t3 a)),(.cells [(.sl 3 1),(.sl 4 2),(.sl 5 2)]),(.cells [(.sl 6 1),(.sl 7 2),(.sl 8 2),(.mp 9),(.mp 10),(.mp 11)]),(.arr 1 []),(.arr 2 []),(.arr 2 []),(.arr 1 (List.map Zb s1.2.1)),(.arr 2 (List.map Zt s1.2.2.1)),(.arr 2 (List.map Z8 s1.2.2.2.1)),(.mp (mpD Zb Zb s1.2.2.2.2.1)),(.mp (mpD Zb Zb s1.2.2.2.2.2.1)),(.mp (mpD Zq Zb s1.2.2.2.2.2.2))]=some ((ZhF t0 t1 t2 t3 a) r):=by
 refine Zam (ZhF t0 t1 t2 t3 a) ?_
 intro s1 rcl ih
 show ZM _ _ (lpW _ _ _ _ _ _ _)
 unfold Zcj
 rw[Zao]
 conv=>arg 3; whnf
 refine Ze rfl ?_ ?_
 ·conv=>arg 3; whnf
  refine Zd _ ZjD fun x2 hx2=>?_
  clear hx2
  rcases x2 with x2 | (x2 | x2)
  ·conv=>arg 3; whnf
   exact Zf (ih _)
  ·conv=>arg 3; whnf
   exact Zf (ih _)
  ·conv=>arg 3; whnf
   exact Zf (ih _)
 ·conv=>arg 3; whnf
  exact Zc rfl
def ZhD (t0:Bool) (t1:Bool) (t2:Bool) (t3:Bool) (a:Zk) (r3:((List Int)×(List Zj)×(List Zh)×(List (Int×Int))×(List (Int×Int))×(List (Zi×Int)))):(List Zj)→Ex×List V×Zo
  | r=>(.exit 2,[(.ptr 0 0),(.ptr 1 0),(.ptr 2 0)],[(.cells (dV t0 t1 t2 t3 a)),(.cells [(.sl 3 1),(.sl 4 2),(.sl 5 2)]),(.cells [(.sl 6 1),(.sl 7 2),(.sl 8 2),(.mp 9),(.mp 10),(.mp 11)]),(.arr 1 []),(.arr 2 []),(.arr 2 []),(.arr 1 (List.map Zb r3.1)),(.arr 2 (List.map Zt r)),(.arr 2 (List.map Z8 r3.2.2.1)),(.mp (mpD Zb Zb r3.2.2.2.1)),(.mp (mpD Zb Zb r3.2.2.2.2.1)),(.mp (mpD Zq Zb r3.2.2.2.2.2))])
theorem Zlh {t0:Bool} {t1:Bool} {t2:Bool} {t3:Bool} {a:Zk} {r3:((List Int)×(List Zj)×(List Zh)×(List (Int×Int))×(List (Int×Int))×(List (Zi×Int)))}:∀(s4:Int×(List Zj)) (r:(List Zj)),lp (ZcF a r3) s4=some r→lpW ctx 0 [1,2,5,41,42,43] [1,2,5] ZvW [(.ptr 0 0),(.ptr 1 0),(.ptr 2 0),(.d (D.list t1 (List.map Zt a.edges))),(.d (Zb (a.edges.length:Int))),(.d (Zb s4.1))] [(.cells (dV t0 t1 t2 t3 a)),(.cells [(.sl 3 1),(.sl 4 2),(.sl 5 2)]),(.cells [(.sl 6 1),(.sl 7 2),(.sl 8 2),(.mp 9),(.mp 10),(.mp 11)]),(.arr 1 []),(.arr 2 []),(.arr 2 []),(.arr 1 (List.map Zb r3.1)),(.arr 2 (List.map Zt s4.2)),(.arr 2 (List.map Z8 r3.2.2.1)),(.mp (mpD Zb Zb r3.2.2.2.1)),(.mp (mpD Zb Zb r3.2.2.2.2.1)),(.mp (mpD Zq Zb r3.2.2.2.2.2))]=some ((ZhD t0 t1 t2 t3 a r3) r):=by
 refine Zam (ZhD t0 t1 t2 t3 a r3) ?_
 intro s4 rcl ih
 show ZM _ _ (lpW _ _ _ _ _ _ _)
 unfold ZcF
 rw[Zao]
 conv=>arg 3; whnf
 refine Ze rfl ?_ ?_
 ·conv=>arg 3; whnf
  refine Zl rfl rfl fun x5 hx5=>?_
  conv=>arg 3; whnf
  refine Zg (Zbz (f:=Zb) (g:=Zb) (fun ka kb:Int=>(ka==kb)) (fun _ _=>rfl) r3.2.2.2.2.1 x5.src 0) ?_
  conv=>arg 3; whnf
  refine Zg (Zbz (f:=Zb) (g:=Zb) (fun ka kb:Int=>(ka==kb)) (fun _ _=>rfl) r3.2.2.2.1 x5.dst 0) ?_
  conv=>arg 3; whnf
  refine Zd _ Zau fun x6 hx6=>?_
  conv=>arg 3; whnf
  exact Zf (ih _)
 ·conv=>arg 3; whnf
  exact Zc rfl
def Zh1 (t0:Bool) (t1:Bool) (t2:Bool) (t3:Bool) (a:Zk) (r3:((List Int)×(List Zj)×(List Zh)×(List (Int×Int))×(List (Int×Int))×(List (Zi×Int)))):(List Zj)→Ex×List V×Zo
  | r=>(.exit 4,[(.ptr 0 0),(.ptr 1 0),(.ptr 2 0)],[(.cells (dV t0 t1 t2 t3 a)),(.cells [(.sl 3 1),(.sl 4 2),(.sl 5 2)]),(.cells [(.sl 6 1),(.sl 7 2),(.sl 8 2),(.mp 9),(.mp 10),(.mp 11)]),(.arr 1 []),(.arr 2 []),(.arr 2 []),(.arr 1 (List.map Zb r3.1)),(.arr 2 (List.map Zt r)),(.arr 2 (List.map Z8 r3.2.2.1)),(.mp (mpD Zb Zb r3.2.2.2.1)),(.mp (mpD Zb Zb r3.2.2.2.2.1)),(.mp (mpD Zq Zb r3.2.2.2.2.2))])
theorem Zlb {t0:Bool} {t1:Bool} {t2:Bool} {t3:Bool} {a:Zk} {r3:((List Int)×(List Zj)×(List Zh)×(List (Int×Int))×(List (Int×Int))×(List (Zi×Int)))}:∀(s8:Int×(List Zj)) (r:(List Zj)),lp (ZcP a r3) s8=some r→lpW ctx 0 [1,2,5,65,66,67] [1,2,5] ZvB [(.ptr 0 0),(.ptr 1 0),(.ptr 2 0),(.d (D.list t2 (List.map Zq a.futures))),(.d (Zb (a.futures.length:Int))),(.d (Zb s8.1))] [(.cells (dV t0 t1 t2 t3 a)),(.cells [(.sl 3 1),(.sl 4 2),(.sl 5 2)]),(.cells [(.sl 6 1),(.sl 7 2),(.sl 8 2),(.mp 9),(.mp 10),(.mp 11)]),(.arr 1 []),(.arr 2 []),(.arr 2 []),(.arr 1 (List.map Zb r3.1)),(.arr 2 (List.map Zt s8.2)),(.arr 2 (List.map Z8 r3.2.2.1)),(.mp (mpD Zb Zb r3.2.2.2.1)),(.mp (mpD Zb Zb r3.2.2.2.2.1)),(.mp (mpD Zq Zb r3.2.2.2.2.2))]=some ((Zh1 t0 t1 t2 t3 a r3) r):=by
 refine Zam (Zh1 t0 t1 t2 t3 a r3) ?_
 intro s8 rcl ih
 show ZM _ _ (lpW _ _ _ _ _ _ _)
 unfold ZcP
 rw[Zao]
 conv=>arg 3; whnf
 refine Ze rfl ?_ ?_
 ·conv=>arg 3; whnf
  refine Zl rfl rfl fun x9 hx9=>?_
  conv=>arg 3; whnf
  refine Zg (Zbz (f:=Zb) (g:=Zb) (fun ka kb:Int=>(ka==kb)) (fun _ _=>rfl) r3.2.2.2.2.1 x9.maker 0) ?_
  conv=>arg 3; whnf
  refine Zg (Zbz (f:=Zq) (g:=Zb) (fun ka kb:Zi=>((ka.maker==kb.maker)&&((ka.user==kb.user)&&((ka.pos==kb.pos)&&true)))) (fun _ _=>rfl) r3.2.2.2.2.2 x9 0) ?_
  conv=>arg 3; whnf
  refine Zd _ Zau fun x10 hx10=>?_
  conv=>arg 3; whnf
  exact Zf (ih _)
 ·conv=>arg 3; whnf
  exact Zc rfl
def Zh4 (t3:Bool) (a:Zk) (r3:((List Int)×(List Zj)×(List Zh)×(List (Int×Int))×(List (Int×Int))×(List (Zi×Int)))) (s12:Int×(List Int)×(List Zj)×(List Zh)) (x13:Zr):(List Zj)→Ex×List V×Zo
  | r=>(.exit 8,[(.ptr 0 0),(.ptr 1 0),(.ptr 2 0),(.d (Zb (w64 ((List.length (s12.2.2.2++[(Zh.mk (-1) s12.1)]):Int)-1)))),(.d (D.list t3 (List.map Zw a.barriers))),(.d (Zb (a.barriers.length:Int))),(.d (Zb s12.1))],[(.cells [(.sl 3 1),(.sl 4 2),(.sl 5 2)]),(.cells [(.sl 6 1),(.sl 7 2),(.sl 8 2),(.mp 9),(.mp 10),(.mp 11)]),(.cells [(.d (D.list true (List.map Zb x13.ins))),(.d (D.list true (List.map Zb x13.outs)))]),(.arr 1 []),(.arr 2 []),(.arr 2 []),(.arr 1 (List.map Zb (s12.2.1++[1]))),(.arr 2 (List.map Zt r)),(.arr 2 (List.map Z8 (s12.2.2.2++[(Zh.mk (-1) s12.1)]))),(.mp (mpD Zb Zb r3.2.2.2.1)),(.mp (mpD Zb Zb r3.2.2.2.2.1)),(.mp (mpD Zq Zb r3.2.2.2.2.2))])
theorem Zlc {t3:Bool} {a:Zk} {r3:((List Int)×(List Zj)×(List Zh)×(List (Int×Int))×(List (Int×Int))×(List (Zi×Int)))} {s12:Int×(List Int)×(List Zj)×(List Zh)} {x13:Zr}:∀(s15:Int×(List Zj)) (r:(List Zj)),lp (ZdC r3 s12 x13) s15=some r→lpW ctx 0 [2,5,12,13,88,89,90,100,101,102] [2,5,12,13,88,89,90] Zxo [(.ptr 0 0),(.ptr 1 0),(.ptr 2 0),(.d (Zb (w64 ((List.length (s12.2.2.2++[(Zh.mk (-1) s12.1)]):Int)-1)))),(.d (D.list t3 (List.map Zw a.barriers))),(.d (Zb (a.barriers.length:Int))),(.d (Zb s12.1)),(.d (D.list true (List.map Zb x13.ins))),(.d (Zb (x13.ins.length:Int))),(.d (Zb s15.1))] [(.cells [(.sl 3 1),(.sl 4 2),(.sl 5 2)]),(.cells [(.sl 6 1),(.sl 7 2),(.sl 8 2),(.mp 9),(.mp 10),(.mp 11)]),(.cells [(.d (D.list true (List.map Zb x13.ins))),(.d (D.list true (List.map Zb x13.outs)))]),(.arr 1 []),(.arr 2 []),(.arr 2 []),(.arr 1 (List.map Zb (s12.2.1++[1]))),(.arr 2 (List.map Zt s15.2)),(.arr 2 (List.map Z8 (s12.2.2.2++[(Zh.mk (-1) s12.1)]))),(.mp (mpD Zb Zb r3.2.2.2.1)),(.mp (mpD Zb Zb r3.2.2.2.2.1)),(.mp (mpD Zq Zb r3.2.2.2.2.2))]=some ((Zh4 t3 a r3 s12 x13) r):=by
 refine Zam (Zh4 t3 a r3 s12 x13) ?_
 intro s15 rcl ih
 show ZM _ _ (lpW _ _ _ _ _ _ _)
 unfold ZdC
 rw[Zao]
 conv=>arg 3; whnf
 refine Ze rfl ?_ ?_
 ·conv=>arg 3; whnf
  refine Zl rfl rfl fun x16 hx16=>?_
  conv=>arg 3; whnf
  refine Zg (Zbz (f:=Zb) (g:=Zb) (fun ka kb:Int=>(ka==kb)) (fun _ _=>rfl) r3.2.2.2.2.1 x16 0) ?_
  conv=>arg 3; whnf
  refine Zd _ Zau fun x17 hx17=>?_
  conv=>arg 3; whnf
  exact Zf (ih _)
 ·conv=>arg 3; whnf
  exact Zc rfl
def ZhS (t3:Bool) (a:Zk) (r3:((List Int)×(List Zj)×(List Zh)×(List (Int×Int))×(List (Int×Int))×(List (Zi×Int)))) (s12:Int×(List Int)×(List Zj)×(List Zh)) (x13:Zr):(List Zj)→Ex×List V×Zo
  | r=>(.exit 10,[(.ptr 0 0),(.ptr 1 0),(.d (D.list t3 (List.map Zw a.barriers))),(.d (Zb (a.barriers.length:Int))),(.d (Zb s12.1))],[(.cells [(.sl 2 1),(.sl 3 2),(.sl 4 2)]),(.cells [(.sl 5 1),(.sl 6 2),(.sl 7 2),(.mp 8),(.mp 9),(.mp 10)]),(.arr 1 []),(.arr 2 []),(.arr 2 []),(.arr 1 (List.map Zb (s12.2.1++[1]))),(.arr 2 (List.map Zt r)),(.arr 2 (List.map Z8 (s12.2.2.2++[(Zh.mk (-1) s12.1)]))),(.mp (mpD Zb Zb r3.2.2.2.1)),(.mp (mpD Zb Zb r3.2.2.2.2.1)),(.mp (mpD Zq Zb r3.2.2.2.2.2))])
theorem Zln {t3:Bool} {a:Zk} {r3:((List Int)×(List Zj)×(List Zh)×(List (Int×Int))×(List (Int×Int))×(List (Zi×Int)))} {s12:Int×(List Int)×(List Zj)×(List Zh)} {x13:Zr}:∀(s19:Int×(List Zj)) (r:(List Zj)),lp (ZdE r3 s12 x13) s19=some r→lpW ctx 0 [2,5,13,88,89,90,117,118,119] [2,5,88,89,90] ZvU [(.ptr 0 0),(.ptr 1 0),(.d (Zb (w64 ((List.length (s12.2.2.2++[(Zh.mk (-1) s12.1)]):Int)-1)))),(.d (D.list t3 (List.map Zw a.barriers))),(.d (Zb (a.barriers.length:Int))),(.d (Zb s12.1)),(.d (D.list true (List.map Zb x13.outs))),(.d (Zb (x13.outs.length:Int))),(.d (Zb s19.1))] [(.cells [(.sl 2 1),(.sl 3 2),(.sl 4 2)]),(.cells [(.sl 5 1),(.sl 6 2),(.sl 7 2),(.mp 8),(.mp 9),(.mp 10)]),(.arr 1 []),(.arr 2 []),(.arr 2 []),(.arr 1 (List.map Zb (s12.2.1++[1]))),(.arr 2 (List.map Zt s19.2)),(.arr 2 (List.map Z8 (s12.2.2.2++[(Zh.mk (-1) s12.1)]))),(.mp (mpD Zb Zb r3.2.2.2.1)),(.mp (mpD Zb Zb r3.2.2.2.2.1)),(.mp (mpD Zq Zb r3.2.2.2.2.2))]=some ((ZhS t3 a r3 s12 x13) r):=by
 refine Zam (ZhS t3 a r3 s12 x13) ?_
 intro s19 rcl ih
 show ZM _ _ (lpW _ _ _ _ _ _ _)
 unfold ZdE
 rw[Zao]
 conv=>arg 3; whnf
 refine Ze rfl ?_ ?_
 ·conv=>arg 3; whnf
  refine Zl rfl rfl fun x20 hx20=>?_
  conv=>arg 3; whnf
  refine Zg (Zbz (f:=Zb) (g:=Zb) (fun ka kb:Int=>(ka==kb)) (fun _ _=>rfl) r3.2.2.2.1 x20 0) ?_
  conv=>arg 3; whnf
  refine Zd _ Zau fun x21 hx21=>?_
  conv=>arg 3; whnf
  exact Zf (ih _)
 ·conv=>arg 3; whnf
  exact Zc rfl
def ZhO (t3:Bool) (a:Zk) (r3:((List Int)×(List Zj)×(List Zh)×(List (Int×Int))×(List (Int×Int))×(List (Zi×Int)))):((List Int)×(List Zj)×(List Zh))→Ex×List V×Zo
  | r=>(.exit 6,[(.ptr 0 0),(.ptr 1 0)],[(.cells [(.sl 2 1),(.sl 3 2),(.sl 4 2)]),(.cells [(.sl 5 1),(.sl 6 2),(.sl 7 2),(.mp 8),(.mp 9),(.mp 10)]),(.arr 1 []),(.arr 2 []),(.arr 2 []),(.arr 1 (List.map Zb r.1)),(.arr 2 (List.map Zt r.2.1)),(.arr 2 (List.map Z8 r.2.2)),(.mp (mpD Zb Zb r3.2.2.2.1)),(.mp (mpD Zb Zb r3.2.2.2.2.1)),(.mp (mpD Zq Zb r3.2.2.2.2.2))])
theorem Zls {t3:Bool} {a:Zk} {r3:((List Int)×(List Zj)×(List Zh)×(List (Int×Int))×(List (Int×Int))×(List (Zi×Int)))}:∀(s12:Int×(List Int)×(List Zj)×(List Zh)) (r:((List Int)×(List Zj)×(List Zh))),lp (ZcL a r3) s12=some r→lpW ctx 0 [2,5,88,89,90] [2,5] Zvf [(.ptr 0 0),(.ptr 1 0),(.d (D.list t3 (List.map Zw a.barriers))),(.d (Zb (a.barriers.length:Int))),(.d (Zb s12.1))] [(.cells [(.sl 2 1),(.sl 3 2),(.sl 4 2)]),(.cells [(.sl 5 1),(.sl 6 2),(.sl 7 2),(.mp 8),(.mp 9),(.mp 10)]),(.arr 1 []),(.arr 2 []),(.arr 2 []),(.arr 1 (List.map Zb s12.2.1)),(.arr 2 (List.map Zt s12.2.2.1)),(.arr 2 (List.map Z8 s12.2.2.2)),(.mp (mpD Zb Zb r3.2.2.2.1)),(.mp (mpD Zb Zb r3.2.2.2.2.1)),(.mp (mpD Zq Zb r3.2.2.2.2.2))]=some ((ZhO t3 a r3) r):=by
 refine Zam (ZhO t3 a r3) ?_
 intro s12 rcl ih
 show ZM _ _ (lpW _ _ _ _ _ _ _)
 unfold ZcL
 rw[Zao]
 conv=>arg 3; whnf
 refine Ze rfl ?_ ?_
 ·conv=>arg 3; whnf
  refine Zl rfl rfl fun x13 hx13=>?_
  conv=>arg 3; whnf
  refine Zd _ ZaN fun x14 hx14=>?_
  conv=>arg 3; whnf
  refine Zn (ZD _ _) ?_
  conv=>arg 3; whnf
  refine Zd _ (Zlc _) fun r18 hr18=>?_
  conv=>arg 3; whnf
  refine Zn (ZD _ _) ?_
  conv=>arg 3; whnf
  refine Zd _ (Zln _) fun r22 hr22=>?_
  conv=>arg 3; whnf
  exact Zf (ih _)
 ·conv=>arg 3; whnf
  exact Zc rfl
theorem Zng {t0:Bool} {t1:Bool} {t2:Bool} {t3:Bool} {a:Zk}:∀r,(ZfK a)=some r→evD ctx 16 [(.d (D.agg (dA t0 t1 t2 t3 a)))]=some (ZjM r):=by
 show ZM _ (fun r rhs=>rhs=some (ZjM r)) _
 unfold ZfK
 rw[ZaV ctx 16 ZAa _ rfl rfl]
 conv=>arg 3; whnf
 refine Zp _ ZjO rfl fun x0 hx0=>?_
 conv=>arg 3; whnf
 refine Ze rfl ?_ ?_
 ·conv=>arg 3; whnf
  exact Zc rfl
 ·conv=>arg 3; whnf
  refine Zn (ZD _ _) ?_
  conv=>arg 3; whnf
  refine Zd _ (Zlj _) fun r3 hr3=>?_
  conv=>arg 3; whnf
  refine Zn (ZD _ _) ?_
  conv=>arg 3; whnf
  refine Zd _ (Zlh _) fun r7 hr7=>?_
  conv=>arg 3; whnf
  refine Zn (ZD _ _) ?_
  conv=>arg 3; whnf
  refine Zd _ (Zlb _) fun r11 hr11=>?_
  conv=>arg 3; whnf
  refine Zn (ZD _ _) ?_
  conv=>arg 3; whnf
  refine Zd _ (Zls _) fun r23 hr23=>?_
  conv=>arg 3; whnf
  refine Zp _ Zo1 rfl fun x24 hx24=>?_
  conv=>arg 3; whnf
  refine Ze rfl ?_ ?_
  ·conv=>arg 3; whnf
   exact Zc rfl
  ·conv=>arg 3; whnf
   exact Zc rfl
def Zlz (r:(Int×Bool)):D:=(D.tup [(Zb r.1),(D.bool r.2)])
def Zja (a:Int):(Int⊕Unit)→Ex×List V×Zo
  | (.inl r)=>(.ret,[(.d (Zb r)),(.d (D.bool true))],[])
  | (.inr r)=>(.exit 0,[.bad,.bad],[])
theorem ZmA {a:Int}:∀(s0:Int×Int) (r:(Int⊕Unit)),lp (Zcr a) s0=some r→lpW ctx 0 [0,4,5] [2,3] ZvQ [(.d (Zb a)),(.d (Zb s0.1)),(.d (Zb s0.2))] []=some ((Zja a) r):=by
 refine Zam (Zja a) ?_
 intro s0 rcl ih
 show ZM _ _ (lpW _ _ _ _ _ _ _)
 unfold Zcr
 rw[Zao]
 conv=>arg 3; whnf
 refine Ze rfl ?_ ?_
 ·conv=>arg 3; whnf
  refine Ze rfl ?_ ?_
  ·conv=>arg 3; whnf
   exact Zc rfl
  ·conv=>arg 3; whnf
   exact Zf (ih _)
 ·conv=>arg 3; whnf
  exact Zc rfl
theorem Zon {a:Int}:∀r,(ZgS a)=some r→evD ctx 63 [(.d (Zb a))]=some (Zlz r):=by
 show ZM _ (fun r rhs=>rhs=some (Zlz r)) _
 unfold ZgS
 rw[ZaV ctx 63 ZzF _ rfl rfl]
 conv=>arg 3; whnf
 refine Zd _ (ZmA _) fun r1 hr1=>?_
 clear hr1
 rcases r1 with r1 | r1
 ·conv=>arg 3; whnf
  exact Zc rfl
 ·conv=>arg 3; whnf
  exact Zc rfl
def Zj9 (r:Bool):D:=(D.bool r)
theorem ZnR {t0:Bool} {t1:Bool} {t2:Bool} {t3:Bool} {a:Zk}:∀r,(Zgg a)=some r→evD ctx 87 [(.d (D.agg (dA t0 t1 t2 t3 a)))]=some (Zj9 r):=by
 show ZM _ (fun r rhs=>rhs=some (Zj9 r)) _
 unfold Zgg
 rw[ZaV ctx 87 ZzK _ rfl rfl]
 conv=>arg 3; whnf
 refine Zp _ Zon rfl fun x0 hx0=>?_
 conv=>arg 3; whnf
 refine Ze rfl ?_ ?_
 ·conv=>arg 3; whnf
  refine Ze rfl ?_ ?_
  ·conv=>arg 3; whnf
   refine Ze rfl ?_ ?_
   ·conv=>arg 3; whnf
    refine Ze rfl ?_ ?_
    ·conv=>arg 3; whnf
     exact Zc rfl
    ·conv=>arg 3; whnf
     exact Zc rfl
   ·conv=>arg 3; whnf
    exact Zc rfl
  ·conv=>arg 3; whnf
   exact Zc rfl
 ·conv=>arg 3; whnf
  exact Zc rfl
def ZjJ (r:Bool):D:=(D.bool r)
def ZhV (t0:Bool) (t1:Bool) (t2:Bool) (t3:Bool) (a:Zk):(Unit⊕Unit)→Ex×List V×Zo
  | (.inl r)=>(.ret,[(.d (D.bool false))],[])
  | (.inr r)=>(.exit 0,[.bad],[])
theorem Zla {t0:Bool} {t1:Bool} {t2:Bool} {t3:Bool} {a:Zk}:∀(s0:Int) (r:(Unit⊕Unit)),lp (ZdG a) s0=some r→lpW ctx 0 [1,3] [2] Zvi [(.ptr 0 0),(.d (Zb s0))] [(.cells (dV t0 t1 t2 t3 a))]=some ((ZhV t0 t1 t2 t3 a) r):=by
 refine Zam (ZhV t0 t1 t2 t3 a) ?_
 intro s0 rcl ih
 show ZM _ _ (lpW _ _ _ _ _ _ _)
 unfold ZdG
 rw[Zao]
 conv=>arg 3; whnf
 refine Zn (ZD _ _) ?_
 conv=>arg 3; whnf
 refine Ze rfl ?_ ?_
 ·conv=>arg 3; whnf
  refine Zl rfl rfl fun x1 hx1=>?_
  conv=>arg 3; whnf
  refine Ze rfl ?_ ?_
  ·conv=>arg 3; whnf
   exact Zc rfl
  ·conv=>arg 3; whnf
   refine Ze rfl ?_ ?_
   ·conv=>arg 3; whnf
    exact Zc rfl
   ·conv=>arg 3; whnf
    refine Ze rfl ?_ ?_
    ·conv=>arg 3; whnf
     exact Zc rfl
    ·conv=>arg 3; whnf
     refine Ze rfl ?_ ?_
     ·conv=>arg 3; whnf
      exact Zc rfl
     ·conv=>arg 3; whnf
      refine Ze rfl ?_ ?_
      ·conv=>arg 3; whnf
       exact Zc rfl
      ·conv=>arg 3; whnf
       refine Ze rfl ?_ ?_
       ·conv=>arg 3; whnf
        exact Zc rfl
       ·conv=>arg 3; whnf
        exact Zf (ih _)
 ·conv=>arg 3; whnf
  exact Zc rfl
theorem Znl {t0:Bool} {t1:Bool} {t2:Bool} {t3:Bool} {a:Zk}:∀r,(ZfN a)=some r→evD ctx 88 [(.d (D.agg (dA t0 t1 t2 t3 a)))]=some (ZjJ r):=by
 show ZM _ (fun r rhs=>rhs=some (ZjJ r)) _
 unfold ZfN
 rw[ZaV ctx 88 ZzI _ rfl rfl]
 conv=>arg 3; whnf
 refine Zd _ (Zla _) fun r2 hr2=>?_
 clear hr2
 rcases r2 with r2 | r2
 ·conv=>arg 3; whnf
  exact Zc rfl
 ·conv=>arg 3; whnf
  exact Zc rfl
def Zkv (r:Bool):D:=(D.bool r)
theorem ZeW {t0:Bool} {t1:Bool} {t2:Bool} {t3:Bool} {a:Zk} {b:Int}:∀r,(Zdw a b)=some r→evD ctx 122 [(.d (D.agg (dA t0 t1 t2 t3 a))),(.d (Zb b))]=some (Zkv r):=by
 show ZM _ (fun r rhs=>rhs=some (Zkv r)) _
 unfold Zdw
 rw[ZaV ctx 122 Zvg _ rfl rfl]
 conv=>arg 3; whnf
 refine Ze rfl ?_ ?_
 ·conv=>arg 3; whnf
  refine Zn (ZD _ _) ?_
  conv=>arg 3; whnf
  refine Ze rfl ?_ ?_
  ·conv=>arg 3; whnf
   exact Zc rfl
  ·conv=>arg 3; whnf
   exact Zc rfl
 ·conv=>arg 3; whnf
  exact Zc rfl
def ZjQ (r:Bool):D:=(D.bool r)
def Zhs (t0:Bool) (t1:Bool) (t2:Bool) (t3:Bool) (a:Zk) (s0:Int) (x1:Zj):(Unit⊕Unit)→Ex×List V×Zo
  | (.inl r)=>(.ret,[(.ptr 0 0),(.d (D.bool false)),(.d (Zb s0))],[(.cells (dV t0 t1 t2 t3 a))])
  | (.inr r)=>(.exit 2,[(.ptr 0 0),.bad,(.d (Zb s0))],[(.cells (dV t0 t1 t2 t3 a))])
theorem Zli {t0:Bool} {t1:Bool} {t2:Bool} {t3:Bool} {a:Zk} {s0:Int} {x1:Zj}:∀(s4:Int) (r:(Unit⊕Unit)),lp (ZdH a s0 x1) s4=some r→lpW ctx 0 [1,3,4,5] [1,2,3] Zxw [(.ptr 0 0),(.d (Zb s0)),(.ptr 1 0),(.d (Zb s4))] [(.cells (dV t0 t1 t2 t3 a)),(.cells [(.d (Zb x1.src)),(.d (Zb x1.dst))])]=some ((Zhs t0 t1 t2 t3 a s0 x1) r):=by
 refine Zam (Zhs t0 t1 t2 t3 a s0 x1) ?_
 intro s4 rcl ih
 show ZM _ _ (lpW _ _ _ _ _ _ _)
 unfold ZdH
 rw[Zao]
 conv=>arg 3; whnf
 refine Ze rfl ?_ ?_
 ·conv=>arg 3; whnf
  refine Zl rfl rfl fun x5 hx5=>?_
  conv=>arg 3; whnf
  refine Ze rfl ?_ ?_
  ·conv=>arg 3; whnf
   refine Zg (Zbb rfl hx5) ?_
   conv=>arg 3; whnf
   refine Ze rfl ?_ ?_
   ·conv=>arg 3; whnf
    exact Zc rfl
   ·conv=>arg 3; whnf
    exact Zf (ih _)
  ·conv=>arg 3; whnf
   exact Zf (ih _)
 ·conv=>arg 3; whnf
  exact Zc rfl
def ZhB (t0:Bool) (t1:Bool) (t2:Bool) (t3:Bool) (a:Zk):(Unit⊕Unit)→Ex×List V×Zo
  | (.inl r)=>(.ret,[(.d (D.bool false))],[])
  | (.inr r)=>(.exit 0,[.bad],[])
theorem Zlr {t0:Bool} {t1:Bool} {t2:Bool} {t3:Bool} {a:Zk}:∀(s0:Int) (r:(Unit⊕Unit)),lp (ZdK a) s0=some r→lpW ctx 0 [1,3] [2] ZwM [(.ptr 0 0),(.d (Zb s0))] [(.cells (dV t0 t1 t2 t3 a))]=some ((ZhB t0 t1 t2 t3 a) r):=by
 refine Zam (ZhB t0 t1 t2 t3 a) ?_
 intro s0 rcl ih
 show ZM _ _ (lpW _ _ _ _ _ _ _)
 unfold ZdK
 rw[Zao]
 conv=>arg 3; whnf
 refine Zn (ZD _ _) ?_
 conv=>arg 3; whnf
 refine Ze rfl ?_ ?_
 ·conv=>arg 3; whnf
  refine Zl rfl rfl fun x1 hx1=>?_
  conv=>arg 3; whnf
  refine Zp _ ZeW rfl fun x2 hx2=>?_
  conv=>arg 3; whnf
  refine Ze rfl ?_ ?_
  ·conv=>arg 3; whnf
   refine Zp _ ZeW rfl fun x3 hx3=>?_
   conv=>arg 3; whnf
   refine Ze rfl ?_ ?_
   ·conv=>arg 3; whnf
    refine Ze rfl ?_ ?_
    ·conv=>arg 3; whnf
     exact Zc rfl
    ·conv=>arg 3; whnf
     refine Zd _ (Zli _) fun r6 hr6=>?_
     clear hr6
     rcases r6 with r6 | r6
     ·conv=>arg 3; whnf
      exact Zc rfl
     ·conv=>arg 3; whnf
      exact Zf (ih _)
   ·conv=>arg 3; whnf
    exact Zc rfl
  ·conv=>arg 3; whnf
   exact Zc rfl
 ·conv=>arg 3; whnf
  exact Zc rfl
theorem Zni {t0:Bool} {t1:Bool} {t2:Bool} {t3:Bool} {a:Zk}:∀r,(ZfI a)=some r→evD ctx 89 [(.d (D.agg (dA t0 t1 t2 t3 a)))]=some (ZjQ r):=by
 show ZM _ (fun r rhs=>rhs=some (ZjQ r)) _
 unfold ZfI
 rw[ZaV ctx 89 Zzx _ rfl rfl]
 conv=>arg 3; whnf
 refine Zd _ (Zlr _) fun r7 hr7=>?_
 clear hr7
 rcases r7 with r7 | r7
 ·conv=>arg 3; whnf
  exact Zc rfl
 ·conv=>arg 3; whnf
  exact Zc rfl
def Zir (r:Bool):D:=(D.bool r)
def ZgX (t0:Bool) (t1:Bool) (t2:Bool) (t3:Bool) (a:Zk) (s0:Int) (x1:Zi):(Unit⊕Unit)→Ex×List V×Zo
  | (.inl r)=>(.ret,[(.ptr 0 0),(.d (D.bool false)),(.d (Zb s0))],[(.cells (dV t0 t1 t2 t3 a))])
  | (.inr r)=>(.exit 2,[(.ptr 0 0),.bad,(.d (Zb s0))],[(.cells (dV t0 t1 t2 t3 a))])
theorem Zj7 {t0:Bool} {t1:Bool} {t2:Bool} {t3:Bool} {a:Zk} {s0:Int} {x1:Zi}:∀(s5:Int) (r:(Unit⊕Unit)),lp (ZcM a s0 x1) s5=some r→lpW ctx 0 [1,3,4,5] [1,2,3] Zxk [(.ptr 0 0),(.d (Zb s0)),(.ptr 1 0),(.d (Zb s5))] [(.cells (dV t0 t1 t2 t3 a)),(.cells [(.d (Zb x1.maker)),(.d (Zb x1.user)),(.d (Zb x1.pos))])]=some ((ZgX t0 t1 t2 t3 a s0 x1) r):=by
 refine Zam (ZgX t0 t1 t2 t3 a s0 x1) ?_
 intro s5 rcl ih
 show ZM _ _ (lpW _ _ _ _ _ _ _)
 unfold ZcM
 rw[Zao]
 conv=>arg 3; whnf
 refine Ze rfl ?_ ?_
 ·conv=>arg 3; whnf
  refine Zl rfl rfl fun x6 hx6=>?_
  conv=>arg 3; whnf
  refine Ze rfl ?_ ?_
  ·conv=>arg 3; whnf
   refine Zg (Zbb rfl hx6) ?_
   conv=>arg 3; whnf
   refine Ze rfl ?_ ?_
   ·conv=>arg 3; whnf
    exact Zc rfl
   ·conv=>arg 3; whnf
    exact Zf (ih _)
  ·conv=>arg 3; whnf
   exact Zf (ih _)
 ·conv=>arg 3; whnf
  exact Zc rfl
def ZgH (t0:Bool) (t1:Bool) (t2:Bool) (t3:Bool) (a:Zk):(Unit⊕Unit)→Ex×List V×Zo
  | (.inl r)=>(.ret,[(.d (D.bool false))],[])
  | (.inr r)=>(.exit 0,[.bad],[])
theorem Zj2 {t0:Bool} {t1:Bool} {t2:Bool} {t3:Bool} {a:Zk}:∀(s0:Int) (r:(Unit⊕Unit)),lp (ZcN a) s0=some r→lpW ctx 0 [1,3] [2] Zv0 [(.ptr 0 0),(.d (Zb s0))] [(.cells (dV t0 t1 t2 t3 a))]=some ((ZgH t0 t1 t2 t3 a) r):=by
 refine Zam (ZgH t0 t1 t2 t3 a) ?_
 intro s0 rcl ih
 show ZM _ _ (lpW _ _ _ _ _ _ _)
 unfold ZcN
 rw[Zao]
 conv=>arg 3; whnf
 refine Zn (ZD _ _) ?_
 conv=>arg 3; whnf
 refine Ze rfl ?_ ?_
 ·conv=>arg 3; whnf
  refine Zl rfl rfl fun x1 hx1=>?_
  conv=>arg 3; whnf
  refine Zp _ ZeW rfl fun x2 hx2=>?_
  conv=>arg 3; whnf
  refine Ze rfl ?_ ?_
  ·conv=>arg 3; whnf
   refine Zp _ ZeW rfl fun x3 hx3=>?_
   conv=>arg 3; whnf
   refine Ze rfl ?_ ?_
   ·conv=>arg 3; whnf
    refine Ze rfl ?_ ?_
    ·conv=>arg 3; whnf
     exact Zc rfl
    ·conv=>arg 3; whnf
     refine Ze rfl ?_ ?_
     ·conv=>arg 3; whnf
      exact Zc rfl
     ·conv=>arg 3; whnf
      refine Zl rfl rfl fun x4 hx4=>?_
      conv=>arg 3; whnf
      refine Ze rfl ?_ ?_
      ·conv=>arg 3; whnf
       exact Zc rfl
      ·conv=>arg 3; whnf
       refine Zd _ (Zj7 _) fun r7 hr7=>?_
       clear hr7
       rcases r7 with r7 | r7
       ·conv=>arg 3; whnf
        exact Zc rfl
       ·conv=>arg 3; whnf
        exact Zf (ih _)
   ·conv=>arg 3; whnf
    exact Zc rfl
  ·conv=>arg 3; whnf
   exact Zc rfl
 ·conv=>arg 3; whnf
  exact Zc rfl
theorem ZlX {t0:Bool} {t1:Bool} {t2:Bool} {t3:Bool} {a:Zk}:∀r,(ZeV a)=some r→evD ctx 90 [(.d (D.agg (dA t0 t1 t2 t3 a)))]=some (Zir r):=by
 show ZM _ (fun r rhs=>rhs=some (Zir r)) _
 unfold ZeV
 rw[ZaV ctx 90 ZzY _ rfl rfl]
 conv=>arg 3; whnf
 refine Zd _ (Zj2 _) fun r8 hr8=>?_
 clear hr8
 rcases r8 with r8 | r8
 ·conv=>arg 3; whnf
  exact Zc rfl
 ·conv=>arg 3; whnf
  exact Zc rfl
def ZlI (r:Bool):D:=(D.bool r)
def ZiJ (t0:Bool) (t1:Bool) (t2:Bool) (t3:Bool) (t4:Bool) (a:Zk) (b:(List Int)):(Unit⊕Unit)→Ex×List V×Zo
  | (.inl r)=>(.ret,[(.d (D.list t4 (List.map Zb b))),(.d (D.bool false))],[])
  | (.inr r)=>(.exit 0,[(.d (D.list t4 (List.map Zb b))),.bad],[])
theorem Zmt {t0:Bool} {t1:Bool} {t2:Bool} {t3:Bool} {t4:Bool} {a:Zk} {b:(List Int)}:∀(s0:Int) (r:(Unit⊕Unit)),lp (ZeL a b) s0=some r→lpW ctx 0 [1,2,5] [1,4] Ztj [(.d (D.list t4 (List.map Zb b))),(.ptr 0 0),(.d (Zb s0))] [(.cells (dV t0 t1 t2 t3 a))]=some ((ZiJ t0 t1 t2 t3 t4 a b) r):=by
 refine Zam (ZiJ t0 t1 t2 t3 t4 a b) ?_
 intro s0 rcl ih
 show ZM _ _ (lpW _ _ _ _ _ _ _)
 unfold ZeL
 rw[Zao]
 conv=>arg 3; whnf
 refine Zn (ZD _ _) ?_
 conv=>arg 3; whnf
 refine Ze rfl ?_ ?_
 ·conv=>arg 3; whnf
  refine Zl rfl rfl fun x1 hx1=>?_
  conv=>arg 3; whnf
  refine Zp _ ZeW rfl fun x2 hx2=>?_
  conv=>arg 3; whnf
  refine Ze rfl ?_ ?_
  ·conv=>arg 3; whnf
   refine Ze rfl ?_ ?_
   ·conv=>arg 3; whnf
    refine Zl rfl rfl fun x3 hx3=>?_
    conv=>arg 3; whnf
    refine Zg (Zbb rfl hx1) ?_
    conv=>arg 3; whnf
    refine Ze rfl ?_ ?_
    ·conv=>arg 3; whnf
     exact Zc rfl
    ·conv=>arg 3; whnf
     exact Zf (ih _)
   ·conv=>arg 3; whnf
    exact Zf (ih _)
  ·conv=>arg 3; whnf
   exact Zc rfl
 ·conv=>arg 3; whnf
  exact Zc rfl
theorem ZkM {t0:Bool} {t1:Bool} {t2:Bool} {t3:Bool} {t4:Bool} {a:Zk} {b:(List Int)}:∀r,(Zf0 a b)=some r→evD ctx 123 [(.d (D.agg (dA t0 t1 t2 t3 a))),(.d (D.list t4 (List.map Zb b)))]=some (ZlI r):=by
 show ZM _ (fun r rhs=>rhs=some (ZlI r)) _
 unfold Zf0
 rw[ZaV ctx 123 ZwP _ rfl rfl]
 conv=>arg 3; whnf
 refine Zd _ (Zmt _) fun r4 hr4=>?_
 clear hr4
 rcases r4 with r4 | r4
 ·conv=>arg 3; whnf
  exact Zc rfl
 ·conv=>arg 3; whnf
  refine Zn (ZD _ _) ?_
  conv=>arg 3; whnf
  refine Ze rfl ?_ ?_
  ·conv=>arg 3; whnf
   exact Zc rfl
  ·conv=>arg 3; whnf
   exact Zc rfl
def ZlG (r:Bool):D:=(D.bool r)
def ZiZ (t0:Bool) (a:(List Int)) (b:Int):(Unit⊕Unit)→Ex×List V×Zo
  | (.inl r)=>(.ret,[(.d (D.bool true))],[])
  | (.inr r)=>(.exit 0,[.bad],[])
theorem ZmD {t0:Bool} {a:(List Int)} {b:Int}:∀(s0:Int) (r:(Unit⊕Unit)),lp (ZeI a b) s0=some r→lpW ctx 0 [0,1,5] [4] ZtT [(.d (D.list t0 (List.map Zb a))),(.d (Zb b)),(.d (Zb s0))] []=some ((ZiZ t0 a b) r):=by
 refine Zam (ZiZ t0 a b) ?_
 intro s0 rcl ih
 show ZM _ _ (lpW _ _ _ _ _ _ _)
 unfold ZeI
 rw[Zao]
 conv=>arg 3; whnf
 refine Zn (ZD _ _) ?_
 conv=>arg 3; whnf
 refine Ze rfl ?_ ?_
 ·conv=>arg 3; whnf
  refine Zl rfl rfl fun x1 hx1=>?_
  conv=>arg 3; whnf
  refine Ze rfl ?_ ?_
  ·conv=>arg 3; whnf
   exact Zc rfl
  ·conv=>arg 3; whnf
   exact Zf (ih _)
 ·conv=>arg 3; whnf
  exact Zc rfl
theorem ZoM {t0:Bool} {a:(List Int)} {b:Int}:∀r,(ZgN a b)=some r→evD ctx 124 [(.d (D.list t0 (List.map Zb a))),(.d (Zb b))]=some (ZlG r):=by
 show ZM _ (fun r rhs=>rhs=some (ZlG r)) _
 unfold ZgN
 rw[ZaV ctx 124 ZxB _ rfl rfl]
 conv=>arg 3; whnf
 refine Zd _ (ZmD _) fun r2 hr2=>?_
 clear hr2
 rcases r2 with r2 | r2
 ·conv=>arg 3; whnf
  exact Zc rfl
 ·conv=>arg 3; whnf
  exact Zc rfl
def ZhH (r:Bool):D:=(D.bool r)
def Zgk (t0:Bool) (t1:Bool) (t2:Bool) (t3:Bool) (a:Zk) (s0:Int) (x1:Zr):(Unit⊕Unit)→Ex×List V×Zo
  | (.inl r)=>(.ret,[(.ptr 0 0),(.d (D.bool false)),(.d (Zb s0))],[(.cells (dV t0 t1 t2 t3 a))])
  | (.inr r)=>(.exit 2,[(.ptr 0 0),.bad,(.d (Zb s0))],[(.cells (dV t0 t1 t2 t3 a))])
theorem ZjA {t0:Bool} {t1:Bool} {t2:Bool} {t3:Bool} {a:Zk} {s0:Int} {x1:Zr}:∀(s4:Int) (r:(Unit⊕Unit)),lp (Zcu x1) s4=some r→lpW ctx 0 [1,3,4,5] [1,2,3] Zv4 [(.ptr 0 0),(.d (Zb s0)),(.ptr 1 0),(.d (Zb s4))] [(.cells (dV t0 t1 t2 t3 a)),(.cells [(.d (D.list true (List.map Zb x1.ins))),(.d (D.list true (List.map Zb x1.outs)))])]=some ((Zgk t0 t1 t2 t3 a s0 x1) r):=by
 refine Zam (Zgk t0 t1 t2 t3 a s0 x1) ?_
 intro s4 rcl ih
 show ZM _ _ (lpW _ _ _ _ _ _ _)
 unfold Zcu
 rw[Zao]
 conv=>arg 3; whnf
 refine Zn (ZD _ _) ?_
 conv=>arg 3; whnf
 refine Ze rfl ?_ ?_
 ·conv=>arg 3; whnf
  refine Zl rfl rfl fun x5 hx5=>?_
  conv=>arg 3; whnf
  refine Zp _ ZoM rfl fun x6 hx6=>?_
  conv=>arg 3; whnf
  refine Ze rfl ?_ ?_
  ·conv=>arg 3; whnf
   exact Zc rfl
  ·conv=>arg 3; whnf
   exact Zf (ih _)
 ·conv=>arg 3; whnf
  exact Zc rfl
def Zgm (t0:Bool) (t1:Bool) (t2:Bool) (t3:Bool) (a:Zk):(Unit⊕Unit)→Ex×List V×Zo
  | (.inl r)=>(.ret,[(.d (D.bool false))],[])
  | (.inr r)=>(.exit 0,[.bad],[])
theorem Zjw {t0:Bool} {t1:Bool} {t2:Bool} {t3:Bool} {a:Zk}:∀(s0:Int) (r:(Unit⊕Unit)),lp (Zcv a) s0=some r→lpW ctx 0 [1,3] [2] Zv1 [(.ptr 0 0),(.d (Zb s0))] [(.cells (dV t0 t1 t2 t3 a))]=some ((Zgm t0 t1 t2 t3 a) r):=by
 refine Zam (Zgm t0 t1 t2 t3 a) ?_
 intro s0 rcl ih
 show ZM _ _ (lpW _ _ _ _ _ _ _)
 unfold Zcv
 rw[Zao]
 conv=>arg 3; whnf
 refine Zn (ZD _ _) ?_
 conv=>arg 3; whnf
 refine Ze rfl ?_ ?_
 ·conv=>arg 3; whnf
  refine Zl rfl rfl fun x1 hx1=>?_
  conv=>arg 3; whnf
  refine Zp _ ZkM rfl fun x2 hx2=>?_
  conv=>arg 3; whnf
  refine Ze rfl ?_ ?_
  ·conv=>arg 3; whnf
   refine Zp _ ZkM rfl fun x3 hx3=>?_
   conv=>arg 3; whnf
   refine Ze rfl ?_ ?_
   ·conv=>arg 3; whnf
    refine Zd _ (ZjA _) fun r7 hr7=>?_
    clear hr7
    rcases r7 with r7 | r7
    ·conv=>arg 3; whnf
     exact Zc rfl
    ·conv=>arg 3; whnf
     exact Zf (ih _)
   ·conv=>arg 3; whnf
    exact Zc rfl
  ·conv=>arg 3; whnf
   exact Zc rfl
 ·conv=>arg 3; whnf
  exact Zc rfl
theorem Zk3 {t0:Bool} {t1:Bool} {t2:Bool} {t3:Bool} {a:Zk}:∀r,(ZeE a)=some r→evD ctx 91 [(.d (D.agg (dA t0 t1 t2 t3 a)))]=some (ZhH r):=by
 show ZM _ (fun r rhs=>rhs=some (ZhH r)) _
 unfold ZeE
 rw[ZaV ctx 91 Zzv _ rfl rfl]
 conv=>arg 3; whnf
 refine Zd _ (Zjw _) fun r8 hr8=>?_
 clear hr8
 rcases r8 with r8 | r8
 ·conv=>arg 3; whnf
  exact Zc rfl
 ·conv=>arg 3; whnf
  exact Zc rfl
def ZjR (r:Int):D:=(Zb r)
theorem Znh {t0:Bool} {t1:Bool} {t2:Bool} {t3:Bool} {a:Zk}:∀r,(ZfH a)=some r→evD ctx 45 [(.d (D.agg (dA t0 t1 t2 t3 a)))]=some (ZjR r):=by
 show ZM _ (fun r rhs=>rhs=some (ZjR r)) _
 unfold ZfH
 rw[ZaV ctx 45 ZzC _ rfl rfl]
 conv=>arg 3; whnf
 refine Zn (ZD _ _) ?_
 conv=>arg 3; whnf
 refine Ze rfl ?_ ?_
 ·conv=>arg 3; whnf
  exact Zc rfl
 ·conv=>arg 3; whnf
  refine Zn (ZD _ _) ?_
  conv=>arg 3; whnf
  refine Ze rfl ?_ ?_
  ·conv=>arg 3; whnf
   exact Zc rfl
  ·conv=>arg 3; whnf
   refine Zn (ZD _ _) ?_
   conv=>arg 3; whnf
   refine Ze rfl ?_ ?_
   ·conv=>arg 3; whnf
    exact Zc rfl
   ·conv=>arg 3; whnf
    refine Zn (ZD _ _) ?_
    conv=>arg 3; whnf
    refine Ze rfl ?_ ?_
    ·conv=>arg 3; whnf
     exact Zc rfl
    ·conv=>arg 3; whnf
     refine Zn (ZD _ _) ?_
     conv=>arg 3; whnf
     refine Ze rfl ?_ ?_
     ·conv=>arg 3; whnf
      exact Zc rfl
     ·conv=>arg 3; whnf
      refine Zp _ ZnR rfl fun x0 hx0=>?_
      conv=>arg 3; whnf
      refine Ze rfl ?_ ?_
      ·conv=>arg 3; whnf
       refine Zp _ Znl rfl fun x1 hx1=>?_
       conv=>arg 3; whnf
       refine Ze rfl ?_ ?_
       ·conv=>arg 3; whnf
        refine Zp _ Zni rfl fun x2 hx2=>?_
        conv=>arg 3; whnf
        refine Ze rfl ?_ ?_
        ·conv=>arg 3; whnf
         refine Zp _ ZlX rfl fun x3 hx3=>?_
         conv=>arg 3; whnf
         refine Ze rfl ?_ ?_
         ·conv=>arg 3; whnf
          refine Zp _ Zk3 rfl fun x4 hx4=>?_
          conv=>arg 3; whnf
          refine Ze rfl ?_ ?_
          ·conv=>arg 3; whnf
           exact Zc rfl
          ·conv=>arg 3; whnf
           exact Zc rfl
         ·conv=>arg 3; whnf
          exact Zc rfl
        ·conv=>arg 3; whnf
         exact Zc rfl
       ·conv=>arg 3; whnf
        exact Zc rfl
      ·conv=>arg 3; whnf
       exact Zc rfl
def Zig (r:(List Int)):D:=(D.list true (List.map Zb r))
def ZgR (t0:Bool) (t1:Bool) (t2:Bool) (t3:Bool) (a:Zk) (b:Int) (s0:Int×(List Int)):(List Int)→Ex×List V×Zo
  | r=>(.exit 2,[(.d (Zb b)),(.ptr 0 0),(.sl 1 1),(.d (Zb s0.1))],[(.cells (dV t0 t1 t2 t3 a)),(.arr 1 (List.map Zb r))])
theorem Zj3 {t0:Bool} {t1:Bool} {t2:Bool} {t3:Bool} {a:Zk} {b:Int} {s0:Int×(List Int)}:∀(s1:Int×(List Int)) (r:(List Int)),lp (Zcd a b s0) s1=some r→lpW ctx 0 [1,2,5,6,7] [1,2,5,6] ZtL [(.d (Zb b)),(.ptr 0 0),(.sl 1 1),(.d (Zb s0.1)),(.d (Zb s1.1))] [(.cells (dV t0 t1 t2 t3 a)),(.arr 1 (List.map Zb s1.2))]=some ((ZgR t0 t1 t2 t3 a b s0) r):=by
 refine Zam (ZgR t0 t1 t2 t3 a b s0) ?_
 intro s1 rcl ih
 show ZM _ _ (lpW _ _ _ _ _ _ _)
 unfold Zcd
 rw[Zao]
 conv=>arg 3; whnf
 refine Zn (ZD _ _) ?_
 conv=>arg 3; whnf
 refine Ze rfl ?_ ?_
 ·conv=>arg 3; whnf
  refine Zl rfl rfl fun x2 hx2=>?_
  conv=>arg 3; whnf
  refine Ze rfl ?_ ?_
  ·conv=>arg 3; whnf
   refine Zg (Zbb rfl hx2) ?_
   conv=>arg 3; whnf
   refine Ze rfl ?_ ?_
   ·conv=>arg 3; whnf
    refine Zbs rfl ?_
    conv=>arg 3; whnf
    refine Ze (Zd5 Zb s1.2 1) ?_ ?_
    ·conv=>arg 3; whnf
     refine Zn (Zd4 Zb s1.2 [s1.1]) ?_
     conv=>arg 3; whnf
     exact Zf (ih _)
    ·exact Zac
   ·conv=>arg 3; whnf
    exact Zf (ih _)
  ·conv=>arg 3; whnf
   exact Zf (ih _)
 ·conv=>arg 3; whnf
  exact Zc rfl
def ZgP (t0:Bool) (t1:Bool) (t2:Bool) (t3:Bool) (a:Zk) (b:Int):(List Int)→Ex×List V×Zo
  | r=>(.exit 0,[(.sl 0 1)],[(.arr 1 (List.map Zb r))])
theorem Zj4 {t0:Bool} {t1:Bool} {t2:Bool} {t3:Bool} {a:Zk} {b:Int}:∀(s0:Int×(List Int)) (r:(List Int)),lp (Zd3 a b) s0=some r→lpW ctx 0 [1,2,5,6] [5] Zuc [(.d (Zb b)),(.ptr 0 0),(.sl 1 1),(.d (Zb s0.1))] [(.cells (dV t0 t1 t2 t3 a)),(.arr 1 (List.map Zb s0.2))]=some ((ZgP t0 t1 t2 t3 a b) r):=by
 refine Zam (ZgP t0 t1 t2 t3 a b) ?_
 intro s0 rcl ih
 show ZM _ _ (lpW _ _ _ _ _ _ _)
 unfold Zd3
 rw[Zao]
 conv=>arg 3; whnf
 refine Ze rfl ?_ ?_
 ·conv=>arg 3; whnf
  refine Zd _ (Zj3 _) fun r3 hr3=>?_
  conv=>arg 3; whnf
  exact Zf (ih _)
 ·conv=>arg 3; whnf
  exact Zc rfl
theorem Zht {t0:Bool} {t1:Bool} {t2:Bool} {t3:Bool} {a:Zk} {b:Int}:∀r,(Zdm a b)=some r→evD ctx 125 [(.d (D.agg (dA t0 t1 t2 t3 a))),(.d (Zb b))]=some (Zig r):=by
 show ZM _ (fun r rhs=>rhs=some (Zig r)) _
 unfold Zdm
 rw[ZaV ctx 125 Zwn _ rfl rfl]
 conv=>arg 3; whnf
 refine Zd _ (Zj4 _) fun r4 hr4=>?_
 conv=>arg 3; whnf
 exact Zc rfl
def Zj1 (r:(List Int)):D:=(D.list true (List.map Zb r))
def Zia (t0:Bool) (t1:Bool) (t2:Bool) (t3:Bool) (a:Zk) (b:Int) (x0:(List Int)):(Int×(List Int))→Ex×List V×Zo
  | r=>(.exit 0,[(.d (Zb b)),(.ptr 0 0),(.sl 1 1),(.d (Zb r.1))],[(.cells (dV t0 t1 t2 t3 a)),(.arr 1 (List.map Zb r.2))])
theorem Zk2 {t0:Bool} {t1:Bool} {t2:Bool} {t3:Bool} {a:Zk} {b:Int} {x0:(List Int)}:∀(s1:Int×Int×(List Int)) (r:(Int×(List Int))),lp (ZcQ a x0) s1=some r→lpW ctx 0 [1,2,5,6,7,8] [1,2,5,6] ZwK [(.d (Zb b)),(.ptr 0 0),(.sl 1 1),(.d (Zb s1.1)),(.d (D.list true (List.map Zb x0))),(.d (Zb s1.2.1))] [(.cells (dV t0 t1 t2 t3 a)),(.arr 1 (List.map Zb s1.2.2))]=some ((Zia t0 t1 t2 t3 a b x0) r):=by
 refine Zam (Zia t0 t1 t2 t3 a b x0) ?_
 intro s1 rcl ih
 show ZM _ _ (lpW _ _ _ _ _ _ _)
 unfold ZcQ
 rw[Zao]
 conv=>arg 3; whnf
 refine Zn (ZD _ _) ?_
 conv=>arg 3; whnf
 refine Ze rfl ?_ ?_
 ·conv=>arg 3; whnf
  refine Zl rfl rfl fun x2 hx2=>?_
  conv=>arg 3; whnf
  refine Zl rfl rfl fun x3 hx3=>?_
  conv=>arg 3; whnf
  refine Zbs rfl ?_
  conv=>arg 3; whnf
  refine Ze (Zd5 Zb s1.2.2 1) ?_ ?_
  ·conv=>arg 3; whnf
   refine Zn (Zd4 Zb s1.2.2 [(w64 (x3.pos-s1.1))]) ?_
   conv=>arg 3; whnf
   exact Zf (ih _)
  ·exact Zac
 ·conv=>arg 3; whnf
  exact Zc rfl
theorem Zjb {t0:Bool} {t1:Bool} {t2:Bool} {t3:Bool} {a:Zk} {b:Int}:∀r,(Ze2 a b)=some r→evD ctx 92 [(.d (D.agg (dA t0 t1 t2 t3 a))),(.d (Zb b))]=some (Zj1 r):=by
 show ZM _ (fun r rhs=>rhs=some (Zj1 r)) _
 unfold Ze2
 rw[ZaV ctx 92 Zy5 _ rfl rfl]
 conv=>arg 3; whnf
 refine Zp _ Zht rfl fun x0 hx0=>?_
 conv=>arg 3; whnf
 refine Zd _ (Zk2 _) fun r4 hr4=>?_
 conv=>arg 3; whnf
 refine Zl rfl rfl fun x5 hx5=>?_
 conv=>arg 3; whnf
 refine Zbs rfl ?_
 conv=>arg 3; whnf
 refine Ze (Zd5 Zb r4.2 1) ?_ ?_
 ·conv=>arg 3; whnf
  refine Zn (Zd4 Zb r4.2 [(w64 (x5.work-r4.1))]) ?_
  conv=>arg 3; whnf
  exact Zc rfl
 ·exact Zac
def ZjT (r:Int):D:=(Zb r)
def ZhU (t0:Bool) (t1:Bool) (t2:Bool) (t3:Bool) (a:Zk) (b:Int):Int→Ex×List V×Zo
  | r=>(.exit 0,[(.d (Zb r))],[])
theorem Zk4 {t0:Bool} {t1:Bool} {t2:Bool} {t3:Bool} {a:Zk} {b:Int}:∀(s0:Int×Int) (r:Int),lp (ZcI a b) s0=some r→lpW ctx 0 [1,2,5,6] [5] ZwJ [(.d (Zb b)),(.ptr 0 0),(.d (Zb s0.1)),(.d (Zb s0.2))] [(.cells (dV t0 t1 t2 t3 a))]=some ((ZhU t0 t1 t2 t3 a b) r):=by
 refine Zam (ZhU t0 t1 t2 t3 a b) ?_
 intro s0 rcl ih
 show ZM _ _ (lpW _ _ _ _ _ _ _)
 unfold ZcI
 rw[Zao]
 conv=>arg 3; whnf
 refine Ze rfl ?_ ?_
 ·conv=>arg 3; whnf
  refine Zp _ Zjb rfl fun x1 hx1=>?_
  conv=>arg 3; whnf
  refine Zn (ZD _ _) ?_
  conv=>arg 3; whnf
  exact Zf (ih _)
 ·conv=>arg 3; whnf
  exact Zc rfl
theorem ZdN {t0:Bool} {t1:Bool} {t2:Bool} {t3:Bool} {a:Zk} {b:Int}:∀r,(Zb7 a b)=some r→evD ctx 93 [(.d (D.agg (dA t0 t1 t2 t3 a))),(.d (Zb b))]=some (ZjT r):=by
 show ZM _ (fun r rhs=>rhs=some (ZjT r)) _
 unfold Zb7
 rw[ZaV ctx 93 ZzH _ rfl rfl]
 conv=>arg 3; whnf
 refine Zd _ (Zk4 _) fun r2 hr2=>?_
 conv=>arg 3; whnf
 exact Zc rfl
def Zj0 (r:Int):D:=(Zb r)
theorem Zgo {t0:Bool} {t1:Bool} {t2:Bool} {t3:Bool} {a:Zk} {b:Int}:∀r,(Zew a b)=some r→evD ctx 94 [(.d (D.agg (dA t0 t1 t2 t3 a))),(.d (Zb b))]=some (Zj0 r):=by
 show ZM _ (fun r rhs=>rhs=some (Zj0 r)) _
 unfold Zew
 rw[ZaV ctx 94 ZzW _ rfl rfl]
 conv=>arg 3; whnf
 refine Zp _ ZdN rfl fun x0 hx0=>?_
 conv=>arg 3; whnf
 exact Zc rfl
def ZjU (r:Int):D:=(Zb r)
def Zhu (t0:Bool) (t1:Bool) (t2:Bool) (t3:Bool) (a:Zk) (b:Zi) (x0:(List Int)):(Int⊕Unit)→Ex×List V×Zo
  | (.inl r)=>(.ret,[(.d (Zb r))],[])
  | (.inr r)=>(.exit 0,[.bad],[])
theorem Zk6 {t0:Bool} {t1:Bool} {t2:Bool} {t3:Bool} {a:Zk} {b:Zi} {x0:(List Int)}:∀(s1:Int) (r:(Int⊕Unit)),lp (ZdM a b x0) s1=some r→lpW ctx 0 [2,3,5,6] [4] Zwo [(.ptr 0 0),(.ptr 1 0),(.d (D.list true (List.map Zb x0))),(.d (Zb s1))] [(.cells (dV t0 t1 t2 t3 a)),(.cells [(.d (Zb b.maker)),(.d (Zb b.user)),(.d (Zb b.pos))])]=some ((Zhu t0 t1 t2 t3 a b x0) r):=by
 refine Zam (Zhu t0 t1 t2 t3 a b x0) ?_
 intro s1 rcl ih
 show ZM _ _ (lpW _ _ _ _ _ _ _)
 unfold ZdM
 rw[Zao]
 conv=>arg 3; whnf
 refine Zn (ZD _ _) ?_
 conv=>arg 3; whnf
 refine Ze rfl ?_ ?_
 ·conv=>arg 3; whnf
  refine Zl rfl rfl fun x2 hx2=>?_
  conv=>arg 3; whnf
  refine Zl rfl rfl fun x3 hx3=>?_
  conv=>arg 3; whnf
  refine Ze rfl ?_ ?_
  ·conv=>arg 3; whnf
   refine Zp _ ZdN rfl fun x4 hx4=>?_
   conv=>arg 3; whnf
   exact Zc rfl
  ·conv=>arg 3; whnf
   exact Zf (ih _)
 ·conv=>arg 3; whnf
  exact Zc rfl
theorem Znk {t0:Bool} {t1:Bool} {t2:Bool} {t3:Bool} {a:Zk} {b:Zi}:∀r,(ZfP a b)=some r→evD ctx 95 [(.d (D.agg (dA t0 t1 t2 t3 a))),(.d (D.agg [(Zb b.maker),(Zb b.user),(Zb b.pos)]))]=some (ZjU r):=by
 show ZM _ (fun r rhs=>rhs=some (ZjU r)) _
 unfold ZfP
 rw[ZaV ctx 95 ZzE _ rfl rfl]
 conv=>arg 3; whnf
 refine Zp _ Zht rfl fun x0 hx0=>?_
 conv=>arg 3; whnf
 refine Zd _ (Zk6 _) fun r5 hr5=>?_
 clear hr5
 rcases r5 with r5 | r5
 ·conv=>arg 3; whnf
  exact Zc rfl
 ·conv=>arg 3; whnf
  exact Zc rfl
def ZjX (r:Zg1):D:=(D.agg [(D.list true (List.map Zb r.dag.work)),(D.list true (List.map Zt r.dag.edges)),(D.list true (List.map Z8 r.pieces))])
def ZhA (t0:Bool) (t1:Bool) (t2:Bool) (t3:Bool) (a:Zk) (s0:Int×(List Zj)×(List Int)×(List Zh)) (x1:(List Int)):((List Zj)×(List Int)×(List Zh))→Ex×List V×Zo
  | r=>(.exit 2,[(.ptr 0 0),(.ptr 1 0),(.ptr 2 0),(.sl 3 2),(.d (Zb s0.1))],[(.cells (dV t0 t1 t2 t3 a)),(.cells [(.sl 4 1),(.sl 5 2),(.sl 6 2)]),(.cells [(.sl 7 1),(.sl 8 2),(.sl 9 2)]),(.arr 2 (List.map Zt r.1)),(.arr 1 []),(.arr 2 []),(.arr 2 []),(.arr 1 (List.map Zb r.2.1)),(.arr 2 []),(.arr 2 (List.map Z8 r.2.2))])
theorem Zlk {t0:Bool} {t1:Bool} {t2:Bool} {t3:Bool} {a:Zk} {s0:Int×(List Zj)×(List Int)×(List Zh)} {x1:(List Int)}:∀(s2:Int×(List Zj)×(List Int)×(List Zh)) (r:((List Zj)×(List Int)×(List Zh))),lp (ZcJ a s0 x1) s2=some r→lpW ctx 0 [1,2,3,4,5,6,7] [1,2,3,4,5] ZvO [(.ptr 0 0),(.ptr 1 0),(.ptr 2 0),(.sl 3 2),(.d (Zb s0.1)),(.d (D.list true (List.map Zb x1))),(.d (Zb s2.1))] [(.cells (dV t0 t1 t2 t3 a)),(.cells [(.sl 4 1),(.sl 5 2),(.sl 6 2)]),(.cells [(.sl 7 1),(.sl 8 2),(.sl 9 2)]),(.arr 2 (List.map Zt s2.2.1)),(.arr 1 []),(.arr 2 []),(.arr 2 []),(.arr 1 (List.map Zb s2.2.2.1)),(.arr 2 []),(.arr 2 (List.map Z8 s2.2.2.2))]=some ((ZhA t0 t1 t2 t3 a s0 x1) r):=by
 refine Zam (ZhA t0 t1 t2 t3 a s0 x1) ?_
 intro s2 rcl ih
 show ZM _ _ (lpW _ _ _ _ _ _ _)
 unfold ZcJ
 rw[Zao]
 conv=>arg 3; whnf
 refine Zn (ZD _ _) ?_
 conv=>arg 3; whnf
 refine Ze rfl ?_ ?_
 ·conv=>arg 3; whnf
  refine Zbs rfl ?_
  conv=>arg 3; whnf
  refine Ze (Zd5 Z8 s2.2.2.2 1) ?_ ?_
  ·conv=>arg 3; whnf
   refine Zn (Zd4 Z8 s2.2.2.2 [(Zh.mk s0.1 s2.1)]) ?_
   conv=>arg 3; whnf
   refine Zl rfl rfl fun x3 hx3=>?_
   conv=>arg 3; whnf
   refine Zbs rfl ?_
   conv=>arg 3; whnf
   refine Ze (Zd5 Zb s2.2.2.1 1) ?_ ?_
   ·conv=>arg 3; whnf
    refine Zn (Zd4 Zb s2.2.2.1 [x3]) ?_
    conv=>arg 3; whnf
    refine Ze rfl ?_ ?_
    ·conv=>arg 3; whnf
     refine Zp _ ZdN rfl fun x4 hx4=>?_
     conv=>arg 3; whnf
     refine Zp _ ZdN rfl fun x5 hx5=>?_
     conv=>arg 3; whnf
     refine Zbs rfl ?_
     conv=>arg 3; whnf
     refine Ze (Zd5 Zt s2.2.1 1) ?_ ?_
     ·conv=>arg 3; whnf
      refine Zn (Zd4 Zt s2.2.1 [(Zj.mk (w64 ((w64 (x4+s2.1))-1)) (w64 (x5+s2.1)))]) ?_
      conv=>arg 3; whnf
      exact Zf (ih _)
     ·exact Zac
    ·conv=>arg 3; whnf
     exact Zf (ih _)
   ·exact Zac
  ·exact Zac
 ·conv=>arg 3; whnf
  exact Zc rfl
def ZhW (t0:Bool) (t1:Bool) (t2:Bool) (t3:Bool) (a:Zk):((List Zj)×(List Int)×(List Zh))→Ex×List V×Zo
  | r=>(.exit 0,[(.ptr 0 0),(.ptr 1 0),(.ptr 2 0),(.sl 3 2)],[(.cells (dV t0 t1 t2 t3 a)),(.cells [(.sl 4 1),(.sl 5 2),(.sl 6 2)]),(.cells [(.sl 7 1),(.sl 8 2),(.sl 9 2)]),(.arr 2 (List.map Zt r.1)),(.arr 1 []),(.arr 2 []),(.arr 2 []),(.arr 1 (List.map Zb r.2.1)),(.arr 2 []),(.arr 2 (List.map Z8 r.2.2))])
theorem Zlo {t0:Bool} {t1:Bool} {t2:Bool} {t3:Bool} {a:Zk}:∀(s0:Int×(List Zj)×(List Int)×(List Zh)) (r:((List Zj)×(List Int)×(List Zh))),lp (ZcR a) s0=some r→lpW ctx 0 [1,2,3,4,5] [1,2,3,4] Zxz [(.ptr 0 0),(.ptr 1 0),(.ptr 2 0),(.sl 3 2),(.d (Zb s0.1))] [(.cells (dV t0 t1 t2 t3 a)),(.cells [(.sl 4 1),(.sl 5 2),(.sl 6 2)]),(.cells [(.sl 7 1),(.sl 8 2),(.sl 9 2)]),(.arr 2 (List.map Zt s0.2.1)),(.arr 1 []),(.arr 2 []),(.arr 2 []),(.arr 1 (List.map Zb s0.2.2.1)),(.arr 2 []),(.arr 2 (List.map Z8 s0.2.2.2))]=some ((ZhW t0 t1 t2 t3 a) r):=by
 refine Zam (ZhW t0 t1 t2 t3 a) ?_
 intro s0 rcl ih
 show ZM _ _ (lpW _ _ _ _ _ _ _)
 unfold ZcR
 rw[Zao]
 conv=>arg 3; whnf
 refine Zn (ZD _ _) ?_
 conv=>arg 3; whnf
 refine Ze rfl ?_ ?_
 ·conv=>arg 3; whnf
  refine Zp _ Zjb rfl fun x1 hx1=>?_
  conv=>arg 3; whnf
  refine Zd _ (Zlk _) fun r6 hr6=>?_
  conv=>arg 3; whnf
  exact Zf (ih _)
 ·conv=>arg 3; whnf
  exact Zc rfl
def Zhz (t0:Bool) (t1:Bool) (t2:Bool) (t3:Bool) (a:Zk) (r7:((List Zj)×(List Int)×(List Zh))):(List Zj)→Ex×List V×Zo
  | r=>(.exit 4,[(.ptr 0 0),(.ptr 1 0),(.ptr 2 0),(.sl 3 2)],[(.cells (dV t0 t1 t2 t3 a)),(.cells [(.sl 4 1),(.sl 5 2),(.sl 6 2)]),(.cells [(.sl 7 1),(.sl 8 2),(.sl 9 2)]),(.arr 2 (List.map Zt r)),(.arr 1 []),(.arr 2 []),(.arr 2 []),(.arr 1 (List.map Zb r7.2.1)),(.arr 2 []),(.arr 2 (List.map Z8 r7.2.2))])
theorem Zle {t0:Bool} {t1:Bool} {t2:Bool} {t3:Bool} {a:Zk} {r7:((List Zj)×(List Int)×(List Zh))}:∀(s8:Int×(List Zj)) (r:(List Zj)),lp (ZcO a) s8=some r→lpW ctx 0 [1,2,3,4,8] [1,2,3,4] ZwO [(.ptr 0 0),(.ptr 1 0),(.ptr 2 0),(.sl 3 2),(.d (Zb s8.1))] [(.cells (dV t0 t1 t2 t3 a)),(.cells [(.sl 4 1),(.sl 5 2),(.sl 6 2)]),(.cells [(.sl 7 1),(.sl 8 2),(.sl 9 2)]),(.arr 2 (List.map Zt s8.2)),(.arr 1 []),(.arr 2 []),(.arr 2 []),(.arr 1 (List.map Zb r7.2.1)),(.arr 2 []),(.arr 2 (List.map Z8 r7.2.2))]=some ((Zhz t0 t1 t2 t3 a r7) r):=by
 refine Zam (Zhz t0 t1 t2 t3 a r7) ?_
 intro s8 rcl ih
 show ZM _ _ (lpW _ _ _ _ _ _ _)
 unfold ZcO
 rw[Zao]
 conv=>arg 3; whnf
 refine Zn (ZD _ _) ?_
 conv=>arg 3; whnf
 refine Ze rfl ?_ ?_
 ·conv=>arg 3; whnf
  refine Zl rfl rfl fun x9 hx9=>?_
  conv=>arg 3; whnf
  refine Zp _ Zgo rfl fun x10 hx10=>?_
  conv=>arg 3; whnf
  refine Zg (Zbb rfl hx9) ?_
  conv=>arg 3; whnf
  refine Zp _ ZdN rfl fun x11 hx11=>?_
  conv=>arg 3; whnf
  refine Zbs rfl ?_
  conv=>arg 3; whnf
  refine Ze (Zd5 Zt s8.2 1) ?_ ?_
  ·conv=>arg 3; whnf
   refine Zn (Zd4 Zt s8.2 [(Zj.mk x10 x11)]) ?_
   conv=>arg 3; whnf
   exact Zf (ih _)
  ·exact Zac
 ·conv=>arg 3; whnf
  exact Zc rfl
def Zh3 (t0:Bool) (t1:Bool) (t2:Bool) (t3:Bool) (a:Zk) (r7:((List Zj)×(List Int)×(List Zh))):(List Zj)→Ex×List V×Zo
  | r=>(.exit 6,[(.ptr 0 0),(.ptr 1 0),(.ptr 2 0),(.sl 3 2)],[(.cells (dV t0 t1 t2 t3 a)),(.cells [(.sl 4 1),(.sl 5 2),(.sl 6 2)]),(.cells [(.sl 7 1),(.sl 8 2),(.sl 9 2)]),(.arr 2 (List.map Zt r)),(.arr 1 []),(.arr 2 []),(.arr 2 []),(.arr 1 (List.map Zb r7.2.1)),(.arr 2 []),(.arr 2 (List.map Z8 r7.2.2))])
theorem Zlg {t0:Bool} {t1:Bool} {t2:Bool} {t3:Bool} {a:Zk} {r7:((List Zj)×(List Int)×(List Zh))}:∀(s13:Int×(List Zj)) (r:(List Zj)),lp (ZcG a) s13=some r→lpW ctx 0 [1,2,3,4,9] [1,2,3,4] ZwD [(.ptr 0 0),(.ptr 1 0),(.ptr 2 0),(.sl 3 2),(.d (Zb s13.1))] [(.cells (dV t0 t1 t2 t3 a)),(.cells [(.sl 4 1),(.sl 5 2),(.sl 6 2)]),(.cells [(.sl 7 1),(.sl 8 2),(.sl 9 2)]),(.arr 2 (List.map Zt s13.2)),(.arr 1 []),(.arr 2 []),(.arr 2 []),(.arr 1 (List.map Zb r7.2.1)),(.arr 2 []),(.arr 2 (List.map Z8 r7.2.2))]=some ((Zh3 t0 t1 t2 t3 a r7) r):=by
 refine Zam (Zh3 t0 t1 t2 t3 a r7) ?_
 intro s13 rcl ih
 show ZM _ _ (lpW _ _ _ _ _ _ _)
 unfold ZcG
 rw[Zao]
 conv=>arg 3; whnf
 refine Zn (ZD _ _) ?_
 conv=>arg 3; whnf
 refine Ze rfl ?_ ?_
 ·conv=>arg 3; whnf
  refine Zl rfl rfl fun x14 hx14=>?_
  conv=>arg 3; whnf
  refine Zp _ Zgo rfl fun x15 hx15=>?_
  conv=>arg 3; whnf
  refine Zg (Zbb rfl hx14) ?_
  conv=>arg 3; whnf
  refine Zp _ Znk rfl fun x16 hx16=>?_
  conv=>arg 3; whnf
  refine Zbs rfl ?_
  conv=>arg 3; whnf
  refine Ze (Zd5 Zt s13.2 1) ?_ ?_
  ·conv=>arg 3; whnf
   refine Zn (Zd4 Zt s13.2 [(Zj.mk x15 x16)]) ?_
   conv=>arg 3; whnf
   exact Zf (ih _)
  ·exact Zac
 ·conv=>arg 3; whnf
  exact Zc rfl
def Zh6 (t0:Bool) (t1:Bool) (t2:Bool) (t3:Bool) (a:Zk) (s18:Int×(List Zj)×(List Int)×(List Zh)) (x19:Zr):(List Zj)→Ex×List V×Zo
  | r=>(.exit 10,[(.ptr 0 0),(.ptr 1 0),(.ptr 2 0),(.sl 3 2),(.d (Zb s18.1)),(.d (Zb (s18.2.2.2.length:Int))),(.ptr 4 0)],[(.cells (dV t0 t1 t2 t3 a)),(.cells [(.sl 5 1),(.sl 6 2),(.sl 7 2)]),(.cells [(.sl 8 1),(.sl 9 2),(.sl 10 2)]),(.arr 2 (List.map Zt r)),(.cells [(.d (D.list true (List.map Zb x19.ins))),(.d (D.list true (List.map Zb x19.outs)))]),(.arr 1 []),(.arr 2 []),(.arr 2 []),(.arr 1 (List.map Zb (s18.2.2.1++[1]))),(.arr 2 []),(.arr 2 (List.map Z8 (s18.2.2.2++[(Zh.mk (-1) s18.1)])))])
theorem Zlf {t0:Bool} {t1:Bool} {t2:Bool} {t3:Bool} {a:Zk} {s18:Int×(List Zj)×(List Int)×(List Zh)} {x19:Zr}:∀(s20:Int×(List Zj)) (r:(List Zj)),lp (ZdR a s18 x19) s20=some r→lpW ctx 0 [1,2,3,4,10,11,12,13] [1,2,3,4,10,11,12] ZvK [(.ptr 0 0),(.ptr 1 0),(.ptr 2 0),(.sl 3 2),(.d (Zb s18.1)),(.d (Zb (s18.2.2.2.length:Int))),(.ptr 4 0),(.d (Zb s20.1))] [(.cells (dV t0 t1 t2 t3 a)),(.cells [(.sl 5 1),(.sl 6 2),(.sl 7 2)]),(.cells [(.sl 8 1),(.sl 9 2),(.sl 10 2)]),(.arr 2 (List.map Zt s20.2)),(.cells [(.d (D.list true (List.map Zb x19.ins))),(.d (D.list true (List.map Zb x19.outs)))]),(.arr 1 []),(.arr 2 []),(.arr 2 []),(.arr 1 (List.map Zb (s18.2.2.1++[1]))),(.arr 2 []),(.arr 2 (List.map Z8 (s18.2.2.2++[(Zh.mk (-1) s18.1)])))]=some ((Zh6 t0 t1 t2 t3 a s18 x19) r):=by
 refine Zam (Zh6 t0 t1 t2 t3 a s18 x19) ?_
 intro s20 rcl ih
 show ZM _ _ (lpW _ _ _ _ _ _ _)
 unfold ZdR
 rw[Zao]
 conv=>arg 3; whnf
 refine Zn (ZD _ _) ?_
 conv=>arg 3; whnf
 refine Ze rfl ?_ ?_
 ·conv=>arg 3; whnf
  refine Zl rfl rfl fun x21 hx21=>?_
  conv=>arg 3; whnf
  refine Zp _ Zgo rfl fun x22 hx22=>?_
  conv=>arg 3; whnf
  refine Zbs rfl ?_
  conv=>arg 3; whnf
  refine Ze (Zd5 Zt s20.2 1) ?_ ?_
  ·conv=>arg 3; whnf
   refine Zn (Zd4 Zt s20.2 [(Zj.mk x22 (s18.2.2.2.length:Int))]) ?_
   conv=>arg 3; whnf
   exact Zf (ih _)
  ·exact Zac
 ·conv=>arg 3; whnf
  exact Zc rfl
def ZhE (t0:Bool) (t1:Bool) (t2:Bool) (t3:Bool) (a:Zk) (s18:Int×(List Zj)×(List Int)×(List Zh)) (x19:Zr):(List Zj)→Ex×List V×Zo
  | r=>(.exit 12,[(.ptr 0 0),(.ptr 1 0),(.ptr 2 0),(.sl 3 2),(.d (Zb s18.1))],[(.cells (dV t0 t1 t2 t3 a)),(.cells [(.sl 4 1),(.sl 5 2),(.sl 6 2)]),(.cells [(.sl 7 1),(.sl 8 2),(.sl 9 2)]),(.arr 2 (List.map Zt r)),(.arr 1 []),(.arr 2 []),(.arr 2 []),(.arr 1 (List.map Zb (s18.2.2.1++[1]))),(.arr 2 []),(.arr 2 (List.map Z8 (s18.2.2.2++[(Zh.mk (-1) s18.1)])))])
theorem Zlp {t0:Bool} {t1:Bool} {t2:Bool} {t3:Bool} {a:Zk} {s18:Int×(List Zj)×(List Int)×(List Zh)} {x19:Zr}:∀(s24:Int×(List Zj)) (r:(List Zj)),lp (Zdy a s18 x19) s24=some r→lpW ctx 0 [1,2,3,4,10,11,12,14] [1,2,3,4,10] Zwf [(.ptr 0 0),(.ptr 1 0),(.ptr 2 0),(.sl 3 2),(.d (Zb s18.1)),(.d (Zb (s18.2.2.2.length:Int))),(.ptr 4 0),(.d (Zb s24.1))] [(.cells (dV t0 t1 t2 t3 a)),(.cells [(.sl 5 1),(.sl 6 2),(.sl 7 2)]),(.cells [(.sl 8 1),(.sl 9 2),(.sl 10 2)]),(.arr 2 (List.map Zt s24.2)),(.cells [(.d (D.list true (List.map Zb x19.ins))),(.d (D.list true (List.map Zb x19.outs)))]),(.arr 1 []),(.arr 2 []),(.arr 2 []),(.arr 1 (List.map Zb (s18.2.2.1++[1]))),(.arr 2 []),(.arr 2 (List.map Z8 (s18.2.2.2++[(Zh.mk (-1) s18.1)])))]=some ((ZhE t0 t1 t2 t3 a s18 x19) r):=by
 refine Zam (ZhE t0 t1 t2 t3 a s18 x19) ?_
 intro s24 rcl ih
 show ZM _ _ (lpW _ _ _ _ _ _ _)
 unfold Zdy
 rw[Zao]
 conv=>arg 3; whnf
 refine Zn (ZD _ _) ?_
 conv=>arg 3; whnf
 refine Ze rfl ?_ ?_
 ·conv=>arg 3; whnf
  refine Zl rfl rfl fun x25 hx25=>?_
  conv=>arg 3; whnf
  refine Zp _ ZdN rfl fun x26 hx26=>?_
  conv=>arg 3; whnf
  refine Zbs rfl ?_
  conv=>arg 3; whnf
  refine Ze (Zd5 Zt s24.2 1) ?_ ?_
  ·conv=>arg 3; whnf
   refine Zn (Zd4 Zt s24.2 [(Zj.mk (s18.2.2.2.length:Int) x26)]) ?_
   conv=>arg 3; whnf
   exact Zf (ih _)
  ·exact Zac
 ·conv=>arg 3; whnf
  exact Zc rfl
def ZhY (t0:Bool) (t1:Bool) (t2:Bool) (t3:Bool) (a:Zk):((List Zj)×(List Int)×(List Zh))→Ex×List V×Zo
  | r=>(.exit 8,[(.ptr 0 0),(.ptr 1 0),(.sl 2 2)],[(.cells [(.sl 3 1),(.sl 4 2),(.sl 5 2)]),(.cells [(.sl 6 1),(.sl 7 2),(.sl 8 2)]),(.arr 2 (List.map Zt r.1)),(.arr 1 []),(.arr 2 []),(.arr 2 []),(.arr 1 (List.map Zb r.2.1)),(.arr 2 []),(.arr 2 (List.map Z8 r.2.2))])
theorem Zll {t0:Bool} {t1:Bool} {t2:Bool} {t3:Bool} {a:Zk}:∀(s18:Int×(List Zj)×(List Int)×(List Zh)) (r:((List Zj)×(List Int)×(List Zh))),lp (ZcE a) s18=some r→lpW ctx 0 [1,2,3,4,10] [2,3,4] ZvH [(.ptr 0 0),(.ptr 1 0),(.ptr 2 0),(.sl 3 2),(.d (Zb s18.1))] [(.cells (dV t0 t1 t2 t3 a)),(.cells [(.sl 4 1),(.sl 5 2),(.sl 6 2)]),(.cells [(.sl 7 1),(.sl 8 2),(.sl 9 2)]),(.arr 2 (List.map Zt s18.2.1)),(.arr 1 []),(.arr 2 []),(.arr 2 []),(.arr 1 (List.map Zb s18.2.2.1)),(.arr 2 []),(.arr 2 (List.map Z8 s18.2.2.2))]=some ((ZhY t0 t1 t2 t3 a) r):=by
 refine Zam (ZhY t0 t1 t2 t3 a) ?_
 intro s18 rcl ih
 show ZM _ _ (lpW _ _ _ _ _ _ _)
 unfold ZcE
 rw[Zao]
 conv=>arg 3; whnf
 refine Zn (ZD _ _) ?_
 conv=>arg 3; whnf
 refine Ze rfl ?_ ?_
 ·conv=>arg 3; whnf
  refine Zn (ZD _ _) ?_
  conv=>arg 3; whnf
  refine Zbs rfl ?_
  conv=>arg 3; whnf
  refine Ze (Zd5 Z8 s18.2.2.2 1) ?_ ?_
  ·conv=>arg 3; whnf
   refine Zn (Zd4 Z8 s18.2.2.2 [(Zh.mk (-1) s18.1)]) ?_
   conv=>arg 3; whnf
   refine Zbs rfl ?_
   conv=>arg 3; whnf
   refine Ze (Zd5 Zb s18.2.2.1 1) ?_ ?_
   ·conv=>arg 3; whnf
    refine Zn (Zd4 Zb s18.2.2.1 [1]) ?_
    conv=>arg 3; whnf
    refine Zl rfl rfl fun x19 hx19=>?_
    conv=>arg 3; whnf
    refine Zd _ (Zlf _) fun r23 hr23=>?_
    conv=>arg 3; whnf
    refine Zd _ (Zlp _) fun r27 hr27=>?_
    conv=>arg 3; whnf
    exact Zf (ih _)
   ·exact Zac
  ·exact Zac
 ·conv=>arg 3; whnf
  exact Zc rfl
theorem Zm4 {t0:Bool} {t1:Bool} {t2:Bool} {t3:Bool} {a:Zk}:∀r,(ZfE a)=some r→evD ctx 46 [(.d (D.agg (dA t0 t1 t2 t3 a)))]=some (ZjX r):=by
 show ZM _ (fun r rhs=>rhs=some (ZjX r)) _
 unfold ZfE
 rw[ZaV ctx 46 ZzD _ rfl rfl]
 conv=>arg 3; whnf
 refine Zd _ (Zlo _) fun r7 hr7=>?_
 conv=>arg 3; whnf
 refine Zd _ (Zle _) fun r12 hr12=>?_
 conv=>arg 3; whnf
 refine Zd _ (Zlg _) fun r17 hr17=>?_
 conv=>arg 3; whnf
 refine Zd _ (Zll _) fun r28 hr28=>?_
 conv=>arg 3; whnf
 exact Zc rfl
def Zke (r:Bool):D:=(D.bool r)
theorem ZjK {t0:Bool} {t1:Bool} {a:Zae} {b:Int}:∀r,(Zfr a b)=some r→evD ctx 126 [(.d (D.agg [(D.list t0 (List.map Zb a.work)),(D.list t1 (List.map Zt a.edges))])),(.d (Zb b))]=some (Zke r):=by
 show ZM _ (fun r rhs=>rhs=some (Zke r)) _
 unfold Zfr
 rw[ZaV ctx 126 ZwG _ rfl rfl]
 conv=>arg 3; whnf
 refine Ze rfl ?_ ?_
 ·conv=>arg 3; whnf
  refine Zn (ZD _ _) ?_
  conv=>arg 3; whnf
  refine Ze rfl ?_ ?_
  ·conv=>arg 3; whnf
   exact Zc rfl
  ·conv=>arg 3; whnf
   exact Zc rfl
 ·conv=>arg 3; whnf
  exact Zc rfl
def ZjV (r:Int):D:=(Zb r)
def ZhT (t0:Bool) (t1:Bool) (a:Zae):(Unit⊕Unit)→Ex×List V×Zo
  | (.inl r)=>(.ret,[(.ptr 0 0),(.d (Zb 41))],[(.cells [(.d (D.list t0 (List.map Zb a.work))),(.d (D.list t1 (List.map Zt a.edges)))])])
  | (.inr r)=>(.exit 0,[(.ptr 0 0),.bad],[(.cells [(.d (D.list t0 (List.map Zb a.work))),(.d (D.list t1 (List.map Zt a.edges)))])])
theorem Zlt {t0:Bool} {t1:Bool} {a:Zae}:∀(s0:Int) (r:(Unit⊕Unit)),lp (ZdA a) s0=some r→lpW ctx 0 [1,3] [1,2] Zvh [(.ptr 0 0),(.d (Zb s0))] [(.cells [(.d (D.list t0 (List.map Zb a.work))),(.d (D.list t1 (List.map Zt a.edges)))])]=some ((ZhT t0 t1 a) r):=by
 refine Zam (ZhT t0 t1 a) ?_
 intro s0 rcl ih
 show ZM _ _ (lpW _ _ _ _ _ _ _)
 unfold ZdA
 rw[Zao]
 conv=>arg 3; whnf
 refine Zn (ZD _ _) ?_
 conv=>arg 3; whnf
 refine Ze rfl ?_ ?_
 ·conv=>arg 3; whnf
  refine Zl rfl rfl fun x1 hx1=>?_
  conv=>arg 3; whnf
  refine Ze rfl ?_ ?_
  ·conv=>arg 3; whnf
   exact Zc rfl
  ·conv=>arg 3; whnf
   refine Zg (Zbb rfl hx1) ?_
   conv=>arg 3; whnf
   refine Ze rfl ?_ ?_
   ·conv=>arg 3; whnf
    exact Zc rfl
   ·conv=>arg 3; whnf
    exact Zf (ih _)
 ·conv=>arg 3; whnf
  exact Zc rfl
def ZhI (t0:Bool) (t1:Bool) (a:Zae) (s3:Int) (x4:Zj):(Unit⊕Unit)→Ex×List V×Zo
  | (.inl r)=>(.ret,[(.ptr 0 0),(.d (Zb 42)),(.d (Zb s3))],[(.cells [(.d (D.list t0 (List.map Zb a.work))),(.d (D.list t1 (List.map Zt a.edges)))])])
  | (.inr r)=>(.exit 4,[(.ptr 0 0),.bad,(.d (Zb s3))],[(.cells [(.d (D.list t0 (List.map Zb a.work))),(.d (D.list t1 (List.map Zt a.edges)))])])
theorem Zk8 {t0:Bool} {t1:Bool} {a:Zae} {s3:Int} {x4:Zj}:∀(s7:Int) (r:(Unit⊕Unit)),lp (ZdO a s3 x4) s7=some r→lpW ctx 0 [1,4,5,6] [1,2,4] ZwT [(.ptr 0 0),(.d (Zb s3)),(.ptr 1 0),(.d (Zb s7))] [(.cells [(.d (D.list t0 (List.map Zb a.work))),(.d (D.list t1 (List.map Zt a.edges)))]),(.cells [(.d (Zb x4.src)),(.d (Zb x4.dst))])]=some ((ZhI t0 t1 a s3 x4) r):=by
 refine Zam (ZhI t0 t1 a s3 x4) ?_
 intro s7 rcl ih
 show ZM _ _ (lpW _ _ _ _ _ _ _)
 unfold ZdO
 rw[Zao]
 conv=>arg 3; whnf
 refine Ze rfl ?_ ?_
 ·conv=>arg 3; whnf
  refine Zl rfl rfl fun x8 hx8=>?_
  conv=>arg 3; whnf
  refine Ze rfl ?_ ?_
  ·conv=>arg 3; whnf
   exact Zc rfl
  ·conv=>arg 3; whnf
   exact Zf (ih _)
 ·conv=>arg 3; whnf
  exact Zc rfl
def ZhR (t0:Bool) (t1:Bool) (a:Zae):(Unit⊕Unit)→Ex×List V×Zo
  | (.inl r)=>(.ret,[(.d (Zb 42))],[])
  | (.inr r)=>(.exit 2,[.bad],[])
theorem Zlm {t0:Bool} {t1:Bool} {a:Zae}:∀(s3:Int) (r:(Unit⊕Unit)),lp (ZdD a) s3=some r→lpW ctx 0 [1,4] [2] ZwH [(.ptr 0 0),(.d (Zb s3))] [(.cells [(.d (D.list t0 (List.map Zb a.work))),(.d (D.list t1 (List.map Zt a.edges)))])]=some ((ZhR t0 t1 a) r):=by
 refine Zam (ZhR t0 t1 a) ?_
 intro s3 rcl ih
 show ZM _ _ (lpW _ _ _ _ _ _ _)
 unfold ZdD
 rw[Zao]
 conv=>arg 3; whnf
 refine Zn (ZD _ _) ?_
 conv=>arg 3; whnf
 refine Ze rfl ?_ ?_
 ·conv=>arg 3; whnf
  refine Zl rfl rfl fun x4 hx4=>?_
  conv=>arg 3; whnf
  refine Zp _ ZjK rfl fun x5 hx5=>?_
  conv=>arg 3; whnf
  refine Ze rfl ?_ ?_
  ·conv=>arg 3; whnf
   refine Zp _ ZjK rfl fun x6 hx6=>?_
   conv=>arg 3; whnf
   refine Ze rfl ?_ ?_
   ·conv=>arg 3; whnf
    refine Ze rfl ?_ ?_
    ·conv=>arg 3; whnf
     exact Zc rfl
    ·conv=>arg 3; whnf
     refine Zd _ (Zk8 _) fun r9 hr9=>?_
     clear hr9
     rcases r9 with r9 | r9
     ·conv=>arg 3; whnf
      exact Zc rfl
     ·conv=>arg 3; whnf
      exact Zf (ih _)
   ·conv=>arg 3; whnf
    exact Zc rfl
  ·conv=>arg 3; whnf
   exact Zc rfl
 ·conv=>arg 3; whnf
  exact Zc rfl
theorem Znt {t0:Bool} {t1:Bool} {a:Zae}:∀r,(ZfJ a)=some r→evD ctx 96 [(.d (D.agg [(D.list t0 (List.map Zb a.work)),(D.list t1 (List.map Zt a.edges))]))]=some (ZjV r):=by
 show ZM _ (fun r rhs=>rhs=some (ZjV r)) _
 unfold ZfJ
 rw[ZaV ctx 96 Zzn _ rfl rfl]
 conv=>arg 3; whnf
 refine Zn (ZD _ _) ?_
 conv=>arg 3; whnf
 refine Ze rfl ?_ ?_
 ·conv=>arg 3; whnf
  exact Zc rfl
 ·conv=>arg 3; whnf
  refine Zn (ZD _ _) ?_
  conv=>arg 3; whnf
  refine Ze rfl ?_ ?_
  ·conv=>arg 3; whnf
   exact Zc rfl
  ·conv=>arg 3; whnf
   refine Zd _ (Zlt _) fun r2 hr2=>?_
   clear hr2
   rcases r2 with r2 | r2
   ·conv=>arg 3; whnf
    exact Zc rfl
   ·conv=>arg 3; whnf
    refine Zd _ (Zlm _) fun r10 hr10=>?_
    clear hr10
    rcases r10 with r10 | r10
    ·conv=>arg 3; whnf
     exact Zc rfl
    ·conv=>arg 3; whnf
     exact Zc rfl
def ZjP (r:(List Bool)):D:=(D.list true (List.map D.bool r))
def Zh7 (t0:Bool) (t1:Bool) (a:Zae) (b:Int) (s0:Int×(List Bool)):(List Bool)→Ex×List V×Zo
  | r=>(.exit 2,[(.d (Zb b)),(.ptr 0 0),(.sl 1 1),(.d (Zb s0.1))],[(.cells [(.d (D.list t0 (List.map Zb a.work))),(.d (D.list t1 (List.map Zt a.edges)))]),(.arr 1 (List.map D.bool r))])
theorem Zk5 {t0:Bool} {t1:Bool} {a:Zae} {b:Int} {s0:Int×(List Bool)}:∀(s1:Int×(List Bool)) (r:(List Bool)),lp (ZcT a b) s1=some r→lpW ctx 0 [1,2,5,6,7] [1,2,5,6] Zvb [(.d (Zb b)),(.ptr 0 0),(.sl 1 1),(.d (Zb s0.1)),(.d (Zb s1.1))] [(.cells [(.d (D.list t0 (List.map Zb a.work))),(.d (D.list t1 (List.map Zt a.edges)))]),(.arr 1 (List.map D.bool s1.2))]=some ((Zh7 t0 t1 a b s0) r):=by
 refine Zam (Zh7 t0 t1 a b s0) ?_
 intro s1 rcl ih
 show ZM _ _ (lpW _ _ _ _ _ _ _)
 unfold ZcT
 rw[Zao]
 conv=>arg 3; whnf
 refine Zn (ZD _ _) ?_
 conv=>arg 3; whnf
 refine Ze rfl ?_ ?_
 ·conv=>arg 3; whnf
  refine Zl rfl rfl fun x2 hx2=>?_
  conv=>arg 3; whnf
  refine Ze rfl ?_ ?_
  ·conv=>arg 3; whnf
   refine Zl rfl rfl fun x3 hx3=>?_
   conv=>arg 3; whnf
   refine Zg (ZA rfl hx3) ?_
   conv=>arg 3; whnf
   refine Zn (ZaM D.bool s1.2 x2.dst.toNat true) ?_
   conv=>arg 3; whnf
   exact Zf (ih _)
  ·conv=>arg 3; whnf
   refine Zl rfl rfl fun x4 hx4=>?_
   conv=>arg 3; whnf
   refine Zg (ZA rfl hx4) ?_
   conv=>arg 3; whnf
   refine Ze rfl ?_ ?_
   ·conv=>arg 3; whnf
    refine Zl rfl rfl fun x5 hx5=>?_
    conv=>arg 3; whnf
    refine Zg (ZA rfl hx5) ?_
    conv=>arg 3; whnf
    refine Zn (ZaM D.bool s1.2 x2.dst.toNat true) ?_
    conv=>arg 3; whnf
    exact Zf (ih _)
   ·conv=>arg 3; whnf
    exact Zf (ih _)
 ·conv=>arg 3; whnf
  exact Zc rfl
def ZhP (t0:Bool) (t1:Bool) (a:Zae) (b:Int):(List Bool)→Ex×List V×Zo
  | r=>(.exit 0,[(.sl 0 1)],[(.arr 1 (List.map D.bool r))])
theorem Zk7 {t0:Bool} {t1:Bool} {a:Zae} {b:Int}:∀(s0:Int×(List Bool)) (r:(List Bool)),lp (ZcH a b) s0=some r→lpW ctx 0 [1,2,5,6] [5] Zw4 [(.d (Zb b)),(.ptr 0 0),(.sl 1 1),(.d (Zb s0.1))] [(.cells [(.d (D.list t0 (List.map Zb a.work))),(.d (D.list t1 (List.map Zt a.edges)))]),(.arr 1 (List.map D.bool s0.2))]=some ((ZhP t0 t1 a b) r):=by
 refine Zam (ZhP t0 t1 a b) ?_
 intro s0 rcl ih
 show ZM _ _ (lpW _ _ _ _ _ _ _)
 unfold ZcH
 rw[Zao]
 conv=>arg 3; whnf
 refine Zn (ZD _ _) ?_
 conv=>arg 3; whnf
 refine Ze rfl ?_ ?_
 ·conv=>arg 3; whnf
  refine Zd _ (Zk5 _) fun r6 hr6=>?_
  conv=>arg 3; whnf
  exact Zf (ih _)
 ·conv=>arg 3; whnf
  exact Zc rfl
theorem Zno {t0:Bool} {t1:Bool} {a:Zae} {b:Int}:∀r,(ZfO a b)=some r→evD ctx 97 [(.d (D.agg [(D.list t0 (List.map Zb a.work)),(D.list t1 (List.map Zt a.edges))])),(.d (Zb b))]=some (ZjP r):=by
 show ZM _ (fun r rhs=>rhs=some (ZjP r)) _
 unfold ZfO
 rw[ZaV ctx 97 Zzz _ rfl rfl]
 conv=>arg 3; whnf
 refine Zn (ZD _ _) ?_
 conv=>arg 3; whnf
 refine Ze rfl ?_ ?_
 ·conv=>arg 3; whnf
  refine Zn (ZtQ D.bool (false:Bool) (a.work.length:Int)) ?_
  conv=>arg 3; whnf
  refine Zd _ (Zk7 _) fun r7 hr7=>?_
  conv=>arg 3; whnf
  exact Zc rfl
 ·exact Zac
def ZjZ (r:Int):D:=(Zb r)
def ZhG (t0:Bool) (t1:Bool) (a:Zae):(Unit⊕Unit)→Ex×List V×Zo
  | (.inl r)=>(.ret,[(.d (Zb 43))],[])
  | (.inr r)=>(.exit 0,[.bad],[])
theorem Zld {t0:Bool} {t1:Bool} {a:Zae}:∀(s1:Int) (r:(Unit⊕Unit)),lp (ZdI a) s1=some r→lpW ctx 0 [1,4] [2] Zxj [(.ptr 0 0),(.d (Zb s1))] [(.cells [(.d (D.list t0 (List.map Zb a.work))),(.d (D.list t1 (List.map Zt a.edges)))])]=some ((ZhG t0 t1 a) r):=by
 refine Zam (ZhG t0 t1 a) ?_
 intro s1 rcl ih
 show ZM _ _ (lpW _ _ _ _ _ _ _)
 unfold ZdI
 rw[Zao]
 conv=>arg 3; whnf
 refine Zn (ZD _ _) ?_
 conv=>arg 3; whnf
 refine Ze rfl ?_ ?_
 ·conv=>arg 3; whnf
  refine Zp _ Zno rfl fun x2 hx2=>?_
  conv=>arg 3; whnf
  refine Zl rfl rfl fun x3 hx3=>?_
  conv=>arg 3; whnf
  refine Ze rfl ?_ ?_
  ·conv=>arg 3; whnf
   exact Zc rfl
  ·conv=>arg 3; whnf
   exact Zf (ih _)
 ·conv=>arg 3; whnf
  exact Zc rfl
theorem Znf {t0:Bool} {t1:Bool} {a:Zae}:∀r,(ZfD a)=some r→evD ctx 47 [(.d (D.agg [(D.list t0 (List.map Zb a.work)),(D.list t1 (List.map Zt a.edges))]))]=some (ZjZ r):=by
 show ZM _ (fun r rhs=>rhs=some (ZjZ r)) _
 unfold ZfD
 rw[ZaV ctx 47 Zy6 _ rfl rfl]
 conv=>arg 3; whnf
 refine Zp _ Znt rfl fun x0 hx0=>?_
 conv=>arg 3; whnf
 refine Ze rfl ?_ ?_
 ·conv=>arg 3; whnf
  exact Zc rfl
 ·conv=>arg 3; whnf
  refine Zd _ (Zld _) fun r4 hr4=>?_
  clear hr4
  rcases r4 with r4 | r4
  ·conv=>arg 3; whnf
   exact Zc rfl
  ·conv=>arg 3; whnf
   exact Zc rfl
def ZjL (r:(Zg1×Int)):D:=(D.tup [(D.agg [(D.list true (List.map Zb r.1.dag.work)),(D.list true (List.map Zt r.1.dag.edges)),(D.list true (List.map Z8 r.1.pieces))]),(Zb r.2)])
theorem Znj {t0:Bool} {t1:Bool} {t2:Bool} {t3:Bool} {a:Zk}:∀r,(ZfB a)=some r→evD ctx 18 [(.d (D.agg (dA t0 t1 t2 t3 a)))]=some (ZjL r):=by
 show ZM _ (fun r rhs=>rhs=some (ZjL r)) _
 unfold ZfB
 rw[ZaV ctx 18 ZAb _ rfl rfl]
 conv=>arg 3; whnf
 refine Zp _ Znh rfl fun x0 hx0=>?_
 conv=>arg 3; whnf
 refine Ze rfl ?_ ?_
 ·conv=>arg 3; whnf
  exact Zc rfl
 ·conv=>arg 3; whnf
  refine Zp _ Zm4 rfl fun x1 hx1=>?_
  conv=>arg 3; whnf
  refine Zp _ Znf rfl fun x2 hx2=>?_
  conv=>arg 3; whnf
  refine Ze rfl ?_ ?_
  ·conv=>arg 3; whnf
   exact Zc rfl
  ·conv=>arg 3; whnf
   exact Zc rfl
def ZkJ (r:Bool):D:=(D.bool r)
def Zic (t0:Bool) (t1:Bool) (t2:Bool) (t3:Bool) (a:Zae) (b:Zae):(Unit⊕Unit)→Ex×List V×Zo
  | (.inl r)=>(.ret,[(.ptr 0 0),(.ptr 1 0),(.d (D.bool false))],[(.cells [(.d (D.list t0 (List.map Zb a.work))),(.d (D.list t1 (List.map Zt a.edges)))]),(.cells [(.d (D.list t2 (List.map Zb b.work))),(.d (D.list t3 (List.map Zt b.edges)))])])
  | (.inr r)=>(.exit 0,[(.ptr 0 0),(.ptr 1 0),.bad],[(.cells [(.d (D.list t0 (List.map Zb a.work))),(.d (D.list t1 (List.map Zt a.edges)))]),(.cells [(.d (D.list t2 (List.map Zb b.work))),(.d (D.list t3 (List.map Zt b.edges)))])])
theorem ZlW {t0:Bool} {t1:Bool} {t2:Bool} {t3:Bool} {a:Zae} {b:Zae}:∀(s0:Int) (r:(Unit⊕Unit)),lp (Zee a b) s0=some r→lpW ctx 0 [2,3,5] [2,3,4] ZxI [(.ptr 0 0),(.ptr 1 0),(.d (Zb s0))] [(.cells [(.d (D.list t0 (List.map Zb a.work))),(.d (D.list t1 (List.map Zt a.edges)))]),(.cells [(.d (D.list t2 (List.map Zb b.work))),(.d (D.list t3 (List.map Zt b.edges)))])]=some ((Zic t0 t1 t2 t3 a b) r):=by
 refine Zam (Zic t0 t1 t2 t3 a b) ?_
 intro s0 rcl ih
 show ZM _ _ (lpW _ _ _ _ _ _ _)
 unfold Zee
 rw[Zao]
 conv=>arg 3; whnf
 refine Zn (ZD _ _) ?_
 conv=>arg 3; whnf
 refine Ze rfl ?_ ?_
 ·conv=>arg 3; whnf
  refine Zl rfl rfl fun x1 hx1=>?_
  conv=>arg 3; whnf
  refine Zl rfl rfl fun x2 hx2=>?_
  conv=>arg 3; whnf
  refine Ze rfl ?_ ?_
  ·conv=>arg 3; whnf
   exact Zc rfl
  ·conv=>arg 3; whnf
   exact Zf (ih _)
 ·conv=>arg 3; whnf
  exact Zc rfl
def Zij (t0:Bool) (t1:Bool) (t2:Bool) (t3:Bool) (a:Zae) (b:Zae):(Unit⊕Unit)→Ex×List V×Zo
  | (.inl r)=>(.ret,[(.d (D.bool false))],[])
  | (.inr r)=>(.exit 2,[.bad],[])
theorem Zl8 {t0:Bool} {t1:Bool} {t2:Bool} {t3:Bool} {a:Zae} {b:Zae}:∀(s4:Int) (r:(Unit⊕Unit)),lp (Zeb a b) s4=some r→lpW ctx 0 [2,3,6] [4] Zv2 [(.ptr 0 0),(.ptr 1 0),(.d (Zb s4))] [(.cells [(.d (D.list t0 (List.map Zb a.work))),(.d (D.list t1 (List.map Zt a.edges)))]),(.cells [(.d (D.list t2 (List.map Zb b.work))),(.d (D.list t3 (List.map Zt b.edges)))])]=some ((Zij t0 t1 t2 t3 a b) r):=by
 refine Zam (Zij t0 t1 t2 t3 a b) ?_
 intro s4 rcl ih
 show ZM _ _ (lpW _ _ _ _ _ _ _)
 unfold Zeb
 rw[Zao]
 conv=>arg 3; whnf
 refine Zn (ZD _ _) ?_
 conv=>arg 3; whnf
 refine Ze rfl ?_ ?_
 ·conv=>arg 3; whnf
  refine Zl rfl rfl fun x5 hx5=>?_
  conv=>arg 3; whnf
  refine Zl rfl rfl fun x6 hx6=>?_
  conv=>arg 3; whnf
  refine Ze rfl ?_ ?_
  ·conv=>arg 3; whnf
   exact Zc rfl
  ·conv=>arg 3; whnf
   exact Zf (ih _)
 ·conv=>arg 3; whnf
  exact Zc rfl
theorem ZnO {t0:Bool} {t1:Bool} {t2:Bool} {t3:Bool} {a:Zae} {b:Zae}:∀r,(Zf8 a b)=some r→evD ctx 48 [(.d (D.agg [(D.list t0 (List.map Zb a.work)),(D.list t1 (List.map Zt a.edges))])),(.d (D.agg [(D.list t2 (List.map Zb b.work)),(D.list t3 (List.map Zt b.edges))]))]=some (ZkJ r):=by
 show ZM _ (fun r rhs=>rhs=some (ZkJ r)) _
 unfold Zf8
 rw[ZaV ctx 48 ZzJ _ rfl rfl]
 conv=>arg 3; whnf
 refine Zn (ZD _ _) ?_
 conv=>arg 3; whnf
 refine Zn (ZD _ _) ?_
 conv=>arg 3; whnf
 refine Ze rfl ?_ ?_
 ·conv=>arg 3; whnf
  exact Zc rfl
 ·conv=>arg 3; whnf
  refine Zn (ZD _ _) ?_
  conv=>arg 3; whnf
  refine Zn (ZD _ _) ?_
  conv=>arg 3; whnf
  refine Ze rfl ?_ ?_
  ·conv=>arg 3; whnf
   exact Zc rfl
  ·conv=>arg 3; whnf
   refine Zd _ (ZlW _) fun r3 hr3=>?_
   clear hr3
   rcases r3 with r3 | r3
   ·conv=>arg 3; whnf
    exact Zc rfl
   ·conv=>arg 3; whnf
    refine Zd _ (Zl8 _) fun r7 hr7=>?_
    clear hr7
    rcases r7 with r7 | r7
    ·conv=>arg 3; whnf
     exact Zc rfl
    ·conv=>arg 3; whnf
     exact Zc rfl
def Zkc (r:Bool):D:=(D.bool r)
def Zin (t0:Bool) (t1:Bool) (t2:Bool) (t3:Bool) (t4:Bool) (t5:Bool) (a:Zg1) (b:Zg1):(Unit⊕Unit)→Ex×List V×Zo
  | (.inl r)=>(.ret,[(.ptr 0 0),(.ptr 1 0),(.d (D.bool false))],[(.cells [(.d (D.list t0 (List.map Zb a.dag.work))),(.d (D.list t1 (List.map Zt a.dag.edges))),(.d (D.list t2 (List.map Z8 a.pieces)))]),(.cells [(.d (D.list t3 (List.map Zb b.dag.work))),(.d (D.list t4 (List.map Zt b.dag.edges))),(.d (D.list t5 (List.map Z8 b.pieces)))])])
  | (.inr r)=>(.exit 0,[(.ptr 0 0),(.ptr 1 0),.bad],[(.cells [(.d (D.list t0 (List.map Zb a.dag.work))),(.d (D.list t1 (List.map Zt a.dag.edges))),(.d (D.list t2 (List.map Z8 a.pieces)))]),(.cells [(.d (D.list t3 (List.map Zb b.dag.work))),(.d (D.list t4 (List.map Zt b.dag.edges))),(.d (D.list t5 (List.map Z8 b.pieces)))])])
theorem Zme {t0:Bool} {t1:Bool} {t2:Bool} {t3:Bool} {t4:Bool} {t5:Bool} {a:Zg1} {b:Zg1}:∀(s0:Int) (r:(Unit⊕Unit)),lp (Zec a b) s0=some r→lpW ctx 0 [2,3,5] [2,3,4] Zw6 [(.ptr 0 0),(.ptr 1 0),(.d (Zb s0))] [(.cells [(.d (D.list t0 (List.map Zb a.dag.work))),(.d (D.list t1 (List.map Zt a.dag.edges))),(.d (D.list t2 (List.map Z8 a.pieces)))]),(.cells [(.d (D.list t3 (List.map Zb b.dag.work))),(.d (D.list t4 (List.map Zt b.dag.edges))),(.d (D.list t5 (List.map Z8 b.pieces)))])]=some ((Zin t0 t1 t2 t3 t4 t5 a b) r):=by
 refine Zam (Zin t0 t1 t2 t3 t4 t5 a b) ?_
 intro s0 rcl ih
 show ZM _ _ (lpW _ _ _ _ _ _ _)
 unfold Zec
 rw[Zao]
 conv=>arg 3; whnf
 refine Zn (ZD _ _) ?_
 conv=>arg 3; whnf
 refine Ze rfl ?_ ?_
 ·conv=>arg 3; whnf
  refine Zl rfl rfl fun x1 hx1=>?_
  conv=>arg 3; whnf
  refine Zl rfl rfl fun x2 hx2=>?_
  conv=>arg 3; whnf
  refine Ze rfl ?_ ?_
  ·conv=>arg 3; whnf
   exact Zc rfl
  ·conv=>arg 3; whnf
   exact Zf (ih _)
 ·conv=>arg 3; whnf
  exact Zc rfl
theorem ZnS {t0:Bool} {t1:Bool} {t2:Bool} {t3:Bool} {t4:Bool} {t5:Bool} {a:Zg1} {b:Zg1}:∀r,(Zf3 a b)=some r→evD ctx 19 [(.d (D.agg [(D.list t0 (List.map Zb a.dag.work)),(D.list t1 (List.map Zt a.dag.edges)),(D.list t2 (List.map Z8 a.pieces))])),(.d (D.agg [(D.list t3 (List.map Zb b.dag.work)),(D.list t4 (List.map Zt b.dag.edges)),(D.list t5 (List.map Z8 b.pieces))]))]=some (Zkc r):=by
 show ZM _ (fun r rhs=>rhs=some (Zkc r)) _
 unfold Zf3
 rw[ZaV ctx 19 Zy4 _ rfl rfl]
 conv=>arg 3; whnf
 refine Zn (ZD _ _) ?_
 conv=>arg 3; whnf
 refine Zn (ZD _ _) ?_
 conv=>arg 3; whnf
 refine Ze rfl ?_ ?_
 ·conv=>arg 3; whnf
  exact Zc rfl
 ·conv=>arg 3; whnf
  refine Zd _ (Zme _) fun r3 hr3=>?_
  clear hr3
  rcases r3 with r3 | r3
  ·conv=>arg 3; whnf
   exact Zc rfl
  ·conv=>arg 3; whnf
   refine Zp _ ZnO rfl fun x4 hx4=>?_
   conv=>arg 3; whnf
   refine Ze rfl ?_ ?_
   ·conv=>arg 3; whnf
    exact Zc rfl
   ·conv=>arg 3; whnf
    exact Zc rfl
def Zhp (r:Bool):D:=(D.bool r)
theorem Zlq {t0:Bool} {t1:Bool} {t2:Bool} {t3:Bool} {a:Zk}:∀r,(Zfu a)=some r→evD ctx 3 [(.d (D.agg (dA t0 t1 t2 t3 a)))]=some (Zhp r):=by
 show ZM _ (fun r rhs=>rhs=some (Zhp r)) _
 unfold Zfu
 rw[ZaV ctx 3 fn3 _ rfl rfl]
 conv=>arg 3; whnf
 refine Zp _ ZgA rfl fun x0 hx0=>?_
 conv=>arg 3; whnf
 refine Ze rfl ?_ ?_
 ·conv=>arg 3; whnf
  refine Zp _ Zo9 rfl fun x1 hx1=>?_
  conv=>arg 3; whnf
  refine Ze rfl ?_ ?_
  ·conv=>arg 3; whnf
   refine Zd _ Zoz fun x2 hx2=>?_
   conv=>arg 3; whnf
   refine Zp _ Zng rfl fun x3 hx3=>?_
   conv=>arg 3; whnf
   refine Zp _ Znj rfl fun x4 hx4=>?_
   conv=>arg 3; whnf
   refine Zp _ ZnS rfl fun x5 hx5=>?_
   conv=>arg 3; whnf
   refine Ze rfl ?_ ?_
   ·conv=>arg 3; whnf
    refine Ze rfl ?_ ?_
    ·conv=>arg 3; whnf
     exact Zc rfl
    ·conv=>arg 3; whnf
     exact Zc rfl
   ·conv=>arg 3; whnf
    exact Zc rfl
  ·conv=>arg 3; whnf
   refine Zp _ ZgA rfl fun x6 hx6=>?_
   conv=>arg 3; whnf
   refine Ze rfl ?_ ?_
   ·conv=>arg 3; whnf
    exact Zc rfl
   ·conv=>arg 3; whnf
    exact Zc rfl
 ·conv=>arg 3; whnf
  refine Zp _ ZgA rfl fun x7 hx7=>?_
  conv=>arg 3; whnf
  refine Ze rfl ?_ ?_
  ·conv=>arg 3; whnf
   exact Zc rfl
  ·conv=>arg 3; whnf
   exact Zc rfl
end Go.Proofs.YtljgncbdagmeeaaDoor
namespace Go.Proofs.YtljgncbdagmeeaaDoor
open Go Go.Proofs.YtljgncbdagmeeaaDoorE
abbrev ZrA:List Lf×Bool:=([.int .i64,.int .i64,.sl true [.int .i64,.int .i64,.int .i64],.sl true [.int .i64,.int .i64],.sl true [.int .i64,.int .i64,.int .i64],.sl true [.sl false [.int .i64],.sl false [.int .i64]]],true)
end Go.Proofs.YtljgncbdagmeeaaDoor
namespace Go.Proofs.YtljgncbdagmeeaaDoor
open Go Go.Proofs.YtljgncbdagmeeaaDoorE
set_option linter.unusedVariables false
set_option linter.unusedSimpArgs false
theorem ZsI {d:Zk} (hz:ZiM d):(Zro d).1.dag.work.length<9223372036854775808∧(Zro d).1.dag.edges.length<9223372036854775808∧(Zro d).1.pieces.length<9223372036854775808:=by
 unfold Zro
 by_cases hc:ZfX d=0
 ·rw[hc]
  have g:=ZoA hc
  have hs:=Zkq g hz
  have hbl:=g.bl
  have hF:=ZdF g d.parts.length
  have hpl:=g.pl
  by_cases hk:Zjq (ZkK d).dag=0
  ·rw[hk]
   refine⟨hs.w,hs.e,?_⟩
   show(ZlR d).length<_
   unfold ZlR
   rw[List.length_append,Zen,Zkb]
   omega
  ·rw[beq_false_of_ne hk]
   simp
 ·rw[beq_false_of_ne hc]
  simp
theorem Zqq (d:Zk):Zfu d=some true:=by
 have aw:Zfz=some true:=rfl
 unfold Zfu
 simp only[aw,cond_true,ZAq,Option.bind_some]
 cases hf:few d with
 | false=>rfl
 | true=>
  have hz:=Zuo hf
  obtain⟨h1,h2,h3⟩:=ZsI hz
  simp only[cond_true,ZBX d hz,Option.bind_some,show Zk.mk d.period d.deadline d.parts d.edges d.futures d.barriers=d from rfl,Zx9 hz,ZsG hz,ZrW _ _ h1 h2 h3,decide_true,Bool.and_self,beq_self_eq_true]
theorem Zrc (xs:List D) (h:Zhr ZrA.1 xs) :
  ∃H',evW ctx 3 (ZcD [Zx7 ZrA.2 xs]) []=some (.d (.bool true),H'):=by
 obtain⟨d,hd,_⟩:=ZxL h
 show ∃H',evW ctx 3 [.d (D.agg xs)] []=_
 rw[hd]
 exact Zxy (Zlq true (Zqq d))
end Go.Proofs.YtljgncbdagmeeaaDoor
namespace Go.Proofs.YtljgncbdagmeeaaDoor.LawLowTells
open Go.ChangeShapes Go.WideShapes Go.ChangeAt Go.RowKit Go.Proofs.YtljgncbdagmeeaaDoorE
set_option linter.unusedVariables false
theorem own:ownKnob Tryd.prog.godebug=none:=by kernel_rfl
theorem Zyc:laidOutB Tryd.prog=true:=by kernel_rfl
def Zpn : List (String × DataW Unit) := [("math/bits.deBruijn32tab", Rows.laid_math_bits_deBruijn32tab), ("math/bits.deBruijn64tab", Rows.laid_math_bits_deBruijn64tab)]
theorem Zw9 (os:Os) (args:Array Value):laidMetH Tryd.prog Zpn ((World.doorLaid Tryd.prog 19 os).forCall (fun _ _=>0) ⟨#[],args,[]⟩).memory:=
 laidMetH_of_parts3 (fuel:=8) (laidMet_of_run' 8 (by kernel_rfl) (by kernel_rfl)) (by kernel_rfl) (by kernel_rfl)
theorem ZvL {W:World} (h:laidMetH Tryd.prog Zpn W):GOK Zy R0 W:=by
 intro g l hg
 unfold Zy at hg
 split at hg
 ·cases hg
  exact Zo0 (t := 170) (N := 32) (e := 5) (k := .u8) h (by kernel_rfl) (n := "math/bits.deBruijn32tab") (by rw [show DataW.agg (Zl2 ZyT) = Rows.laid_math_bits_deBruijn32tab by kernel_rfl]; simp [Zpn]) (by kernel_rfl) (by kernel_rfl) (by kernel_rfl) (by kernel_rfl) (by kernel_rfl) (by kernel_rfl) (by decide)
 ·cases hg
  exact Zo0 (t := 171) (N := 64) (e := 5) (k := .u8) h (by kernel_rfl) (n := "math/bits.deBruijn64tab") (by rw [show DataW.agg (Zl2 ZyK) = Rows.laid_math_bits_deBruijn64tab by kernel_rfl]; simp [Zpn]) (by kernel_rfl) (by kernel_rfl) (by kernel_rfl) (by kernel_rfl) (by kernel_rfl) (by kernel_rfl) (by decide)
 ·cases hg
theorem ZzM (os:Os) (started:os.Started) (H:Type) (enc:TypeId×Value→H) :
  ReturnsInHanded {} Tryd.checked os 3 .any (fun w args=>(Rows.lowTellsSpec.pre enc Tryd.prog Tryd.f3 [] false w args∧laidMetH Tryd.prog Zpn w)∧sizedMet enc Tryd.prog Tryd.f3 (OpenSpec.ofChange Rows.lowTellsSpec) false w args) (Rows.lowTellsSpec.post enc Tryd.prog Tryd.f3 false true false false):=by
 refine returnsInHanded_of_change_and (C:=Tryd.checked) (X:=fun w _=>laidMetH Tryd.prog Zpn w) (fun _ _ _ hh h=>h.of_heap hh) own started (by kernel_rfl) Tryd.func3
  (ChangeSpec.witness_shaped (enc:=enc) (C:=Tryd.checked) (os:=os) (X:=fun w _=>laidMetH Tryd.prog Zpn w) false (World.doorLaid Tryd.prog 19 os) #[.agg #[.int .i64 0,.int .i64 0,.slice none 0 0,.slice none 0 0,.slice none 0 0,.slice none 0 0]] 8 rfl (World.shaped_of_RefB (by kernel_rfl) (by kernel_rfl)) (by kernel_rfl) (by kernel_rfl) (by kernel_rfl) (Zw9 os _)) ?_
 intro W base args ds gs before hval0 hW _ _ hL _
 have hval:∀(j:Nat) t v,Tryd.f3.params[j]? = some t→args[j]? = some v→Value.okWide Tryd.prog W .any base t v:=hval0
 have hW':=hW
 obtain⟨p,q,hA0,hV,rfl,hfz,hnd⟩:=hW
 have hA:DataW.TrodAll enc Tryd.prog W 0 (fun _=>true) true Tryd.f3.params.toList args.toList ds p:=hA0
 rw[Tryd.params3] at hA hval
 obtain⟨v0,vs0,d0,ds0,p0,q0,hargs,rfl,rfl,h0,r0⟩:=trodAll_cons hA
 obtain⟨rfl,rfl,rfl⟩:=trodAll_nil r0
 obtain rfl:args = #[v0]:=by cases args; simp_all
 obtain⟨rfl,rfl⟩:=trodVars_none hV
 have lt0:∀x∈p0,x.block<W.heap.size:=by obtain⟨m,hm⟩:=h0; exact DataW.trod_lt m _ _ _ hm
 obtain⟨x0,ok0,den0⟩:=Zzg (P:=Tryd.prog) (n:=8) (t:=27) (l:=ZrA.1) (ag:=ZrA.2) (by kernel_rfl) (hval 0 27 v0 rfl rfl) h0
 obtain⟨H1,ev⟩:=Zrc x0 ok0
 have den:ZaY All All All W [Zx7 ZrA.2 x0] [v0]:=⟨_,_,rfl,den0,rfl⟩
 refine(ZuV ZBe (ZvL hL) den ev).mono fun e W' ⟨he,bel⟩=>?_
 subst he
 exact⟨_,rfl,_,_,_,[],_,[],hW',trodAll_mk1 (shut_bool Tryd.underlying4 _),(trodAll_cons_mk (Below.trod Zyc (by kernel_rfl) (of_decide_eq_true (by kernel_rfl)) h0 bel lt0) trodAll_mk0),rfl,bel.frame _,fun h=>by cases h⟩
theorem over:Rows.lowTellsRow.holds Tryd.pinned (OpenSpec.ofChange Rows.lowTellsSpec):=
 OpenClaim.holds_of_wide 3 Tryd.f3 rfl rfl rfl rfl rfl rfl rfl ⟨rfl,rfl,rfl,rfl,rfl⟩ rfl rfl rfl rfl rfl (by kernel_rfl) Tryd.func3 (by kernel_rfl)
  (of_decide_eq_true (by kernel_rfl)) (by unfold Func.isWrapper; first | (rw[if_pos (by decide +kernel)]; kernel_rfl) | (rw[if_neg (by decide +kernel)]; exact⟨rfl,rfl⟩))
  (fun os started H enc _=>ZzM os started H enc)
theorem proved:Rows.LowTellsSaid:=over
theorem carded:Rows.LowTellsCardSaid:=
 Claim7.holds_tied_plain_at .later [] [.data, .data] true (true, "d907b5d9381713682315e2e2b6cdc9b83e8277611de7aab9efce85a6aaa9d615") false
  proved (fun _ h=>by cases h) (by kernel_rfl) (fun _ h=>by cases h) lowTells_row_tie rfl ⟨rfl,rfl⟩ (by kernel_rfl) rfl
  (fun f fn hf hfn=>by
   obtain rfl : f = 3 := Option.some.inj ((show Tryd.prog.funcNamed "trefoil/trefoillaw07.LowTells" = some 3 by kernel_rfl).symm.trans hf) |>.symm
   obtain rfl:fn=Tryd.f3:=(Option.some.inj (Tryd.func3.symm.trans hfn)).symm
   exact⟨by kernel_rfl,fun j t ht=>by
    rw[Tryd.params3] at ht
    have hm:t∈[27]:=by simpa using Array.mem_of_getElem? ht
    have hall:([27].all fun u=>!Tryd.prog.wantsStandIn u)=true:=by kernel_rfl
    exact(show Tryd.prog.wantsStandIn t=false by simpa using List.all_eq_true.1 hall t hm)⟩)
  (by kernel_rfl)
end Go.Proofs.YtljgncbdagmeeaaDoor.LawLowTells
namespace Go.Proofs.YtljgncbdagmeeaaDoor
theorem lowTells_holds:Rows.LowTellsCardSaid:=LawLowTells.carded
#print axioms lowTells_holds
end Go.Proofs.YtljgncbdagmeeaaDoor
