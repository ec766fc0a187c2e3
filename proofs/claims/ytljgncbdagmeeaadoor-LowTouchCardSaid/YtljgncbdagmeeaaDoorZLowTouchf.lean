/- LowTouch: part 6 of 6 of the proof: the row and the card of the law, out of what the evaluator says of it; without conditions. -/
import Derived.Test.YtljgncbdagmeeaaDoorZLowTouche
import Derived.KernelRfl
import Derived.Test.YtljgncbdagmeeaaDoorRows
import Derived.Test.YtljgncbdagmeeaaDoorCards
import Derived.Test.YtljgncbdagmeeaaDoorTie
import Derived.WalkKit
import Derived.ProofKit
import Derived.OpenShut
import Derived.ShutString
import Derived.ChangeOld
import Derived.Below
import Derived.SizedLaws
import Derived.Handed
import Derived.LaidMore
import Derived.Stop.Joined
import Derived.ChangeShapes
import Derived.Carry
import Derived.SevenTiedAt
set_option maxRecDepth 100000
set_option maxHeartbeats 40000000
namespace Go.Proofs.YtljgncbdagmeeaaDoor
open Go Go.Proofs.YtljgncbdagmeeaaDoorE
set_option linter.unusedVariables false
set_option linter.unusedSimpArgs false
def ZhQ (b:Int) (c:Int) (m1_0:(List Int)) (m2_0:(List Zr)) (m3_0:(List Zi)) (m4_0:(List (Int×Int))) (m5_0:(List (Int×Int))) (m6_0:(List (Zk×Int))):Unit→V×Zn
  | r=>((.d (D.tup [])),[(.cells [(.sl 1 1),(.sl 7 2),(.sl 3 2),(.mp 4),(.mp 5),(.mp 6)]),(.arr 1 (List.map Ze m1_0)),.dead,(.arr 2 (List.map Zb0 m3_0)),(.mp (mpD Ze Ze m4_0)),(.mp (mpD Ze Ze m5_0)),(.mp (mpD Zs Ze m6_0)),(.arr 2 (List.map ZI (m2_0++[(Zr.mk b c)])))])
theorem Zbb {b:Int} {c:Int} {m1_0:(List Int)} {m2_0:(List Zr)} {m3_0:(List Zi)} {m4_0:(List (Int×Int))} {m5_0:(List (Int×Int))} {m6_0:(List (Zk×Int))}:∀r,(ZX b c m2_0)=some r→evW ctx 43 [(.ptr 0 0),(.d (Ze b)),(.d (Ze c))] [(.cells [(.sl 1 1),(.sl 2 2),(.sl 3 2),(.mp 4),(.mp 5),(.mp 6)]),(.arr 1 (List.map Ze m1_0)),(.arr 2 (List.map ZI m2_0)),(.arr 2 (List.map Zb0 m3_0)),(.mp (mpD Ze Ze m4_0)),(.mp (mpD Ze Ze m5_0)),(.mp (mpD Zs Ze m6_0))]=some ((ZhQ b c m1_0 m2_0 m3_0 m4_0 m5_0 m6_0) r):=by
 show Z6 _ (fun r rhs=>rhs=some ((ZhQ b c m1_0 m2_0 m3_0 m4_0 m5_0 m6_0) r)) _
 unfold ZX
 rw[Zeh ctx 43 ZzJ _ _ rfl rfl]
 conv=>arg 3; whnf
 refine ZbC rfl ?_
 conv=>arg 3; whnf
 refine Zg (Zjp ZI m2_0 1) ?_ ?_
 ·conv=>arg 3; whnf
  refine Zo (Zjl ZI m2_0 [(Zr.mk b c)]) ?_
  conv=>arg 3; whnf
  exact Zh rfl
 ·exact ZbG
def ZhP (t0:Bool) (t1:Bool) (t2:Bool) (t3:Bool) (b:Zt) (c:Int) (m1_0:(List Int)) (m2_0:(List Zr)) (m3_0:(List Zi)) (m4_0:(List (Int×Int))) (m5_0:(List (Int×Int))) (m6_0:(List (Zk×Int))):(((List (Int×Int))×(List (Zk×Int))×(List Int)×(List Zr)×(List Zi))⊕((List Int)⊕Unit))→V×Zn
  | (.inl r)=>((.d (D.tup [])),[(.cells [(.sl 7 1),(.sl 8 2),(.sl 9 2),(.mp 4),(.mp 5),(.mp 6)]),.dead,.dead,.dead,(.mp (mpD Ze Ze (Zx (fun ka kb:Int=>(ka==kb)) m4_0 c (m3_0.length:Int)))),(.mp (mpD Ze Ze r.1)),(.mp (mpD Zs Ze r.2.1)),(.arr 1 (List.map Ze r.2.2.1)),(.arr 2 (List.map ZI r.2.2.2.1)),(.arr 2 (List.map Zb0 r.2.2.2.2))])
  | (.inr (.inl r))=>((.d (D.tup [])),[(.cells [(.sl 7 1),(.sl 2 2),(.sl 8 2),(.mp 4),(.mp 5),(.mp 6)]),.dead,(.arr 2 (List.map ZI m2_0)),.dead,(.mp (mpD Ze Ze (Zx (fun ka kb:Int=>(ka==kb)) m4_0 c (m3_0.length:Int)))),(.mp (mpD Ze Ze (Zx (fun ka kb:Int=>(ka==kb)) m5_0 c (w64 ((List.length (m3_0++[(Zi.mk c 0)]):Int)-1))))),(.mp (mpD Zs Ze m6_0)),(.arr 1 (List.map Ze r)),(.arr 2 (List.map Zb0 (m3_0++[(Zi.mk c 0)])))])
  | (.inr (.inr r))=>((.d (D.tup [])),[(.cells [(.sl 1 1),(.sl 2 2),(.sl 3 2),(.mp 4),(.mp 5),(.mp 6)]),(.arr 1 (List.map Ze m1_0)),(.arr 2 (List.map ZI m2_0)),(.arr 2 (List.map Zb0 m3_0)),(.mp (mpD Ze Ze (Zx (fun ka kb:Int=>(ka==kb)) m4_0 c (m3_0.length:Int)))),(.mp (mpD Ze Ze m5_0)),(.mp (mpD Zs Ze m6_0))])
def Zg9 (t0:Bool) (t1:Bool) (t2:Bool) (t3:Bool) (b:Zt) (c:Int) (m3_0:(List Zi)) (m4_0:(List (Int×Int))) (x0:(List Int)):((List (Int×Int))×(List (Zk×Int))×(List Int)×(List Zr)×(List Zi))→Ex×List V×Zn
  | r=>(.exit 0,[],[(.cells [(.sl 7 1),(.sl 8 2),(.sl 9 2),(.mp 4),(.mp 5),(.mp 6)]),.dead,.dead,.dead,(.mp (mpD Ze Ze (Zx (fun ka kb:Int=>(ka==kb)) m4_0 c (m3_0.length:Int)))),(.mp (mpD Ze Ze r.1)),(.mp (mpD Zs Ze r.2.1)),(.arr 1 (List.map Ze r.2.2.1)),(.arr 2 (List.map ZI r.2.2.2.1)),(.arr 2 (List.map Zb0 r.2.2.2.2))])
theorem ZdI {t0:Bool} {t1:Bool} {t2:Bool} {t3:Bool} {b:Zt} {c:Int} {m3_0:(List Zi)} {m4_0:(List (Int×Int))} {x0:(List Int)}:∀(s14:Int×Int×(List (Int×Int))×(List (Zk×Int))×(List Int)×(List Zr)×(List Zi)) (r:((List (Int×Int))×(List (Zk×Int))×(List Int)×(List Zr)×(List Zi))),lp (ZF b c x0) s14=some r→lpW ctx 7 [0,2,4,6,7,26,27] [] Zpi [(.ptr 0 0),(.d (Ze c)),(.ptr 7 0),(.d (Ze s14.1)),(.d (D.list true (List.map Ze x0))),(.d (Ze (w64 ((x0.length:Int)+1)))),(.d (Ze s14.2.1))] [(.cells [(.sl 8 1),(.sl 9 2),(.sl 10 2),(.mp 4),(.mp 5),(.mp 6)]),.dead,.dead,.dead,(.mp (mpD Ze Ze (Zx (fun ka kb:Int=>(ka==kb)) m4_0 c (m3_0.length:Int)))),(.mp (mpD Ze Ze s14.2.2.1)),(.mp (mpD Zs Ze s14.2.2.2.1)),(.cells (dV t0 t1 t2 t3 b)),(.arr 1 (List.map Ze s14.2.2.2.2.1)),(.arr 2 (List.map ZI s14.2.2.2.2.2.1)),(.arr 2 (List.map Zb0 s14.2.2.2.2.2.2))]=some ((Zg9 t0 t1 t2 t3 b c m3_0 m4_0 x0) r):=by
 refine Zbc (Zg9 t0 t1 t2 t3 b c m3_0 m4_0 x0) ?_
 intro s14 rcl ih
 show Z6 _ _ (lpW _ _ _ _ _ _ _)
 unfold ZF
 rw[Zbd]
 conv=>arg 3; whnf
 refine Zg rfl ?_ ?_
 ·conv=>arg 3; whnf
  refine Zj rfl rfl fun x15 hx15=>?_
  conv=>arg 3; whnf
  refine Zo (Zam _ _) ?_
  conv=>arg 3; whnf
  refine Zg rfl ?_ ?_
  ·conv=>arg 3; whnf
   refine Zj rfl rfl fun x16 hx16=>?_
   conv=>arg 3; whnf
   refine Zj rfl rfl fun x17 hx17=>?_
   conv=>arg 3; whnf
   refine Zc _ Zbr fun x18 hx18=>?_
   conv=>arg 3; whnf
   refine Zf (ZeZ (f:=Ze) (g:=Ze) (fun ka kb:Int=>(ka==kb)) (fun _ _=>rfl) s14.2.2.1 c (w64 ((List.length (s14.2.2.2.2.2.2++[(Zi.mk c s14.2.1)]):Int)-1))) ?_
   conv=>arg 3; whnf
   refine Zg rfl ?_ ?_
   ·conv=>arg 3; whnf
    refine Zf (Zcv (f:=Ze) (g:=Ze) (fun ka kb:Int=>(ka==kb)) (fun _ _=>rfl) (Zx (fun ka kb:Int=>(ka==kb)) s14.2.2.1 c (w64 ((List.length (s14.2.2.2.2.2.2++[(Zi.mk c s14.2.1)]):Int)-1))) c 0) ?_
    conv=>arg 3; whnf
    refine Zf (Zcv (f:=Ze) (g:=Ze) (fun ka kb:Int=>(ka==kb)) (fun _ _=>rfl) (Zx (fun ka kb:Int=>(ka==kb)) s14.2.2.1 c (w64 ((List.length (s14.2.2.2.2.2.2++[(Zi.mk c s14.2.1)]):Int)-1))) c 0) ?_
    conv=>arg 3; whnf
    refine Zc _ Zbb fun x19 hx19=>?_
    conv=>arg 3; whnf
    refine Zj rfl rfl fun x20 hx20=>?_
    conv=>arg 3; whnf
    refine Zj rfl rfl fun x21 hx21=>?_
    conv=>arg 3; whnf
    refine Zf (Zcv (f:=Ze) (g:=Ze) (fun ka kb:Int=>(ka==kb)) (fun _ _=>rfl) (Zx (fun ka kb:Int=>(ka==kb)) s14.2.2.1 c (w64 ((List.length (s14.2.2.2.2.2.2++[(Zi.mk c s14.2.1)]):Int)-1))) c 0) ?_
    conv=>arg 3; whnf
    refine Zf (ZeZ (f:=Zs) (g:=Ze) (fun ka kb:Zk=>((ka.maker==kb.maker)&&((ka.user==kb.user)&&((ka.pos==kb.pos)&&true)))) (fun _ _=>rfl) s14.2.2.2.1 x21 (ZaL (fun ka kb:Int=>(ka==kb)) (Zx (fun ka kb:Int=>(ka==kb)) s14.2.2.1 c (w64 ((List.length (s14.2.2.2.2.2.2++[(Zi.mk c s14.2.1)]):Int)-1))) c 0)) ?_
    conv=>arg 3; whnf
    exact Zd (ih _)
   ·conv=>arg 3; whnf
    exact Zd (ih _)
  ·conv=>arg 3; whnf
   refine Zc _ Zbr fun x22 hx22=>?_
   conv=>arg 3; whnf
   refine Zf (ZeZ (f:=Ze) (g:=Ze) (fun ka kb:Int=>(ka==kb)) (fun _ _=>rfl) s14.2.2.1 c (w64 ((List.length (s14.2.2.2.2.2.2++[(Zi.mk c s14.2.1)]):Int)-1))) ?_
   conv=>arg 3; whnf
   refine Zg rfl ?_ ?_
   ·conv=>arg 3; whnf
    refine Zf (Zcv (f:=Ze) (g:=Ze) (fun ka kb:Int=>(ka==kb)) (fun _ _=>rfl) (Zx (fun ka kb:Int=>(ka==kb)) s14.2.2.1 c (w64 ((List.length (s14.2.2.2.2.2.2++[(Zi.mk c s14.2.1)]):Int)-1))) c 0) ?_
    conv=>arg 3; whnf
    refine Zf (Zcv (f:=Ze) (g:=Ze) (fun ka kb:Int=>(ka==kb)) (fun _ _=>rfl) (Zx (fun ka kb:Int=>(ka==kb)) s14.2.2.1 c (w64 ((List.length (s14.2.2.2.2.2.2++[(Zi.mk c s14.2.1)]):Int)-1))) c 0) ?_
    conv=>arg 3; whnf
    refine Zc _ Zbb fun x23 hx23=>?_
    conv=>arg 3; whnf
    refine Zj rfl rfl fun x24 hx24=>?_
    conv=>arg 3; whnf
    refine Zj rfl rfl fun x25 hx25=>?_
    conv=>arg 3; whnf
    refine Zf (Zcv (f:=Ze) (g:=Ze) (fun ka kb:Int=>(ka==kb)) (fun _ _=>rfl) (Zx (fun ka kb:Int=>(ka==kb)) s14.2.2.1 c (w64 ((List.length (s14.2.2.2.2.2.2++[(Zi.mk c s14.2.1)]):Int)-1))) c 0) ?_
    conv=>arg 3; whnf
    refine Zf (ZeZ (f:=Zs) (g:=Ze) (fun ka kb:Zk=>((ka.maker==kb.maker)&&((ka.user==kb.user)&&((ka.pos==kb.pos)&&true)))) (fun _ _=>rfl) s14.2.2.2.1 x25 (ZaL (fun ka kb:Int=>(ka==kb)) (Zx (fun ka kb:Int=>(ka==kb)) s14.2.2.1 c (w64 ((List.length (s14.2.2.2.2.2.2++[(Zi.mk c s14.2.1)]):Int)-1))) c 0)) ?_
    conv=>arg 3; whnf
    exact Zd (ih _)
   ·conv=>arg 3; whnf
    exact Zd (ih _)
 ·conv=>arg 3; whnf
  exact Zh rfl
def ZgF (t0:Bool) (t1:Bool) (t2:Bool) (t3:Bool) (b:Zt) (c:Int) (m1_0:(List Int)) (m2_0:(List Zr)) (m3_0:(List Zi)) (m4_0:(List (Int×Int))) (m5_0:(List (Int×Int))) (m6_0:(List (Zk×Int))) (x0:(List Int)) (x4:Zk):(((List (Int×Int))×(List (Zk×Int))×(List Int)×(List Zr)×(List Zi))⊕Unit)→Ex×List V×Zn
  | (.inl r)=>(.exit 0,[],[(.cells [(.sl 7 1),(.sl 8 2),(.sl 9 2),(.mp 4),(.mp 5),(.mp 6)]),.dead,.dead,.dead,(.mp (mpD Ze Ze (Zx (fun ka kb:Int=>(ka==kb)) m4_0 c (m3_0.length:Int)))),(.mp (mpD Ze Ze r.1)),(.mp (mpD Zs Ze r.2.1)),(.arr 1 (List.map Ze r.2.2.1)),(.arr 2 (List.map ZI r.2.2.2.1)),(.arr 2 (List.map Zb0 r.2.2.2.2))])
  | (.inr r)=>(.exit 0,[],[(.cells [(.sl 7 1),(.sl 2 2),(.sl 8 2),(.mp 4),(.mp 5),(.mp 6)]),.dead,(.arr 2 (List.map ZI m2_0)),.dead,(.mp (mpD Ze Ze (Zx (fun ka kb:Int=>(ka==kb)) m4_0 c (m3_0.length:Int)))),(.mp (mpD Ze Ze (Zx (fun ka kb:Int=>(ka==kb)) m5_0 c (w64 ((List.length (m3_0++[(Zi.mk c 0)]):Int)-1))))),(.mp (mpD Zs Ze m6_0)),(.arr 1 (List.map Ze (m1_0++[(w64 (x4.pos-0))]))),(.arr 2 (List.map Zb0 (m3_0++[(Zi.mk c 0)])))])
theorem ZiD {t0:Bool} {t1:Bool} {t2:Bool} {t3:Bool} {b:Zt} {c:Int} {m1_0:(List Int)} {m2_0:(List Zr)} {m3_0:(List Zi)} {m4_0:(List (Int×Int))} {m5_0:(List (Int×Int))} {m6_0:(List (Zk×Int))} {x0:(List Int)} {x4:Zk}:∀(s6:Unit) (r:(((List (Int×Int))×(List (Zk×Int))×(List Int)×(List Zr)×(List Zi))⊕Unit)),lp (Zcm b c m1_0 m2_0 m3_0 m5_0 m6_0 x0 x4) s6=some r→lpW ctx 7 [0,2,4,6,7,26,27] [] Zpi [(.ptr 0 0),(.d (Ze c)),(.ptr 7 0),(.d (Ze x4.pos)),(.d (D.list true (List.map Ze x0))),(.d (Ze (w64 ((x0.length:Int)+1)))),(.d (Ze 1))] [(.cells [(.sl 8 1),(.sl 2 2),(.sl 9 2),(.mp 4),(.mp 5),(.mp 6)]),.dead,(.arr 2 (List.map ZI m2_0)),.dead,(.mp (mpD Ze Ze (Zx (fun ka kb:Int=>(ka==kb)) m4_0 c (m3_0.length:Int)))),(.mp (mpD Ze Ze (Zx (fun ka kb:Int=>(ka==kb)) m5_0 c (w64 ((List.length (m3_0++[(Zi.mk c 0)]):Int)-1))))),(.mp (mpD Zs Ze m6_0)),(.cells (dV t0 t1 t2 t3 b)),(.arr 1 (List.map Ze (m1_0++[(w64 (x4.pos-0))]))),(.arr 2 (List.map Zb0 (m3_0++[(Zi.mk c 0)])))]=some ((ZgF t0 t1 t2 t3 b c m1_0 m2_0 m3_0 m4_0 m5_0 m6_0 x0 x4) r):=by
 refine Zbc (ZgF t0 t1 t2 t3 b c m1_0 m2_0 m3_0 m4_0 m5_0 m6_0 x0 x4) ?_
 intro s6 rcl ih
 show Z6 _ _ (lpW _ _ _ _ _ _ _)
 unfold Zcm
 rw[Zbd]
 conv=>arg 3; whnf
 refine Zg rfl ?_ ?_
 ·conv=>arg 3; whnf
  refine Zj rfl rfl fun x7 hx7=>?_
  conv=>arg 3; whnf
  refine Zo (Zam _ _) ?_
  conv=>arg 3; whnf
  refine Zg rfl ?_ ?_
  ·conv=>arg 3; whnf
   refine Zj rfl rfl fun x8 hx8=>?_
   conv=>arg 3; whnf
   refine Zj rfl rfl fun x9 hx9=>?_
   conv=>arg 3; whnf
   refine Zc _ Zbr fun x10 hx10=>?_
   conv=>arg 3; whnf
   refine Zf (ZeZ (f:=Ze) (g:=Ze) (fun ka kb:Int=>(ka==kb)) (fun _ _=>rfl) (Zx (fun ka kb:Int=>(ka==kb)) m5_0 c (w64 ((List.length (m3_0++[(Zi.mk c 0)]):Int)-1))) c (w64 ((List.length ((m3_0++[(Zi.mk c 0)])++[(Zi.mk c 1)]):Int)-1))) ?_
   conv=>arg 3; whnf
   refine ZbC rfl ?_
   conv=>arg 3; whnf
   refine Zf (Zcv (f:=Ze) (g:=Ze) (fun ka kb:Int=>(ka==kb)) (fun _ _=>rfl) (Zx (fun ka kb:Int=>(ka==kb)) (Zx (fun ka kb:Int=>(ka==kb)) m5_0 c (w64 ((List.length (m3_0++[(Zi.mk c 0)]):Int)-1))) c (w64 ((List.length ((m3_0++[(Zi.mk c 0)])++[(Zi.mk c 1)]):Int)-1))) c 0) ?_
   conv=>arg 3; whnf
   refine Zf (Zcv (f:=Ze) (g:=Ze) (fun ka kb:Int=>(ka==kb)) (fun _ _=>rfl) (Zx (fun ka kb:Int=>(ka==kb)) (Zx (fun ka kb:Int=>(ka==kb)) m5_0 c (w64 ((List.length (m3_0++[(Zi.mk c 0)]):Int)-1))) c (w64 ((List.length ((m3_0++[(Zi.mk c 0)])++[(Zi.mk c 1)]):Int)-1))) c 0) ?_
   conv=>arg 3; whnf
   refine Zc _ Zbb fun x11 hx11=>?_
   conv=>arg 3; whnf
   refine Zj rfl rfl fun x12 hx12=>?_
   conv=>arg 3; whnf
   refine Zj rfl rfl fun x13 hx13=>?_
   conv=>arg 3; whnf
   refine Zf (Zcv (f:=Ze) (g:=Ze) (fun ka kb:Int=>(ka==kb)) (fun _ _=>rfl) (Zx (fun ka kb:Int=>(ka==kb)) (Zx (fun ka kb:Int=>(ka==kb)) m5_0 c (w64 ((List.length (m3_0++[(Zi.mk c 0)]):Int)-1))) c (w64 ((List.length ((m3_0++[(Zi.mk c 0)])++[(Zi.mk c 1)]):Int)-1))) c 0) ?_
   conv=>arg 3; whnf
   refine Zf (ZeZ (f:=Zs) (g:=Ze) (fun ka kb:Zk=>((ka.maker==kb.maker)&&((ka.user==kb.user)&&((ka.pos==kb.pos)&&true)))) (fun _ _=>rfl) m6_0 x13 (ZaL (fun ka kb:Int=>(ka==kb)) (Zx (fun ka kb:Int=>(ka==kb)) (Zx (fun ka kb:Int=>(ka==kb)) m5_0 c (w64 ((List.length (m3_0++[(Zi.mk c 0)]):Int)-1))) c (w64 ((List.length ((m3_0++[(Zi.mk c 0)])++[(Zi.mk c 1)]):Int)-1))) c 0)) ?_
   conv=>arg 3; whnf
   refine Zc _ (ZdI _) fun r26 hr26=>?_
   conv=>arg 3; whnf
   exact Zh rfl
  ·conv=>arg 3; whnf
   refine Zc _ Zbr fun x27 hx27=>?_
   conv=>arg 3; whnf
   refine Zf (ZeZ (f:=Ze) (g:=Ze) (fun ka kb:Int=>(ka==kb)) (fun _ _=>rfl) (Zx (fun ka kb:Int=>(ka==kb)) m5_0 c (w64 ((List.length (m3_0++[(Zi.mk c 0)]):Int)-1))) c (w64 ((List.length ((m3_0++[(Zi.mk c 0)])++[(Zi.mk c 1)]):Int)-1))) ?_
   conv=>arg 3; whnf
   refine ZbC rfl ?_
   conv=>arg 3; whnf
   refine Zf (Zcv (f:=Ze) (g:=Ze) (fun ka kb:Int=>(ka==kb)) (fun _ _=>rfl) (Zx (fun ka kb:Int=>(ka==kb)) (Zx (fun ka kb:Int=>(ka==kb)) m5_0 c (w64 ((List.length (m3_0++[(Zi.mk c 0)]):Int)-1))) c (w64 ((List.length ((m3_0++[(Zi.mk c 0)])++[(Zi.mk c 1)]):Int)-1))) c 0) ?_
   conv=>arg 3; whnf
   refine Zf (Zcv (f:=Ze) (g:=Ze) (fun ka kb:Int=>(ka==kb)) (fun _ _=>rfl) (Zx (fun ka kb:Int=>(ka==kb)) (Zx (fun ka kb:Int=>(ka==kb)) m5_0 c (w64 ((List.length (m3_0++[(Zi.mk c 0)]):Int)-1))) c (w64 ((List.length ((m3_0++[(Zi.mk c 0)])++[(Zi.mk c 1)]):Int)-1))) c 0) ?_
   conv=>arg 3; whnf
   refine Zc _ Zbb fun x28 hx28=>?_
   conv=>arg 3; whnf
   refine Zj rfl rfl fun x29 hx29=>?_
   conv=>arg 3; whnf
   refine Zj rfl rfl fun x30 hx30=>?_
   conv=>arg 3; whnf
   refine Zf (Zcv (f:=Ze) (g:=Ze) (fun ka kb:Int=>(ka==kb)) (fun _ _=>rfl) (Zx (fun ka kb:Int=>(ka==kb)) (Zx (fun ka kb:Int=>(ka==kb)) m5_0 c (w64 ((List.length (m3_0++[(Zi.mk c 0)]):Int)-1))) c (w64 ((List.length ((m3_0++[(Zi.mk c 0)])++[(Zi.mk c 1)]):Int)-1))) c 0) ?_
   conv=>arg 3; whnf
   refine Zf (ZeZ (f:=Zs) (g:=Ze) (fun ka kb:Zk=>((ka.maker==kb.maker)&&((ka.user==kb.user)&&((ka.pos==kb.pos)&&true)))) (fun _ _=>rfl) m6_0 x30 (ZaL (fun ka kb:Int=>(ka==kb)) (Zx (fun ka kb:Int=>(ka==kb)) (Zx (fun ka kb:Int=>(ka==kb)) m5_0 c (w64 ((List.length (m3_0++[(Zi.mk c 0)]):Int)-1))) c (w64 ((List.length ((m3_0++[(Zi.mk c 0)])++[(Zi.mk c 1)]):Int)-1))) c 0)) ?_
   conv=>arg 3; whnf
   refine Zc _ (ZdI _) fun r43 hr43=>?_
   conv=>arg 3; whnf
   exact Zh rfl
 ·conv=>arg 3; whnf
  exact Zh rfl
def ZgJ (t0:Bool) (t1:Bool) (t2:Bool) (t3:Bool) (b:Zt) (c:Int) (m1_0:(List Int)) (m2_0:(List Zr)) (m3_0:(List Zi)) (m4_0:(List (Int×Int))) (m5_0:(List (Int×Int))) (m6_0:(List (Zk×Int))) (x0:(List Int)) (x2:Zal):(((List (Int×Int))×(List (Zk×Int))×(List Int)×(List Zr)×(List Zi))⊕Unit)→Ex×List V×Zn
  | (.inl r)=>(.exit 0,[],[(.cells [(.sl 7 1),(.sl 8 2),(.sl 9 2),(.mp 4),(.mp 5),(.mp 6)]),.dead,.dead,.dead,(.mp (mpD Ze Ze (Zx (fun ka kb:Int=>(ka==kb)) m4_0 c (m3_0.length:Int)))),(.mp (mpD Ze Ze r.1)),(.mp (mpD Zs Ze r.2.1)),(.arr 1 (List.map Ze r.2.2.1)),(.arr 2 (List.map ZI r.2.2.2.1)),(.arr 2 (List.map Zb0 r.2.2.2.2))])
  | (.inr r)=>(.exit 0,[],[(.cells [(.sl 7 1),(.sl 2 2),(.sl 8 2),(.mp 4),(.mp 5),(.mp 6)]),.dead,(.arr 2 (List.map ZI m2_0)),.dead,(.mp (mpD Ze Ze (Zx (fun ka kb:Int=>(ka==kb)) m4_0 c (m3_0.length:Int)))),(.mp (mpD Ze Ze (Zx (fun ka kb:Int=>(ka==kb)) m5_0 c (w64 ((List.length (m3_0++[(Zi.mk c 0)]):Int)-1))))),(.mp (mpD Zs Ze m6_0)),(.arr 1 (List.map Ze (m1_0++[(w64 (x2.work-0))]))),(.arr 2 (List.map Zb0 (m3_0++[(Zi.mk c 0)])))])
theorem ZiK {t0:Bool} {t1:Bool} {t2:Bool} {t3:Bool} {b:Zt} {c:Int} {m1_0:(List Int)} {m2_0:(List Zr)} {m3_0:(List Zi)} {m4_0:(List (Int×Int))} {m5_0:(List (Int×Int))} {m6_0:(List (Zk×Int))} {x0:(List Int)} {x2:Zal}:∀(s46:Unit) (r:(((List (Int×Int))×(List (Zk×Int))×(List Int)×(List Zr)×(List Zi))⊕Unit)),lp (Zdc b c m1_0 m2_0 m3_0 m5_0 m6_0 x0 x2) s46=some r→lpW ctx 7 [0,2,4,6,7,26,27] [] Zpi [(.ptr 0 0),(.d (Ze c)),(.ptr 7 0),(.d (Ze x2.work)),(.d (D.list true (List.map Ze x0))),(.d (Ze (w64 ((x0.length:Int)+1)))),(.d (Ze 1))] [(.cells [(.sl 8 1),(.sl 2 2),(.sl 9 2),(.mp 4),(.mp 5),(.mp 6)]),.dead,(.arr 2 (List.map ZI m2_0)),.dead,(.mp (mpD Ze Ze (Zx (fun ka kb:Int=>(ka==kb)) m4_0 c (m3_0.length:Int)))),(.mp (mpD Ze Ze (Zx (fun ka kb:Int=>(ka==kb)) m5_0 c (w64 ((List.length (m3_0++[(Zi.mk c 0)]):Int)-1))))),(.mp (mpD Zs Ze m6_0)),(.cells (dV t0 t1 t2 t3 b)),(.arr 1 (List.map Ze (m1_0++[(w64 (x2.work-0))]))),(.arr 2 (List.map Zb0 (m3_0++[(Zi.mk c 0)])))]=some ((ZgJ t0 t1 t2 t3 b c m1_0 m2_0 m3_0 m4_0 m5_0 m6_0 x0 x2) r):=by
 refine Zbc (ZgJ t0 t1 t2 t3 b c m1_0 m2_0 m3_0 m4_0 m5_0 m6_0 x0 x2) ?_
 intro s46 rcl ih
 show Z6 _ _ (lpW _ _ _ _ _ _ _)
 unfold Zdc
 rw[Zbd]
 conv=>arg 3; whnf
 refine Zg rfl ?_ ?_
 ·conv=>arg 3; whnf
  refine Zj rfl rfl fun x47 hx47=>?_
  conv=>arg 3; whnf
  refine Zo (Zam _ _) ?_
  conv=>arg 3; whnf
  refine Zg rfl ?_ ?_
  ·conv=>arg 3; whnf
   refine Zj rfl rfl fun x48 hx48=>?_
   conv=>arg 3; whnf
   refine Zj rfl rfl fun x49 hx49=>?_
   conv=>arg 3; whnf
   refine Zc _ Zbr fun x50 hx50=>?_
   conv=>arg 3; whnf
   refine Zf (ZeZ (f:=Ze) (g:=Ze) (fun ka kb:Int=>(ka==kb)) (fun _ _=>rfl) (Zx (fun ka kb:Int=>(ka==kb)) m5_0 c (w64 ((List.length (m3_0++[(Zi.mk c 0)]):Int)-1))) c (w64 ((List.length ((m3_0++[(Zi.mk c 0)])++[(Zi.mk c 1)]):Int)-1))) ?_
   conv=>arg 3; whnf
   refine ZbC rfl ?_
   conv=>arg 3; whnf
   refine Zf (Zcv (f:=Ze) (g:=Ze) (fun ka kb:Int=>(ka==kb)) (fun _ _=>rfl) (Zx (fun ka kb:Int=>(ka==kb)) (Zx (fun ka kb:Int=>(ka==kb)) m5_0 c (w64 ((List.length (m3_0++[(Zi.mk c 0)]):Int)-1))) c (w64 ((List.length ((m3_0++[(Zi.mk c 0)])++[(Zi.mk c 1)]):Int)-1))) c 0) ?_
   conv=>arg 3; whnf
   refine Zf (Zcv (f:=Ze) (g:=Ze) (fun ka kb:Int=>(ka==kb)) (fun _ _=>rfl) (Zx (fun ka kb:Int=>(ka==kb)) (Zx (fun ka kb:Int=>(ka==kb)) m5_0 c (w64 ((List.length (m3_0++[(Zi.mk c 0)]):Int)-1))) c (w64 ((List.length ((m3_0++[(Zi.mk c 0)])++[(Zi.mk c 1)]):Int)-1))) c 0) ?_
   conv=>arg 3; whnf
   refine Zc _ Zbb fun x51 hx51=>?_
   conv=>arg 3; whnf
   refine Zj rfl rfl fun x52 hx52=>?_
   conv=>arg 3; whnf
   refine Zj rfl rfl fun x53 hx53=>?_
   conv=>arg 3; whnf
   refine Zf (Zcv (f:=Ze) (g:=Ze) (fun ka kb:Int=>(ka==kb)) (fun _ _=>rfl) (Zx (fun ka kb:Int=>(ka==kb)) (Zx (fun ka kb:Int=>(ka==kb)) m5_0 c (w64 ((List.length (m3_0++[(Zi.mk c 0)]):Int)-1))) c (w64 ((List.length ((m3_0++[(Zi.mk c 0)])++[(Zi.mk c 1)]):Int)-1))) c 0) ?_
   conv=>arg 3; whnf
   refine Zf (ZeZ (f:=Zs) (g:=Ze) (fun ka kb:Zk=>((ka.maker==kb.maker)&&((ka.user==kb.user)&&((ka.pos==kb.pos)&&true)))) (fun _ _=>rfl) m6_0 x53 (ZaL (fun ka kb:Int=>(ka==kb)) (Zx (fun ka kb:Int=>(ka==kb)) (Zx (fun ka kb:Int=>(ka==kb)) m5_0 c (w64 ((List.length (m3_0++[(Zi.mk c 0)]):Int)-1))) c (w64 ((List.length ((m3_0++[(Zi.mk c 0)])++[(Zi.mk c 1)]):Int)-1))) c 0)) ?_
   conv=>arg 3; whnf
   refine Zc _ (ZdI _) fun r66 hr66=>?_
   conv=>arg 3; whnf
   exact Zh rfl
  ·conv=>arg 3; whnf
   refine Zc _ Zbr fun x67 hx67=>?_
   conv=>arg 3; whnf
   refine Zf (ZeZ (f:=Ze) (g:=Ze) (fun ka kb:Int=>(ka==kb)) (fun _ _=>rfl) (Zx (fun ka kb:Int=>(ka==kb)) m5_0 c (w64 ((List.length (m3_0++[(Zi.mk c 0)]):Int)-1))) c (w64 ((List.length ((m3_0++[(Zi.mk c 0)])++[(Zi.mk c 1)]):Int)-1))) ?_
   conv=>arg 3; whnf
   refine ZbC rfl ?_
   conv=>arg 3; whnf
   refine Zf (Zcv (f:=Ze) (g:=Ze) (fun ka kb:Int=>(ka==kb)) (fun _ _=>rfl) (Zx (fun ka kb:Int=>(ka==kb)) (Zx (fun ka kb:Int=>(ka==kb)) m5_0 c (w64 ((List.length (m3_0++[(Zi.mk c 0)]):Int)-1))) c (w64 ((List.length ((m3_0++[(Zi.mk c 0)])++[(Zi.mk c 1)]):Int)-1))) c 0) ?_
   conv=>arg 3; whnf
   refine Zf (Zcv (f:=Ze) (g:=Ze) (fun ka kb:Int=>(ka==kb)) (fun _ _=>rfl) (Zx (fun ka kb:Int=>(ka==kb)) (Zx (fun ka kb:Int=>(ka==kb)) m5_0 c (w64 ((List.length (m3_0++[(Zi.mk c 0)]):Int)-1))) c (w64 ((List.length ((m3_0++[(Zi.mk c 0)])++[(Zi.mk c 1)]):Int)-1))) c 0) ?_
   conv=>arg 3; whnf
   refine Zc _ Zbb fun x68 hx68=>?_
   conv=>arg 3; whnf
   refine Zj rfl rfl fun x69 hx69=>?_
   conv=>arg 3; whnf
   refine Zj rfl rfl fun x70 hx70=>?_
   conv=>arg 3; whnf
   refine Zf (Zcv (f:=Ze) (g:=Ze) (fun ka kb:Int=>(ka==kb)) (fun _ _=>rfl) (Zx (fun ka kb:Int=>(ka==kb)) (Zx (fun ka kb:Int=>(ka==kb)) m5_0 c (w64 ((List.length (m3_0++[(Zi.mk c 0)]):Int)-1))) c (w64 ((List.length ((m3_0++[(Zi.mk c 0)])++[(Zi.mk c 1)]):Int)-1))) c 0) ?_
   conv=>arg 3; whnf
   refine Zf (ZeZ (f:=Zs) (g:=Ze) (fun ka kb:Zk=>((ka.maker==kb.maker)&&((ka.user==kb.user)&&((ka.pos==kb.pos)&&true)))) (fun _ _=>rfl) m6_0 x70 (ZaL (fun ka kb:Int=>(ka==kb)) (Zx (fun ka kb:Int=>(ka==kb)) (Zx (fun ka kb:Int=>(ka==kb)) m5_0 c (w64 ((List.length (m3_0++[(Zi.mk c 0)]):Int)-1))) c (w64 ((List.length ((m3_0++[(Zi.mk c 0)])++[(Zi.mk c 1)]):Int)-1))) c 0)) ?_
   conv=>arg 3; whnf
   refine Zc _ (ZdI _) fun r83 hr83=>?_
   conv=>arg 3; whnf
   exact Zh rfl
 ·conv=>arg 3; whnf
  exact Zh rfl
def Zgz (t0:Bool) (t1:Bool) (t2:Bool) (t3:Bool) (b:Zt) (c:Int) (m1_0:(List Int)) (m2_0:(List Zr)) (m3_0:(List Zi)) (m4_0:(List (Int×Int))) (m5_0:(List (Int×Int))) (m6_0:(List (Zk×Int))) (x0:(List Int)):(((List (Int×Int))×(List (Zk×Int))×(List Int)×(List Zr)×(List Zi))⊕((List Int)⊕Unit))→Ex×List V×Zn
  | (.inl r)=>(.exit 0,[],[(.cells [(.sl 7 1),(.sl 8 2),(.sl 9 2),(.mp 4),(.mp 5),(.mp 6)]),.dead,.dead,.dead,(.mp (mpD Ze Ze (Zx (fun ka kb:Int=>(ka==kb)) m4_0 c (m3_0.length:Int)))),(.mp (mpD Ze Ze r.1)),(.mp (mpD Zs Ze r.2.1)),(.arr 1 (List.map Ze r.2.2.1)),(.arr 2 (List.map ZI r.2.2.2.1)),(.arr 2 (List.map Zb0 r.2.2.2.2))])
  | (.inr (.inl r))=>(.exit 0,[],[(.cells [(.sl 7 1),(.sl 2 2),(.sl 8 2),(.mp 4),(.mp 5),(.mp 6)]),.dead,(.arr 2 (List.map ZI m2_0)),.dead,(.mp (mpD Ze Ze (Zx (fun ka kb:Int=>(ka==kb)) m4_0 c (m3_0.length:Int)))),(.mp (mpD Ze Ze (Zx (fun ka kb:Int=>(ka==kb)) m5_0 c (w64 ((List.length (m3_0++[(Zi.mk c 0)]):Int)-1))))),(.mp (mpD Zs Ze m6_0)),(.arr 1 (List.map Ze r)),(.arr 2 (List.map Zb0 (m3_0++[(Zi.mk c 0)])))])
  | (.inr (.inr r))=>(.exit 0,[],[(.cells [(.sl 1 1),(.sl 2 2),(.sl 3 2),(.mp 4),(.mp 5),(.mp 6)]),(.arr 1 (List.map Ze m1_0)),(.arr 2 (List.map ZI m2_0)),(.arr 2 (List.map Zb0 m3_0)),(.mp (mpD Ze Ze (Zx (fun ka kb:Int=>(ka==kb)) m4_0 c (m3_0.length:Int)))),(.mp (mpD Ze Ze m5_0)),(.mp (mpD Zs Ze m6_0))])
theorem ZiL {t0:Bool} {t1:Bool} {t2:Bool} {t3:Bool} {b:Zt} {c:Int} {m1_0:(List Int)} {m2_0:(List Zr)} {m3_0:(List Zi)} {m4_0:(List (Int×Int))} {m5_0:(List (Int×Int))} {m6_0:(List (Zk×Int))} {x0:(List Int)}:∀(s1:Unit) (r:(((List (Int×Int))×(List (Zk×Int))×(List Int)×(List Zr)×(List Zi))⊕((List Int)⊕Unit))),lp (Zcn b c m1_0 m2_0 m3_0 m5_0 m6_0 x0) s1=some r→lpW ctx 7 [0,2,4,6,7,26,27] [] Zpi [(.ptr 0 0),(.d (Ze c)),(.ptr 7 0),(.d (Ze 0)),(.d (D.list true (List.map Ze x0))),(.d (Ze (w64 ((x0.length:Int)+1)))),(.d (Ze 0))] [(.cells [(.sl 1 1),(.sl 2 2),(.sl 3 2),(.mp 4),(.mp 5),(.mp 6)]),(.arr 1 (List.map Ze m1_0)),(.arr 2 (List.map ZI m2_0)),(.arr 2 (List.map Zb0 m3_0)),(.mp (mpD Ze Ze (Zx (fun ka kb:Int=>(ka==kb)) m4_0 c (m3_0.length:Int)))),(.mp (mpD Ze Ze m5_0)),(.mp (mpD Zs Ze m6_0)),(.cells (dV t0 t1 t2 t3 b))]=some ((Zgz t0 t1 t2 t3 b c m1_0 m2_0 m3_0 m4_0 m5_0 m6_0 x0) r):=by
 refine Zbc (Zgz t0 t1 t2 t3 b c m1_0 m2_0 m3_0 m4_0 m5_0 m6_0 x0) ?_
 intro s1 rcl ih
 show Z6 _ _ (lpW _ _ _ _ _ _ _)
 unfold Zcn
 rw[Zbd]
 conv=>arg 3; whnf
 refine Zg rfl ?_ ?_
 ·conv=>arg 3; whnf
  refine Zj rfl rfl fun x2 hx2=>?_
  conv=>arg 3; whnf
  refine Zo (Zam _ _) ?_
  conv=>arg 3; whnf
  refine Zg rfl ?_ ?_
  ·conv=>arg 3; whnf
   refine Zj rfl rfl fun x3 hx3=>?_
   conv=>arg 3; whnf
   refine Zj rfl rfl fun x4 hx4=>?_
   conv=>arg 3; whnf
   refine Zc _ Zbr fun x5 hx5=>?_
   conv=>arg 3; whnf
   refine Zf (ZeZ (f:=Ze) (g:=Ze) (fun ka kb:Int=>(ka==kb)) (fun _ _=>rfl) m5_0 c (w64 ((List.length (m3_0++[(Zi.mk c 0)]):Int)-1))) ?_
   conv=>arg 3; whnf
   refine ZQ rfl ?_
   conv=>arg 3; whnf
   refine Zc _ (ZiD _) fun r44 hr44=>?_
   clear hr44
   rcases r44 with r44 | r44
   ·conv=>arg 3; whnf
    exact Zh rfl
   ·conv=>arg 3; whnf
    exact Zh rfl
  ·conv=>arg 3; whnf
   refine Zc _ Zbr fun x45 hx45=>?_
   conv=>arg 3; whnf
   refine Zf (ZeZ (f:=Ze) (g:=Ze) (fun ka kb:Int=>(ka==kb)) (fun _ _=>rfl) m5_0 c (w64 ((List.length (m3_0++[(Zi.mk c 0)]):Int)-1))) ?_
   conv=>arg 3; whnf
   refine ZQ rfl ?_
   conv=>arg 3; whnf
   refine Zc _ (ZiK _) fun r84 hr84=>?_
   clear hr84
   rcases r84 with r84 | r84
   ·conv=>arg 3; whnf
    exact Zh rfl
   ·conv=>arg 3; whnf
    exact Zh rfl
 ·conv=>arg 3; whnf
  exact Zh rfl
theorem Zky {t0:Bool} {t1:Bool} {t2:Bool} {t3:Bool} {b:Zt} {c:Int} {m1_0:(List Int)} {m2_0:(List Zr)} {m3_0:(List Zi)} {m4_0:(List (Int×Int))} {m5_0:(List (Int×Int))} {m6_0:(List (Zk×Int))}:∀r,(Zez b c m1_0 m2_0 m3_0 m5_0 m6_0)=some r→evW ctx 42 [(.ptr 0 0),(.d (D.agg (dA t0 t1 t2 t3 b))),(.d (Ze c))] [(.cells [(.sl 1 1),(.sl 2 2),(.sl 3 2),(.mp 4),(.mp 5),(.mp 6)]),(.arr 1 (List.map Ze m1_0)),(.arr 2 (List.map ZI m2_0)),(.arr 2 (List.map Zb0 m3_0)),(.mp (mpD Ze Ze m4_0)),(.mp (mpD Ze Ze m5_0)),(.mp (mpD Zs Ze m6_0))]=some ((ZhP t0 t1 t2 t3 b c m1_0 m2_0 m3_0 m4_0 m5_0 m6_0) r):=by
 show Z6 _ (fun r rhs=>rhs=some ((ZhP t0 t1 t2 t3 b c m1_0 m2_0 m3_0 m4_0 m5_0 m6_0) r)) _
 unfold Zez
 rw[Zeh ctx 42 ZAa _ _ rfl rfl]
 conv=>arg 3; whnf
 refine Zo (Zam _ _) ?_
 conv=>arg 3; whnf
 refine Zf (ZeZ (f:=Ze) (g:=Ze) (fun ka kb:Int=>(ka==kb)) (fun _ _=>rfl) m4_0 c (m3_0.length:Int)) ?_
 conv=>arg 3; whnf
 refine Zp _ ZmZ rfl fun x0 hx0=>?_
 conv=>arg 3; whnf
 refine Zo (Zam _ _) ?_
 conv=>arg 3; whnf
 refine Zc _ (ZiL _) fun r85 hr85=>?_
 clear hr85
 rcases r85 with r85 | (r85 | r85)
 ·conv=>arg 3; whnf
  exact Zh rfl
 ·conv=>arg 3; whnf
  exact Zh rfl
 ·conv=>arg 3; whnf
  exact Zh rfl
def ZkJ (r:Bool):D:=(D.bool r)
theorem Zno {a:Int}:∀r,(ZdW a)=some r→evD ctx 54 [(.d (Ze a))]=some (ZkJ r):=by
 show Z6 _ (fun r rhs=>rhs=some (ZkJ r)) _
 unfold ZdW
 rw[ZcP ctx 54 ZzC _ rfl rfl]
 conv=>arg 3; whnf
 refine Zg rfl ?_ ?_
 ·conv=>arg 3; whnf
  exact Zh rfl
 ·conv=>arg 3; whnf
  refine Zg rfl ?_ ?_
  ·conv=>arg 3; whnf
   exact Zh rfl
  ·conv=>arg 3; whnf
   exact Zh rfl
def Zdw (r:Int):D:=(Ze r)
def Zda (t0:Bool) (a:(List Int)):(Int⊕Unit)→Ex×List V×Zn
  | (.inl r)=>(.ret,[(.d (Ze r))],[])
  | (.inr r)=>(.exit 0,[.bad],[])
theorem Zfp {t0:Bool} {a:(List Int)}:∀(s0:Int) (r:(Int⊕Unit)),lp (Za4 a (fun z0=>ZdW z0)) s0=some r→lpW ctx 0 [0,1,7,8] [4] Zrl [(.d (D.list t0 (List.map Ze a))),(.d (D.fn 54 [])),(.d (Ze (a.length:Int))),(.d (Ze s0))] []=some ((Zda t0 a) r):=by
 refine Zbc (Zda t0 a) ?_
 intro s0 rcl ih
 show Z6 _ _ (lpW _ _ _ _ _ _ _)
 unfold Za4
 rw[Zbd]
 conv=>arg 3; whnf
 refine Zg rfl ?_ ?_
 ·conv=>arg 3; whnf
  refine Zj rfl rfl fun x1 hx1=>?_
  conv=>arg 3; whnf
  refine Zp _ Zno rfl fun x2 hx2=>?_
  conv=>arg 3; whnf
  refine Zg rfl ?_ ?_
  ·conv=>arg 3; whnf
   exact Zh rfl
  ·conv=>arg 3; whnf
   exact Zd (ih _)
 ·conv=>arg 3; whnf
  exact Zh rfl
theorem ZfV {t0:Bool} {a:(List Int)}:∀r,(ZbD a (fun z0=>ZdW z0))=some r→evD ctx 101 [(.d (D.list t0 (List.map Ze a))),(.d (D.fn 54 []))]=some (Zdw r):=by
 show Z6 _ (fun r rhs=>rhs=some (Zdw r)) _
 unfold ZbD
 rw[ZcP ctx 101 ZtL _ rfl rfl]
 conv=>arg 3; whnf
 refine Zo (Zam _ _) ?_
 conv=>arg 3; whnf
 refine Zc _ (Zfp _) fun r3 hr3=>?_
 clear hr3
 rcases r3 with r3 | r3
 ·conv=>arg 3; whnf
  exact Zh rfl
 ·conv=>arg 3; whnf
  exact Zh rfl
def Zdd (r:Bool):D:=(D.bool r)
theorem Zfr {t0:Bool} {a:(List Int)}:∀r,(ZaH a (fun z0=>ZdW z0))=some r→evD ctx 53 [(.d (D.list t0 (List.map Ze a))),(.d (D.fn 54 []))]=some (Zdd r):=by
 show Z6 _ (fun r rhs=>rhs=some (Zdd r)) _
 unfold ZaH
 rw[ZcP ctx 53 ZyN _ rfl rfl]
 conv=>arg 3; whnf
 refine Zp _ ZfV rfl fun x0 hx0=>?_
 conv=>arg 3; whnf
 refine Zg rfl ?_ ?_
 ·conv=>arg 3; whnf
  exact Zh rfl
 ·conv=>arg 3; whnf
  exact Zh rfl
def ZkL (r:Bool):D:=(D.bool r)
theorem ZjW {t0:Bool} {t1:Bool} {a:Int} {b0:(List Int)} {b1:(List Zr)}:∀r,(Zgg a b0)=some r→evD ctx 55 [(.d (Ze a)),(.d (D.rptr [(D.list t0 (List.map Ze b0)),(D.list t1 (List.map ZI b1))]))]=some (ZkL r):=by
 show Z6 _ (fun r rhs=>rhs=some (ZkL r)) _
 unfold Zgg
 rw[ZcP ctx 55 Zzx _ rfl rfl]
 conv=>arg 3; whnf
 refine Zg rfl ?_ ?_
 ·conv=>arg 3; whnf
  refine Zo (Zam _ _) ?_
  conv=>arg 3; whnf
  refine Zg rfl ?_ ?_
  ·conv=>arg 3; whnf
   exact Zh rfl
  ·conv=>arg 3; whnf
   exact Zh rfl
 ·conv=>arg 3; whnf
  exact Zh rfl
def ZlN (r:((List Int)×Bool)):D:=(D.tup [(D.list true (List.map Ze r.1)),(D.bool r.2)])
def Zkb (t0:Bool) (t1:Bool) (a:Zb3) (s0:(List Int)×(List Bool)) (s1:Int):(Unit⊕Unit)→Ex×List V×Zn
  | (.inl r)=>(.exit 3,[(.ptr 0 0),(.sl 1 1),(.sl 2 1),(.d (Ze s1)),(.d (Ze (a.work.length:Int))),(.d (Ze s1))],[(.cells [(.d (D.list t0 (List.map Ze a.work))),(.d (D.list t1 (List.map ZI a.edges)))]),(.arr 1 (List.map Ze s0.1)),(.arr 1 (List.map D.bool s0.2))])
  | (.inr r)=>(.exit 4,[(.ptr 0 0),(.sl 1 1),(.sl 2 1),(.d (Ze s1)),(.d (Ze (a.work.length:Int))),(.d (Ze s1))],[(.cells [(.d (D.list t0 (List.map Ze a.work))),(.d (D.list t1 (List.map ZI a.edges)))]),(.arr 1 (List.map Ze s0.1)),(.arr 1 (List.map D.bool s0.2))])
theorem ZmQ {t0:Bool} {t1:Bool} {a:Zb3} {s0:(List Int)×(List Bool)} {s1:Int}:∀(s3:Int) (r:(Unit⊕Unit)),lp (ZfU a s0 s1) s3=some r→lpW ctx 0 [1,4,5,6,21,22,30,31,32] [1,4,5,6,21,22] Zwd [(.ptr 0 0),(.sl 1 1),(.sl 2 1),(.d (Ze s1)),(.d (Ze (a.work.length:Int))),(.d (Ze s1)),(.d (D.list t1 (List.map ZI a.edges))),(.d (Ze (a.edges.length:Int))),(.d (Ze s3))] [(.cells [(.d (D.list t0 (List.map Ze a.work))),(.d (D.list t1 (List.map ZI a.edges)))]),(.arr 1 (List.map Ze s0.1)),(.arr 1 (List.map D.bool s0.2))]=some ((Zkb t0 t1 a s0 s1) r):=by
 refine Zbc (Zkb t0 t1 a s0 s1) ?_
 intro s3 rcl ih
 show Z6 _ _ (lpW _ _ _ _ _ _ _)
 unfold ZfU
 rw[Zbd]
 conv=>arg 3; whnf
 refine Zg rfl ?_ ?_
 ·conv=>arg 3; whnf
  refine Zj rfl rfl fun x4 hx4=>?_
  conv=>arg 3; whnf
  refine Zg rfl ?_ ?_
  ·conv=>arg 3; whnf
   refine Zj rfl rfl fun x5 hx5=>?_
   conv=>arg 3; whnf
   refine Zf (Zl rfl hx5) ?_
   conv=>arg 3; whnf
   refine Zg rfl ?_ ?_
   ·conv=>arg 3; whnf
    exact Zd (ih _)
   ·conv=>arg 3; whnf
    exact Zh rfl
  ·conv=>arg 3; whnf
   exact Zd (ih _)
 ·conv=>arg 3; whnf
  exact Zh rfl
def Zj5 (t0:Bool) (t1:Bool) (a:Zb3) (s0:(List Int)×(List Bool)):(((List Int)×(List Bool))⊕Unit)→Ex×List V×Zn
  | (.inl r)=>(.exit 1,[(.ptr 0 0),(.sl 1 1),(.sl 2 1)],[(.cells [(.d (D.list t0 (List.map Ze a.work))),(.d (D.list t1 (List.map ZI a.edges)))]),(.arr 1 (List.map Ze r.1)),(.arr 1 (List.map D.bool r.2))])
  | (.inr r)=>(.exit 2,[(.ptr 0 0),(.sl 1 1),(.sl 2 1)],[(.cells [(.d (D.list t0 (List.map Ze a.work))),(.d (D.list t1 (List.map ZI a.edges)))]),(.arr 1 (List.map Ze s0.1)),(.arr 1 (List.map D.bool s0.2))])
theorem ZmX {t0:Bool} {t1:Bool} {a:Zb3} {s0:(List Int)×(List Bool)}:∀(s1:Int) (r:(((List Int)×(List Bool))⊕Unit)),lp (ZeT a s0) s1=some r→lpW ctx 0 [1,4,5,21,22] [1,4,5] ZwI [(.ptr 0 0),(.sl 1 1),(.sl 2 1),(.d (Ze (a.work.length:Int))),(.d (Ze s1))] [(.cells [(.d (D.list t0 (List.map Ze a.work))),(.d (D.list t1 (List.map ZI a.edges)))]),(.arr 1 (List.map Ze s0.1)),(.arr 1 (List.map D.bool s0.2))]=some ((Zj5 t0 t1 a s0) r):=by
 refine Zbc (Zj5 t0 t1 a s0) ?_
 intro s1 rcl ih
 show Z6 _ _ (lpW _ _ _ _ _ _ _)
 unfold ZeT
 rw[Zbd]
 conv=>arg 3; whnf
 refine Zg rfl ?_ ?_
 ·conv=>arg 3; whnf
  refine Zj rfl rfl fun x2 hx2=>?_
  conv=>arg 3; whnf
  refine Zf (Zl rfl hx2) ?_
  conv=>arg 3; whnf
  refine Zg rfl ?_ ?_
  ·conv=>arg 3; whnf
   exact Zd (ih _)
  ·conv=>arg 3; whnf
   refine Zo (Zam _ _) ?_
   conv=>arg 3; whnf
   refine Zc _ (ZmQ _) fun r6 hr6=>?_
   clear hr6
   rcases r6 with r6 | r6
   ·conv=>arg 3; whnf
    exact Zd (ih _)
   ·conv=>arg 3; whnf
    refine Zf (ZaF rfl hx2) ?_
    conv=>arg 3; whnf
    refine Zf (Zl rfl hx2) ?_
    conv=>arg 3; whnf
    refine Zo (Z4 D.bool s0.2 s1.toNat true) ?_
    conv=>arg 3; whnf
    refine ZbC rfl ?_
    conv=>arg 3; whnf
    refine Zg (Zjp Ze s0.1 1) ?_ ?_
    ·conv=>arg 3; whnf
     refine Zo (Zjl Ze s0.1 [s1]) ?_
     conv=>arg 3; whnf
     exact Zh rfl
    ·exact ZbG
 ·conv=>arg 3; whnf
  exact Zh rfl
def ZjS (t0:Bool) (t1:Bool) (a:Zb3):((List Int)⊕(List Int))→Ex×List V×Zn
  | (.inl r)=>(.ret,[(.nilsl 1),(.d (D.bool false)),(.sl 0 1)],[(.arr 1 (List.map Ze r))])
  | (.inr r)=>(.exit 0,[.bad,.bad,(.sl 0 1)],[(.arr 1 (List.map Ze r))])
theorem Zm9 {t0:Bool} {t1:Bool} {a:Zb3}:∀(s0:(List Int)×(List Bool)) (r:((List Int)⊕(List Int))),lp (ZfW a) s0=some r→lpW ctx 0 [1,4,5] [2,3,4] ZwW [(.ptr 0 0),(.sl 1 1),(.sl 2 1)] [(.cells [(.d (D.list t0 (List.map Ze a.work))),(.d (D.list t1 (List.map ZI a.edges)))]),(.arr 1 (List.map Ze s0.1)),(.arr 1 (List.map D.bool s0.2))]=some ((ZjS t0 t1 a) r):=by
 refine Zbc (ZjS t0 t1 a) ?_
 intro s0 rcl ih
 show Z6 _ _ (lpW _ _ _ _ _ _ _)
 unfold ZfW
 rw[Zbd]
 conv=>arg 3; whnf
 refine Zo (Zam _ _) ?_
 conv=>arg 3; whnf
 refine Zo (Zam _ _) ?_
 conv=>arg 3; whnf
 refine Zg rfl ?_ ?_
 ·conv=>arg 3; whnf
  refine Zo (Zam _ _) ?_
  conv=>arg 3; whnf
  refine Zc _ (ZmX _) fun r7 hr7=>?_
  clear hr7
  rcases r7 with r7 | r7
  ·conv=>arg 3; whnf
   exact Zd (ih _)
  ·conv=>arg 3; whnf
   exact Zh rfl
 ·conv=>arg 3; whnf
  exact Zh rfl
theorem Zk0 {t0:Bool} {t1:Bool} {a:Zb3}:∀r,(ZfZ a)=some r→evD ctx 57 [(.d (D.agg [(D.list t0 (List.map Ze a.work)),(D.list t1 (List.map ZI a.edges))]))]=some (ZlN r):=by
 show Z6 _ (fun r rhs=>rhs=some (ZlN r)) _
 unfold ZfZ
 rw[ZcP ctx 57 ZzZ _ rfl rfl]
 conv=>arg 3; whnf
 refine Zo (Zam _ _) ?_
 conv=>arg 3; whnf
 refine Zg rfl ?_ ?_
 ·conv=>arg 3; whnf
  refine Zo (Zyf D.bool (false:Bool) (a.work.length:Int)) ?_
  conv=>arg 3; whnf
  refine Zc _ (Zm9 _) fun r8 hr8=>?_
  clear hr8
  rcases r8 with r8 | r8
  ·conv=>arg 3; whnf
   exact Zh rfl
  ·conv=>arg 3; whnf
   exact Zh rfl
 ·exact ZbG
def ZlT (r:Int):D:=(Ze r)
def ZjX (t0:Bool) (t1:Bool) (a:Zb3):(Unit⊕Unit)→Ex×List V×Zn
  | (.inl r)=>(.ret,[(.ptr 0 0),(.d (Ze 42))],[(.cells [(.d (D.list t0 (List.map Ze a.work))),(.d (D.list t1 (List.map ZI a.edges)))])])
  | (.inr r)=>(.exit 0,[(.ptr 0 0),.bad],[(.cells [(.d (D.list t0 (List.map Ze a.work))),(.d (D.list t1 (List.map ZI a.edges)))])])
theorem Zna {t0:Bool} {t1:Bool} {a:Zb3}:∀(s1:Int) (r:(Unit⊕Unit)),lp (Ze8 a) s1=some r→lpW ctx 0 [1,3,23,24,25] [1,2] ZwL [(.ptr 0 0),(.fn 55 [(.ptr 0 0)]),(.d (D.list t1 (List.map ZI a.edges))),(.d (Ze (a.edges.length:Int))),(.d (Ze s1))] [(.cells [(.d (D.list t0 (List.map Ze a.work))),(.d (D.list t1 (List.map ZI a.edges)))])]=some ((ZjX t0 t1 a) r):=by
 refine Zbc (ZjX t0 t1 a) ?_
 intro s1 rcl ih
 show Z6 _ _ (lpW _ _ _ _ _ _ _)
 unfold Ze8
 rw[Zbd]
 conv=>arg 3; whnf
 refine Zg rfl ?_ ?_
 ·conv=>arg 3; whnf
  refine Zj rfl rfl fun x2 hx2=>?_
  conv=>arg 3; whnf
  refine Zp _ ZjW rfl fun x3 hx3=>?_
  conv=>arg 3; whnf
  refine Zg rfl ?_ ?_
  ·conv=>arg 3; whnf
   refine Zp _ ZjW rfl fun x4 hx4=>?_
   conv=>arg 3; whnf
   refine Zg rfl ?_ ?_
   ·conv=>arg 3; whnf
    refine Zg rfl ?_ ?_
    ·conv=>arg 3; whnf
     exact Zh rfl
    ·conv=>arg 3; whnf
     refine Zg rfl ?_ ?_
     ·conv=>arg 3; whnf
      refine Zg (Zwo ZI a.edges s1.toNat) ?_ ?_
      ·conv=>arg 3; whnf
       refine ZbC rfl ?_
       conv=>arg 3; whnf
       refine Zo (Zre ZI a.edges s1.toNat) ?_
       conv=>arg 3; whnf
       refine Zp _ Zfs rfl fun x5 hx5=>?_
       conv=>arg 3; whnf
       refine Zg rfl ?_ ?_
       ·conv=>arg 3; whnf
        exact Zh rfl
       ·conv=>arg 3; whnf
        exact Zd (ih _)
      ·exact ZbG
     ·exact ZbG
   ·conv=>arg 3; whnf
    exact Zh rfl
  ·conv=>arg 3; whnf
   exact Zh rfl
 ·conv=>arg 3; whnf
  exact Zh rfl
theorem Zlb {t0:Bool} {t1:Bool} {a:Zb3}:∀r,(Zhp a)=some r→evD ctx 25 [(.d (D.agg [(D.list t0 (List.map Ze a.work)),(D.list t1 (List.map ZI a.edges))]))]=some (ZlT r):=by
 show Z6 _ (fun r rhs=>rhs=some (ZlT r)) _
 unfold Zhp
 rw[ZcP ctx 25 ZzU _ rfl rfl]
 conv=>arg 3; whnf
 refine Zo (Zam _ _) ?_
 conv=>arg 3; whnf
 refine Zg rfl ?_ ?_
 ·conv=>arg 3; whnf
  exact Zh rfl
 ·conv=>arg 3; whnf
  refine Zo (Zam _ _) ?_
  conv=>arg 3; whnf
  refine Zg rfl ?_ ?_
  ·conv=>arg 3; whnf
   exact Zh rfl
  ·conv=>arg 3; whnf
   refine Zp _ Zfr rfl fun x0 hx0=>?_
   conv=>arg 3; whnf
   refine Zg rfl ?_ ?_
   ·conv=>arg 3; whnf
    exact Zh rfl
   ·conv=>arg 3; whnf
    refine Zo (Zam _ _) ?_
    conv=>arg 3; whnf
    refine Zc _ (Zna _) fun r6 hr6=>?_
    clear hr6
    rcases r6 with r6 | r6
    ·conv=>arg 3; whnf
     exact Zh rfl
    ·conv=>arg 3; whnf
     refine Zp _ Zk0 rfl fun x7 hx7=>?_
     conv=>arg 3; whnf
     refine Zg rfl ?_ ?_
     ·conv=>arg 3; whnf
      exact Zh rfl
     ·conv=>arg 3; whnf
      exact Zh rfl
def ZkE (r:(ZkR×Int)):D:=(D.tup [(D.agg [(D.list true (List.map Ze r.1.dag.work)),(D.list true (List.map ZI r.1.dag.edges)),(D.list true (List.map Zb0 r.1.pieces))]),(Ze r.2)])
def Zi0 (t0:Bool) (t1:Bool) (t2:Bool) (t3:Bool) (a:Zt):((List Int)×(List Zr)×(List Zi)×(List (Int×Int))×(List (Int×Int))×(List (Zk×Int)))→Ex×List V×Zn
  | r=>(.exit 0,[(.ptr 0 0),(.ptr 1 0),(.ptr 2 0)],[(.cells (dV t0 t1 t2 t3 a)),(.cells [(.sl 3 1),(.sl 4 2),(.sl 5 2)]),(.cells [(.sl 6 1),(.sl 7 2),(.sl 8 2),(.mp 9),(.mp 10),(.mp 11)]),(.arr 1 []),(.arr 2 []),(.arr 2 []),(.arr 1 (List.map Ze r.1)),(.arr 2 (List.map ZI r.2.1)),(.arr 2 (List.map Zb0 r.2.2.1)),(.mp (mpD Ze Ze r.2.2.2.1)),(.mp (mpD Ze Ze r.2.2.2.2.1)),(.mp (mpD Zs Ze r.2.2.2.2.2))])
theorem ZlG {t0:Bool} {t1:Bool} {t2:Bool} {t3:Bool} {a:Zt}:∀(s1:Int×(List Int)×(List Zr)×(List Zi)×(List (Int×Int))×(List (Int×Int))×(List (Zk×Int))) (r:((List Int)×(List Zr)×(List Zi)×(List (Int×Int))×(List (Int×Int))×(List (Zk×Int)))),lp (Zdq a) s1=some r→lpW ctx 0 [1,2,5,31,32] [1,2,5] Zvr [(.ptr 0 0),(.ptr 1 0),(.ptr 2 0),(.d (Ze (a.parts.length:Int))),(.d (Ze s1.1))] [(.cells (dV t0 t1 t2 t3 a)),(.cells [(.sl 3 1),(.sl 4 2),(.sl 5 2)]),(.cells [(.sl 6 1),(.sl 7 2),(.sl 8 2),(.mp 9),(.mp 10),(.mp 11)]),(.arr 1 []),(.arr 2 []),(.arr 2 []),(.arr 1 (List.map Ze s1.2.1)),(.arr 2 (List.map ZI s1.2.2.1)),(.arr 2 (List.map Zb0 s1.2.2.2.1)),(.mp (mpD Ze Ze s1.2.2.2.2.1)),(.mp (mpD Ze Ze s1.2.2.2.2.2.1)),(.mp (mpD Zs Ze s1.2.2.2.2.2.2))]=some ((Zi0 t0 t1 t2 t3 a) r):=by
 refine Zbc (Zi0 t0 t1 t2 t3 a) ?_
 intro s1 rcl ih
 show Z6 _ _ (lpW _ _ _ _ _ _ _)
 unfold Zdq
 rw[Zbd]
 conv=>arg 3; whnf
 refine Zg rfl ?_ ?_
 ·conv=>arg 3; whnf
  refine Zc _ Zky fun x2 hx2=>?_
  clear hx2
  rcases x2 with x2 | (x2 | x2)
  ·conv=>arg 3; whnf
   exact Zd (ih _)
  ·conv=>arg 3; whnf
   exact Zd (ih _)
  ·conv=>arg 3; whnf
   exact Zd (ih _)
 ·conv=>arg 3; whnf
  exact Zh rfl
def ZiZ (t0:Bool) (t1:Bool) (t2:Bool) (t3:Bool) (a:Zt) (r3:((List Int)×(List Zr)×(List Zi)×(List (Int×Int))×(List (Int×Int))×(List (Zk×Int)))):(List Zr)→Ex×List V×Zn
  | r=>(.exit 2,[(.ptr 0 0),(.ptr 1 0),(.ptr 2 0)],[(.cells (dV t0 t1 t2 t3 a)),(.cells [(.sl 3 1),(.sl 4 2),(.sl 5 2)]),(.cells [(.sl 6 1),(.sl 7 2),(.sl 8 2),(.mp 9),(.mp 10),(.mp 11)]),(.arr 1 []),(.arr 2 []),(.arr 2 []),(.arr 1 (List.map Ze r3.1)),(.arr 2 (List.map ZI r)),(.arr 2 (List.map Zb0 r3.2.2.1)),(.mp (mpD Ze Ze r3.2.2.2.1)),(.mp (mpD Ze Ze r3.2.2.2.2.1)),(.mp (mpD Zs Ze r3.2.2.2.2.2))])
theorem ZlF {t0:Bool} {t1:Bool} {t2:Bool} {t3:Bool} {a:Zt} {r3:((List Int)×(List Zr)×(List Zi)×(List (Int×Int))×(List (Int×Int))×(List (Zk×Int)))}:∀(s4:Int×(List Zr)) (r:(List Zr)),lp (ZdP a r3) s4=some r→lpW ctx 0 [1,2,5,41,42,43] [1,2,5] Zwa [(.ptr 0 0),(.ptr 1 0),(.ptr 2 0),(.d (D.list t1 (List.map ZI a.edges))),(.d (Ze (a.edges.length:Int))),(.d (Ze s4.1))] [(.cells (dV t0 t1 t2 t3 a)),(.cells [(.sl 3 1),(.sl 4 2),(.sl 5 2)]),(.cells [(.sl 6 1),(.sl 7 2),(.sl 8 2),(.mp 9),(.mp 10),(.mp 11)]),(.arr 1 []),(.arr 2 []),(.arr 2 []),(.arr 1 (List.map Ze r3.1)),(.arr 2 (List.map ZI s4.2)),(.arr 2 (List.map Zb0 r3.2.2.1)),(.mp (mpD Ze Ze r3.2.2.2.1)),(.mp (mpD Ze Ze r3.2.2.2.2.1)),(.mp (mpD Zs Ze r3.2.2.2.2.2))]=some ((ZiZ t0 t1 t2 t3 a r3) r):=by
 refine Zbc (ZiZ t0 t1 t2 t3 a r3) ?_
 intro s4 rcl ih
 show Z6 _ _ (lpW _ _ _ _ _ _ _)
 unfold ZdP
 rw[Zbd]
 conv=>arg 3; whnf
 refine Zg rfl ?_ ?_
 ·conv=>arg 3; whnf
  refine Zj rfl rfl fun x5 hx5=>?_
  conv=>arg 3; whnf
  refine Zf (Zcv (f:=Ze) (g:=Ze) (fun ka kb:Int=>(ka==kb)) (fun _ _=>rfl) r3.2.2.2.2.1 x5.src 0) ?_
  conv=>arg 3; whnf
  refine Zf (Zcv (f:=Ze) (g:=Ze) (fun ka kb:Int=>(ka==kb)) (fun _ _=>rfl) r3.2.2.2.1 x5.dst 0) ?_
  conv=>arg 3; whnf
  refine Zc _ Zbb fun x6 hx6=>?_
  conv=>arg 3; whnf
  exact Zd (ih _)
 ·conv=>arg 3; whnf
  exact Zh rfl
def Zi9 (t0:Bool) (t1:Bool) (t2:Bool) (t3:Bool) (a:Zt) (r3:((List Int)×(List Zr)×(List Zi)×(List (Int×Int))×(List (Int×Int))×(List (Zk×Int)))):(List Zr)→Ex×List V×Zn
  | r=>(.exit 4,[(.ptr 0 0),(.ptr 1 0),(.ptr 2 0)],[(.cells (dV t0 t1 t2 t3 a)),(.cells [(.sl 3 1),(.sl 4 2),(.sl 5 2)]),(.cells [(.sl 6 1),(.sl 7 2),(.sl 8 2),(.mp 9),(.mp 10),(.mp 11)]),(.arr 1 []),(.arr 2 []),(.arr 2 []),(.arr 1 (List.map Ze r3.1)),(.arr 2 (List.map ZI r)),(.arr 2 (List.map Zb0 r3.2.2.1)),(.mp (mpD Ze Ze r3.2.2.2.1)),(.mp (mpD Ze Ze r3.2.2.2.2.1)),(.mp (mpD Zs Ze r3.2.2.2.2.2))])
theorem ZlD {t0:Bool} {t1:Bool} {t2:Bool} {t3:Bool} {a:Zt} {r3:((List Int)×(List Zr)×(List Zi)×(List (Int×Int))×(List (Int×Int))×(List (Zk×Int)))}:∀(s8:Int×(List Zr)) (r:(List Zr)),lp (ZdR a r3) s8=some r→lpW ctx 0 [1,2,5,65,66,67] [1,2,5] ZvM [(.ptr 0 0),(.ptr 1 0),(.ptr 2 0),(.d (D.list t2 (List.map Zs a.futures))),(.d (Ze (a.futures.length:Int))),(.d (Ze s8.1))] [(.cells (dV t0 t1 t2 t3 a)),(.cells [(.sl 3 1),(.sl 4 2),(.sl 5 2)]),(.cells [(.sl 6 1),(.sl 7 2),(.sl 8 2),(.mp 9),(.mp 10),(.mp 11)]),(.arr 1 []),(.arr 2 []),(.arr 2 []),(.arr 1 (List.map Ze r3.1)),(.arr 2 (List.map ZI s8.2)),(.arr 2 (List.map Zb0 r3.2.2.1)),(.mp (mpD Ze Ze r3.2.2.2.1)),(.mp (mpD Ze Ze r3.2.2.2.2.1)),(.mp (mpD Zs Ze r3.2.2.2.2.2))]=some ((Zi9 t0 t1 t2 t3 a r3) r):=by
 refine Zbc (Zi9 t0 t1 t2 t3 a r3) ?_
 intro s8 rcl ih
 show Z6 _ _ (lpW _ _ _ _ _ _ _)
 unfold ZdR
 rw[Zbd]
 conv=>arg 3; whnf
 refine Zg rfl ?_ ?_
 ·conv=>arg 3; whnf
  refine Zj rfl rfl fun x9 hx9=>?_
  conv=>arg 3; whnf
  refine Zf (Zcv (f:=Ze) (g:=Ze) (fun ka kb:Int=>(ka==kb)) (fun _ _=>rfl) r3.2.2.2.2.1 x9.maker 0) ?_
  conv=>arg 3; whnf
  refine Zf (Zcv (f:=Zs) (g:=Ze) (fun ka kb:Zk=>((ka.maker==kb.maker)&&((ka.user==kb.user)&&((ka.pos==kb.pos)&&true)))) (fun _ _=>rfl) r3.2.2.2.2.2 x9 0) ?_
  conv=>arg 3; whnf
  refine Zc _ Zbb fun x10 hx10=>?_
  conv=>arg 3; whnf
  exact Zd (ih _)
 ·conv=>arg 3; whnf
  exact Zh rfl
def Zja (t3:Bool) (a:Zt) (r3:((List Int)×(List Zr)×(List Zi)×(List (Int×Int))×(List (Int×Int))×(List (Zk×Int)))) (s12:Int×(List Int)×(List Zr)×(List Zi)) (x13:Zu):(List Zr)→Ex×List V×Zn
  | r=>(.exit 8,[(.ptr 0 0),(.ptr 1 0),(.ptr 2 0),(.d (Ze (w64 ((List.length (s12.2.2.2++[(Zi.mk (-1) s12.1)]):Int)-1)))),(.d (D.list t3 (List.map ZA a.barriers))),(.d (Ze (a.barriers.length:Int))),(.d (Ze s12.1))],[(.cells [(.sl 3 1),(.sl 4 2),(.sl 5 2)]),(.cells [(.sl 6 1),(.sl 7 2),(.sl 8 2),(.mp 9),(.mp 10),(.mp 11)]),(.cells [(.d (D.list true (List.map Ze x13.ins))),(.d (D.list true (List.map Ze x13.outs)))]),(.arr 1 []),(.arr 2 []),(.arr 2 []),(.arr 1 (List.map Ze (s12.2.1++[1]))),(.arr 2 (List.map ZI r)),(.arr 2 (List.map Zb0 (s12.2.2.2++[(Zi.mk (-1) s12.1)]))),(.mp (mpD Ze Ze r3.2.2.2.1)),(.mp (mpD Ze Ze r3.2.2.2.2.1)),(.mp (mpD Zs Ze r3.2.2.2.2.2))])
theorem ZlE {t3:Bool} {a:Zt} {r3:((List Int)×(List Zr)×(List Zi)×(List (Int×Int))×(List (Int×Int))×(List (Zk×Int)))} {s12:Int×(List Int)×(List Zr)×(List Zi)} {x13:Zu}:∀(s15:Int×(List Zr)) (r:(List Zr)),lp (ZeN r3 s12 x13) s15=some r→lpW ctx 0 [2,5,12,13,88,89,90,100,101,102] [2,5,12,13,88,89,90] ZxB [(.ptr 0 0),(.ptr 1 0),(.ptr 2 0),(.d (Ze (w64 ((List.length (s12.2.2.2++[(Zi.mk (-1) s12.1)]):Int)-1)))),(.d (D.list t3 (List.map ZA a.barriers))),(.d (Ze (a.barriers.length:Int))),(.d (Ze s12.1)),(.d (D.list true (List.map Ze x13.ins))),(.d (Ze (x13.ins.length:Int))),(.d (Ze s15.1))] [(.cells [(.sl 3 1),(.sl 4 2),(.sl 5 2)]),(.cells [(.sl 6 1),(.sl 7 2),(.sl 8 2),(.mp 9),(.mp 10),(.mp 11)]),(.cells [(.d (D.list true (List.map Ze x13.ins))),(.d (D.list true (List.map Ze x13.outs)))]),(.arr 1 []),(.arr 2 []),(.arr 2 []),(.arr 1 (List.map Ze (s12.2.1++[1]))),(.arr 2 (List.map ZI s15.2)),(.arr 2 (List.map Zb0 (s12.2.2.2++[(Zi.mk (-1) s12.1)]))),(.mp (mpD Ze Ze r3.2.2.2.1)),(.mp (mpD Ze Ze r3.2.2.2.2.1)),(.mp (mpD Zs Ze r3.2.2.2.2.2))]=some ((Zja t3 a r3 s12 x13) r):=by
 refine Zbc (Zja t3 a r3 s12 x13) ?_
 intro s15 rcl ih
 show Z6 _ _ (lpW _ _ _ _ _ _ _)
 unfold ZeN
 rw[Zbd]
 conv=>arg 3; whnf
 refine Zg rfl ?_ ?_
 ·conv=>arg 3; whnf
  refine Zj rfl rfl fun x16 hx16=>?_
  conv=>arg 3; whnf
  refine Zf (Zcv (f:=Ze) (g:=Ze) (fun ka kb:Int=>(ka==kb)) (fun _ _=>rfl) r3.2.2.2.2.1 x16 0) ?_
  conv=>arg 3; whnf
  refine Zc _ Zbb fun x17 hx17=>?_
  conv=>arg 3; whnf
  exact Zd (ih _)
 ·conv=>arg 3; whnf
  exact Zh rfl
def Zi6 (t3:Bool) (a:Zt) (r3:((List Int)×(List Zr)×(List Zi)×(List (Int×Int))×(List (Int×Int))×(List (Zk×Int)))) (s12:Int×(List Int)×(List Zr)×(List Zi)) (x13:Zu):(List Zr)→Ex×List V×Zn
  | r=>(.exit 10,[(.ptr 0 0),(.ptr 1 0),(.d (D.list t3 (List.map ZA a.barriers))),(.d (Ze (a.barriers.length:Int))),(.d (Ze s12.1))],[(.cells [(.sl 2 1),(.sl 3 2),(.sl 4 2)]),(.cells [(.sl 5 1),(.sl 6 2),(.sl 7 2),(.mp 8),(.mp 9),(.mp 10)]),(.arr 1 []),(.arr 2 []),(.arr 2 []),(.arr 1 (List.map Ze (s12.2.1++[1]))),(.arr 2 (List.map ZI r)),(.arr 2 (List.map Zb0 (s12.2.2.2++[(Zi.mk (-1) s12.1)]))),(.mp (mpD Ze Ze r3.2.2.2.1)),(.mp (mpD Ze Ze r3.2.2.2.2.1)),(.mp (mpD Zs Ze r3.2.2.2.2.2))])
theorem ZlH {t3:Bool} {a:Zt} {r3:((List Int)×(List Zr)×(List Zi)×(List (Int×Int))×(List (Int×Int))×(List (Zk×Int)))} {s12:Int×(List Int)×(List Zr)×(List Zi)} {x13:Zu}:∀(s19:Int×(List Zr)) (r:(List Zr)),lp (ZeO r3 s12 x13) s19=some r→lpW ctx 0 [2,5,13,88,89,90,117,118,119] [2,5,88,89,90] Zv7 [(.ptr 0 0),(.ptr 1 0),(.d (Ze (w64 ((List.length (s12.2.2.2++[(Zi.mk (-1) s12.1)]):Int)-1)))),(.d (D.list t3 (List.map ZA a.barriers))),(.d (Ze (a.barriers.length:Int))),(.d (Ze s12.1)),(.d (D.list true (List.map Ze x13.outs))),(.d (Ze (x13.outs.length:Int))),(.d (Ze s19.1))] [(.cells [(.sl 2 1),(.sl 3 2),(.sl 4 2)]),(.cells [(.sl 5 1),(.sl 6 2),(.sl 7 2),(.mp 8),(.mp 9),(.mp 10)]),(.arr 1 []),(.arr 2 []),(.arr 2 []),(.arr 1 (List.map Ze (s12.2.1++[1]))),(.arr 2 (List.map ZI s19.2)),(.arr 2 (List.map Zb0 (s12.2.2.2++[(Zi.mk (-1) s12.1)]))),(.mp (mpD Ze Ze r3.2.2.2.1)),(.mp (mpD Ze Ze r3.2.2.2.2.1)),(.mp (mpD Zs Ze r3.2.2.2.2.2))]=some ((Zi6 t3 a r3 s12 x13) r):=by
 refine Zbc (Zi6 t3 a r3 s12 x13) ?_
 intro s19 rcl ih
 show Z6 _ _ (lpW _ _ _ _ _ _ _)
 unfold ZeO
 rw[Zbd]
 conv=>arg 3; whnf
 refine Zg rfl ?_ ?_
 ·conv=>arg 3; whnf
  refine Zj rfl rfl fun x20 hx20=>?_
  conv=>arg 3; whnf
  refine Zf (Zcv (f:=Ze) (g:=Ze) (fun ka kb:Int=>(ka==kb)) (fun _ _=>rfl) r3.2.2.2.1 x20 0) ?_
  conv=>arg 3; whnf
  refine Zc _ Zbb fun x21 hx21=>?_
  conv=>arg 3; whnf
  exact Zd (ih _)
 ·conv=>arg 3; whnf
  exact Zh rfl
def Zi4 (t3:Bool) (a:Zt) (r3:((List Int)×(List Zr)×(List Zi)×(List (Int×Int))×(List (Int×Int))×(List (Zk×Int)))):((List Int)×(List Zr)×(List Zi))→Ex×List V×Zn
  | r=>(.exit 6,[(.ptr 0 0),(.ptr 1 0)],[(.cells [(.sl 2 1),(.sl 3 2),(.sl 4 2)]),(.cells [(.sl 5 1),(.sl 6 2),(.sl 7 2),(.mp 8),(.mp 9),(.mp 10)]),(.arr 1 []),(.arr 2 []),(.arr 2 []),(.arr 1 (List.map Ze r.1)),(.arr 2 (List.map ZI r.2.1)),(.arr 2 (List.map Zb0 r.2.2)),(.mp (mpD Ze Ze r3.2.2.2.1)),(.mp (mpD Ze Ze r3.2.2.2.2.1)),(.mp (mpD Zs Ze r3.2.2.2.2.2))])
theorem ZlJ {t3:Bool} {a:Zt} {r3:((List Int)×(List Zr)×(List Zi)×(List (Int×Int))×(List (Int×Int))×(List (Zk×Int)))}:∀(s12:Int×(List Int)×(List Zr)×(List Zi)) (r:((List Int)×(List Zr)×(List Zi))),lp (ZdQ a r3) s12=some r→lpW ctx 0 [2,5,88,89,90] [2,5] Zvq [(.ptr 0 0),(.ptr 1 0),(.d (D.list t3 (List.map ZA a.barriers))),(.d (Ze (a.barriers.length:Int))),(.d (Ze s12.1))] [(.cells [(.sl 2 1),(.sl 3 2),(.sl 4 2)]),(.cells [(.sl 5 1),(.sl 6 2),(.sl 7 2),(.mp 8),(.mp 9),(.mp 10)]),(.arr 1 []),(.arr 2 []),(.arr 2 []),(.arr 1 (List.map Ze s12.2.1)),(.arr 2 (List.map ZI s12.2.2.1)),(.arr 2 (List.map Zb0 s12.2.2.2)),(.mp (mpD Ze Ze r3.2.2.2.1)),(.mp (mpD Ze Ze r3.2.2.2.2.1)),(.mp (mpD Zs Ze r3.2.2.2.2.2))]=some ((Zi4 t3 a r3) r):=by
 refine Zbc (Zi4 t3 a r3) ?_
 intro s12 rcl ih
 show Z6 _ _ (lpW _ _ _ _ _ _ _)
 unfold ZdQ
 rw[Zbd]
 conv=>arg 3; whnf
 refine Zg rfl ?_ ?_
 ·conv=>arg 3; whnf
  refine Zj rfl rfl fun x13 hx13=>?_
  conv=>arg 3; whnf
  refine Zc _ Zbr fun x14 hx14=>?_
  conv=>arg 3; whnf
  refine Zo (Zam _ _) ?_
  conv=>arg 3; whnf
  refine Zc _ (ZlE _) fun r18 hr18=>?_
  conv=>arg 3; whnf
  refine Zo (Zam _ _) ?_
  conv=>arg 3; whnf
  refine Zc _ (ZlH _) fun r22 hr22=>?_
  conv=>arg 3; whnf
  exact Zd (ih _)
 ·conv=>arg 3; whnf
  exact Zh rfl
theorem Znr {t0:Bool} {t1:Bool} {t2:Bool} {t3:Bool} {a:Zt}:∀r,(Zg8 a)=some r→evD ctx 16 [(.d (D.agg (dA t0 t1 t2 t3 a)))]=some (ZkE r):=by
 show Z6 _ (fun r rhs=>rhs=some (ZkE r)) _
 unfold Zg8
 rw[ZcP ctx 16 Zz6 _ rfl rfl]
 conv=>arg 3; whnf
 refine Zp _ ZkG rfl fun x0 hx0=>?_
 conv=>arg 3; whnf
 refine Zg rfl ?_ ?_
 ·conv=>arg 3; whnf
  exact Zh rfl
 ·conv=>arg 3; whnf
  refine Zo (Zam _ _) ?_
  conv=>arg 3; whnf
  refine Zc _ (ZlG _) fun r3 hr3=>?_
  conv=>arg 3; whnf
  refine Zo (Zam _ _) ?_
  conv=>arg 3; whnf
  refine Zc _ (ZlF _) fun r7 hr7=>?_
  conv=>arg 3; whnf
  refine Zo (Zam _ _) ?_
  conv=>arg 3; whnf
  refine Zc _ (ZlD _) fun r11 hr11=>?_
  conv=>arg 3; whnf
  refine Zo (Zam _ _) ?_
  conv=>arg 3; whnf
  refine Zc _ (ZlJ _) fun r23 hr23=>?_
  conv=>arg 3; whnf
  refine Zp _ Zlb rfl fun x24 hx24=>?_
  conv=>arg 3; whnf
  refine Zg rfl ?_ ?_
  ·conv=>arg 3; whnf
   exact Zh rfl
  ·conv=>arg 3; whnf
   exact Zh rfl
def Zlk (r:Int):D:=(Ze r)
theorem ZkD {t0:Bool} {t1:Bool} {t2:Bool} {a:ZkR} {b:Int}:∀r,(ZgT a b)=some r→evD ctx 23 [(.d (D.agg [(D.list t0 (List.map Ze a.dag.work)),(D.list t1 (List.map ZI a.dag.edges)),(D.list t2 (List.map Zb0 a.pieces))])),(.d (Ze b))]=some (Zlk r):=by
 show Z6 _ (fun r rhs=>rhs=some (Zlk r)) _
 unfold ZgT
 rw[ZcP ctx 23 ZCd _ rfl rfl]
 conv=>arg 3; whnf
 refine Zxi (f:=Zb0) (g:=(fun x:Zi=>(x.part,x.step))) (l:=a.pieces) (fun _=>rfl) fun x0 hx0=>?_
 conv=>arg 3; whnf
 exact Zh rfl
def ZlU (r:(List Int)):D:=(D.list true (List.map Ze r))
theorem Zoi {t0:Bool} {t1:Bool} {a:Zb3}:∀r,(Zid a)=some r→evD ctx 58 [(.d (D.agg [(D.list t0 (List.map Ze a.work)),(D.list t1 (List.map ZI a.edges))]))]=some (ZlU r):=by
 show Z6 _ (fun r rhs=>rhs=some (ZlU r)) _
 unfold Zid
 rw[ZcP ctx 58 Zzw _ rfl rfl]
 conv=>arg 3; whnf
 refine Zp _ Zlb rfl fun x0 hx0=>?_
 conv=>arg 3; whnf
 refine Zg rfl ?_ ?_
 ·conv=>arg 3; whnf
  exact Zh rfl
 ·conv=>arg 3; whnf
  refine Zp _ Zk0 rfl fun x1 hx1=>?_
  conv=>arg 3; whnf
  refine Zg rfl ?_ ?_
  ·conv=>arg 3; whnf
   exact Zh rfl
  ·conv=>arg 3; whnf
   exact Zh rfl
def ZkI (r:(Int×Bool)):D:=(D.tup [(Ze r.1),(D.bool r.2)])
theorem Znm {a:Zr} {b0:Int}:∀r,(Zfy a b0)=some r→evD ctx 104 [(.d (D.agg [(Ze a.src),(Ze a.dst)])),(.d (D.rptr [(Ze b0)]))]=some (ZkI r):=by
 show Z6 _ (fun r rhs=>rhs=some (ZkI r)) _
 unfold Zfy
 rw[ZcP ctx 104 Zv2 _ rfl rfl]
 conv=>arg 3; whnf
 refine Zg rfl ?_ ?_
 ·conv=>arg 3; whnf
  exact Zh rfl
 ·conv=>arg 3; whnf
  exact Zh rfl
def Zjj (r:Bool):D:=(D.bool r)
theorem ZiX {a:Int}:∀r,(Zga a)=some r→evD ctx 169 [(.d (Ze a))]=some (Zjj r):=by
 show Z6 _ (fun r rhs=>rhs=some (Zjj r)) _
 unfold Zga
 rw[ZcP ctx 169 Zwz _ rfl rfl]
 conv=>arg 3; whnf
 refine Zg rfl ?_ ?_
 ·conv=>arg 3; whnf
  exact Zh rfl
 ·conv=>arg 3; whnf
  exact Zh rfl
def ZjY (r:Bool):D:=(D.bool r)
theorem Z0 {a:Int} {b:Int}:∀r,(Z8 a b)=some r→evD ctx 158 [(.d (Ze a)),(.d (Ze b))]=some (ZjY r):=by
 show Z6 _ (fun r rhs=>rhs=some (ZjY r)) _
 unfold Z8
 rw[ZcP ctx 158 Zwe _ rfl rfl]
 conv=>arg 3; whnf
 refine Zp _ ZiX rfl fun x0 hx0=>?_
 conv=>arg 3; whnf
 refine Zg rfl ?_ ?_
 ·conv=>arg 3; whnf
  refine Zp _ ZiX rfl fun x1 hx1=>?_
  conv=>arg 3; whnf
  refine Zg rfl ?_ ?_
  ·conv=>arg 3; whnf
   refine Zg rfl ?_ ?_
   ·conv=>arg 3; whnf
    exact Zh rfl
   ·conv=>arg 3; whnf
    exact Zh rfl
  ·conv=>arg 3; whnf
   exact Zh rfl
 ·conv=>arg 3; whnf
  refine Zg rfl ?_ ?_
  ·conv=>arg 3; whnf
   exact Zh rfl
  ·conv=>arg 3; whnf
   exact Zh rfl
def ZeH (b:Int) (c:Int) (m0_0:(List Int)):(List Int)→V×Zn
  | r=>((.d (D.tup [])),[(.arr 1 (List.map Ze r))])
def Zd3 (b:Int) (c:Int) (s0:Int×(List Int)):(List Int)→Ex×List V×Zn
  | r=>(.exit 2,[(.sl 0 1),(.d (Ze b)),(.d (Ze c)),(.d (Ze s0.1))],[(.arr 1 (List.map Ze r))])
theorem Zgu {b:Int} {c:Int} {s0:Int×(List Int)}:∀(s1:Int×(List Int)) (r:(List Int)),lp (Zbo b) s1=some r→lpW ctx 1 [0,1,2,6,7] [0,1,2,6] Zun [(.sl 0 1),(.d (Ze b)),(.d (Ze c)),(.d (Ze s0.1)),(.d (Ze s1.1))] [(.arr 1 (List.map Ze s1.2))]=some ((Zd3 b c s0) r):=by
 refine Zbc (Zd3 b c s0) ?_
 intro s1 rcl ih
 show Z6 _ _ (lpW _ _ _ _ _ _ _)
 unfold Zbo
 rw[Zbd]
 conv=>arg 3; whnf
 refine Zg rfl ?_ ?_
 ·conv=>arg 3; whnf
  refine Zj rfl rfl fun x2 hx2=>?_
  conv=>arg 3; whnf
  refine Zf (Zl rfl hx2) ?_
  conv=>arg 3; whnf
  refine Zj rfl rfl fun x3 hx3=>?_
  conv=>arg 3; whnf
  refine Zf (Zl rfl hx3) ?_
  conv=>arg 3; whnf
  refine Zp _ Z0 rfl fun x4 hx4=>?_
  conv=>arg 3; whnf
  refine Zg rfl ?_ ?_
  ·conv=>arg 3; whnf
   refine Zf (ZaF rfl hx3) ?_
   conv=>arg 3; whnf
   refine Zf (Zl rfl hx3) ?_
   conv=>arg 3; whnf
   refine Zf (ZaF rfl hx2) ?_
   conv=>arg 3; whnf
   refine Zf (Zl rfl hx2) ?_
   conv=>arg 3; whnf
   refine Zf (ZaF rfl hx2) ?_
   conv=>arg 3; whnf
   refine Zf (Zl rfl hx2) ?_
   conv=>arg 3; whnf
   refine Zo (Z4 Ze s1.2 s1.1.toNat x3) ?_
   conv=>arg 3; whnf
   refine Zj rfl rfl fun x5 hx5=>?_
   conv=>arg 3; whnf
   refine Zf (Zl rfl hx5) ?_
   conv=>arg 3; whnf
   refine Zo (Z4 Ze (List.set s1.2 s1.1.toNat x3) (w64 (s1.1-1)).toNat x2) ?_
   conv=>arg 3; whnf
   exact Zd (ih _)
  ·conv=>arg 3; whnf
   exact Zh rfl
 ·conv=>arg 3; whnf
  exact Zh rfl
def Zd1 (b:Int) (c:Int):(List Int)→Ex×List V×Zn
  | r=>(.exit 0,[],[(.arr 1 (List.map Ze r))])
theorem Zgx {b:Int} {c:Int}:∀(s0:Int×(List Int)) (r:(List Int)),lp (Zbn b c) s0=some r→lpW ctx 1 [0,1,2,6] [] ZtJ [(.sl 0 1),(.d (Ze b)),(.d (Ze c)),(.d (Ze s0.1))] [(.arr 1 (List.map Ze s0.2))]=some ((Zd1 b c) r):=by
 refine Zbc (Zd1 b c) ?_
 intro s0 rcl ih
 show Z6 _ _ (lpW _ _ _ _ _ _ _)
 unfold Zbn
 rw[Zbd]
 conv=>arg 3; whnf
 refine Zg rfl ?_ ?_
 ·conv=>arg 3; whnf
  refine Zc _ (Zgu _) fun r6 hr6=>?_
  conv=>arg 3; whnf
  exact Zd (ih _)
 ·conv=>arg 3; whnf
  exact Zh rfl
theorem Zb4 {b:Int} {c:Int} {m0_0:(List Int)}:∀r,(Zat b c m0_0)=some r→evW ctx 152 [(.sl 0 1),(.d (Ze b)),(.d (Ze c))] [(.arr 1 (List.map Ze m0_0))]=some ((ZeH b c m0_0) r):=by
 show Z6 _ (fun r rhs=>rhs=some ((ZeH b c m0_0) r)) _
 unfold Zat
 rw[Zeh ctx 152 ZwB _ _ rfl rfl]
 conv=>arg 3; whnf
 refine Zc _ (Zgx _) fun r7 hr7=>?_
 conv=>arg 3; whnf
 exact Zh rfl
def ZfQ (b:Int) (c:Int) (d:Int) (m0_0:(List Int)):(List Int)→V×Zn
  | r=>((.d (D.tup [])),[(.arr 1 (List.map Ze r))])
def Zfa (c:Int) (d:Int):((List Int)⊕(List Int))→Ex×List V×Zn
  | (.inl r)=>(.exit 0,[],[(.arr 1 (List.map Ze r))])
  | (.inr r)=>(.ret,[],[(.arr 1 (List.map Ze r))])
theorem Zhh {c:Int} {d:Int}:∀(s0:Int×(List Int)) (r:((List Int)⊕(List Int))),lp (ZbX c d) s0=some r→lpW ctx 1 [0,2,3,8] [] Zut [(.sl 0 1),(.d (Ze c)),(.d (Ze d)),(.d (Ze s0.1))] [(.arr 1 (List.map Ze s0.2))]=some ((Zfa c d) r):=by
 refine Zbc (Zfa c d) ?_
 intro s0 rcl ih
 show Z6 _ _ (lpW _ _ _ _ _ _ _)
 unfold ZbX
 rw[Zbd]
 conv=>arg 3; whnf
 refine Zg rfl ?_ ?_
 ·conv=>arg 3; whnf
  exact Zh rfl
 ·conv=>arg 3; whnf
  refine Zg rfl ?_ ?_
  ·conv=>arg 3; whnf
   refine Zj rfl rfl fun x1 hx1=>?_
   conv=>arg 3; whnf
   refine Zf (Zl rfl hx1) ?_
   conv=>arg 3; whnf
   refine Zj rfl rfl fun x2 hx2=>?_
   conv=>arg 3; whnf
   refine Zf (Zl rfl hx2) ?_
   conv=>arg 3; whnf
   refine Zp _ Z0 rfl fun x3 hx3=>?_
   conv=>arg 3; whnf
   refine Zg rfl ?_ ?_
   ·conv=>arg 3; whnf
    refine Zj rfl rfl fun x4 hx4=>?_
    conv=>arg 3; whnf
    refine Zf (Zl rfl hx4) ?_
    conv=>arg 3; whnf
    refine Zj rfl rfl fun x5 hx5=>?_
    conv=>arg 3; whnf
    refine Zf (Zl rfl hx5) ?_
    conv=>arg 3; whnf
    refine Zp _ Z0 rfl fun x6 hx6=>?_
    conv=>arg 3; whnf
    refine Zg rfl ?_ ?_
    ·conv=>arg 3; whnf
     refine Zf (ZaF rfl hx5) ?_
     conv=>arg 3; whnf
     refine Zf (Zl rfl hx5) ?_
     conv=>arg 3; whnf
     refine Zf (ZaF rfl hx4) ?_
     conv=>arg 3; whnf
     refine Zf (Zl rfl hx4) ?_
     conv=>arg 3; whnf
     refine Zf (ZaF rfl hx4) ?_
     conv=>arg 3; whnf
     refine Zf (Zl rfl hx4) ?_
     conv=>arg 3; whnf
     refine Zo (Z4 Ze s0.2 (w64 (d+s0.1)).toNat x5) ?_
     conv=>arg 3; whnf
     refine Zj rfl rfl fun x7 hx7=>?_
     conv=>arg 3; whnf
     refine Zf (Zl rfl hx7) ?_
     conv=>arg 3; whnf
     refine Zo (Z4 Ze (List.set s0.2 (w64 (d+s0.1)).toNat x5) (w64 (d+(w64 ((w64 ((w64 (2*s0.1))+1))+1)))).toNat x4) ?_
     conv=>arg 3; whnf
     exact Zd (ih _)
    ·conv=>arg 3; whnf
     exact Zh rfl
   ·conv=>arg 3; whnf
    refine Zj rfl rfl fun x8 hx8=>?_
    conv=>arg 3; whnf
    refine Zf (Zl rfl hx8) ?_
    conv=>arg 3; whnf
    refine Zf (ZaF rfl hx1) ?_
    conv=>arg 3; whnf
    refine Zf (Zl rfl hx1) ?_
    conv=>arg 3; whnf
    refine Zp _ Z0 rfl fun x9 hx9=>?_
    conv=>arg 3; whnf
    refine Zg rfl ?_ ?_
    ·conv=>arg 3; whnf
     refine Zf (ZaF rfl hx1) ?_
     conv=>arg 3; whnf
     refine Zf (Zl rfl hx1) ?_
     conv=>arg 3; whnf
     refine Zf (ZaF rfl hx8) ?_
     conv=>arg 3; whnf
     refine Zf (Zl rfl hx8) ?_
     conv=>arg 3; whnf
     refine Zf (ZaF rfl hx8) ?_
     conv=>arg 3; whnf
     refine Zf (Zl rfl hx8) ?_
     conv=>arg 3; whnf
     refine Zo (Z4 Ze s0.2 (w64 (d+s0.1)).toNat x1) ?_
     conv=>arg 3; whnf
     refine Zj rfl rfl fun x10 hx10=>?_
     conv=>arg 3; whnf
     refine Zf (Zl rfl hx10) ?_
     conv=>arg 3; whnf
     refine Zo (Z4 Ze (List.set s0.2 (w64 (d+s0.1)).toNat x1) (w64 (d+(w64 ((w64 (2*s0.1))+1)))).toNat x8) ?_
     conv=>arg 3; whnf
     exact Zd (ih _)
    ·conv=>arg 3; whnf
     exact Zh rfl
  ·conv=>arg 3; whnf
   refine Zj rfl rfl fun x11 hx11=>?_
   conv=>arg 3; whnf
   refine Zf (Zl rfl hx11) ?_
   conv=>arg 3; whnf
   refine Zj rfl rfl fun x12 hx12=>?_
   conv=>arg 3; whnf
   refine Zf (Zl rfl hx12) ?_
   conv=>arg 3; whnf
   refine Zp _ Z0 rfl fun x13 hx13=>?_
   conv=>arg 3; whnf
   refine Zg rfl ?_ ?_
   ·conv=>arg 3; whnf
    refine Zf (ZaF rfl hx12) ?_
    conv=>arg 3; whnf
    refine Zf (Zl rfl hx12) ?_
    conv=>arg 3; whnf
    refine Zf (ZaF rfl hx11) ?_
    conv=>arg 3; whnf
    refine Zf (Zl rfl hx11) ?_
    conv=>arg 3; whnf
    refine Zf (ZaF rfl hx11) ?_
    conv=>arg 3; whnf
    refine Zf (Zl rfl hx11) ?_
    conv=>arg 3; whnf
    refine Zo (Z4 Ze s0.2 (w64 (d+s0.1)).toNat x12) ?_
    conv=>arg 3; whnf
    refine Zj rfl rfl fun x14 hx14=>?_
    conv=>arg 3; whnf
    refine Zf (Zl rfl hx14) ?_
    conv=>arg 3; whnf
    refine Zo (Z4 Ze (List.set s0.2 (w64 (d+s0.1)).toNat x12) (w64 (d+(w64 ((w64 (2*s0.1))+1)))).toNat x11) ?_
    conv=>arg 3; whnf
    exact Zd (ih _)
   ·conv=>arg 3; whnf
    exact Zh rfl
theorem ZfH {b:Int} {c:Int} {d:Int} {m0_0:(List Int)}:∀r,(ZbF b c d m0_0)=some r→evW ctx 166 [(.sl 0 1),(.d (Ze b)),(.d (Ze c)),(.d (Ze d))] [(.arr 1 (List.map Ze m0_0))]=some ((ZfQ b c d m0_0) r):=by
 show Z6 _ (fun r rhs=>rhs=some ((ZfQ b c d m0_0) r)) _
 unfold ZbF
 rw[Zeh ctx 166 ZvW _ _ rfl rfl]
 conv=>arg 3; whnf
 refine Zc _ (Zhh _) fun r15 hr15=>?_
 clear hr15
 rcases r15 with r15 | r15
 ·conv=>arg 3; whnf
  exact Zh rfl
 ·conv=>arg 3; whnf
  exact Zh rfl
def ZfY (b:Int) (c:Int) (m0_0:(List Int)):(List Int)→V×Zn
  | r=>((.d (D.tup [])),[(.arr 1 (List.map Ze r))])
def Zfc (b:Int) (c:Int):(List Int)→Ex×List V×Zn
  | r=>(.exit 0,[(.sl 0 1),(.d (Ze b)),(.d (Ze 0)),(.d (Ze (w64 (c-b))))],[(.arr 1 (List.map Ze r))])
theorem Zhl {b:Int} {c:Int}:∀(s0:Int×(List Int)) (r:(List Int)),lp (ZbU b c) s0=some r→lpW ctx 1 [0,6,7,8,9] [0,6,7,8] Zto [(.sl 0 1),(.d (Ze b)),(.d (Ze 0)),(.d (Ze (w64 (c-b)))),(.d (Ze s0.1))] [(.arr 1 (List.map Ze s0.2))]=some ((Zfc b c) r):=by
 refine Zbc (Zfc b c) ?_
 intro s0 rcl ih
 show Z6 _ _ (lpW _ _ _ _ _ _ _)
 unfold ZbU
 rw[Zbd]
 conv=>arg 3; whnf
 refine Zg rfl ?_ ?_
 ·conv=>arg 3; whnf
  refine Zc _ ZfH fun x1 hx1=>?_
  conv=>arg 3; whnf
  exact Zd (ih _)
 ·conv=>arg 3; whnf
  exact Zh rfl
def Zfd (b:Int):(List Int)→Ex×List V×Zn
  | r=>(.exit 2,[],[(.arr 1 (List.map Ze r))])
theorem Zhk {b:Int}:∀(s3:Int×(List Int)) (r:(List Int)),lp (ZbW b) s3=some r→lpW ctx 1 [0,6,7,10] [] Zt5 [(.sl 0 1),(.d (Ze b)),(.d (Ze 0)),(.d (Ze s3.1))] [(.arr 1 (List.map Ze s3.2))]=some ((Zfd b) r):=by
 refine Zbc (Zfd b) ?_
 intro s3 rcl ih
 show Z6 _ _ (lpW _ _ _ _ _ _ _)
 unfold ZbW
 rw[Zbd]
 conv=>arg 3; whnf
 refine Zg rfl ?_ ?_
 ·conv=>arg 3; whnf
  refine Zj rfl rfl fun x4 hx4=>?_
  conv=>arg 3; whnf
  refine Zf (Zl rfl hx4) ?_
  conv=>arg 3; whnf
  refine Zj rfl rfl fun x5 hx5=>?_
  conv=>arg 3; whnf
  refine Zf (Zl rfl hx5) ?_
  conv=>arg 3; whnf
  refine Zf (ZaF rfl hx5) ?_
  conv=>arg 3; whnf
  refine Zf (Zl rfl hx5) ?_
  conv=>arg 3; whnf
  refine Zo (Z4 Ze s3.2 b.toNat x4) ?_
  conv=>arg 3; whnf
  refine Zj rfl rfl fun x6 hx6=>?_
  conv=>arg 3; whnf
  refine Zf (Zl rfl hx6) ?_
  conv=>arg 3; whnf
  refine Zo (Z4 Ze (List.set s3.2 b.toNat x4) (w64 (b+s3.1)).toNat x5) ?_
  conv=>arg 3; whnf
  refine Zc _ ZfH fun x7 hx7=>?_
  conv=>arg 3; whnf
  exact Zd (ih _)
 ·conv=>arg 3; whnf
  exact Zh rfl
theorem ZcC {b:Int} {c:Int} {m0_0:(List Int)}:∀r,(Za3 b c m0_0)=some r→evW ctx 153 [(.sl 0 1),(.d (Ze b)),(.d (Ze c))] [(.arr 1 (List.map Ze m0_0))]=some ((ZfY b c m0_0) r):=by
 show Z6 _ (fun r rhs=>rhs=some ((ZfY b c m0_0) r)) _
 unfold Za3
 rw[Zeh ctx 153 Zv8 _ _ rfl rfl]
 conv=>arg 3; whnf
 refine ZQ rfl ?_
 conv=>arg 3; whnf
 refine Zc _ (Zhl _) fun r2 hr2=>?_
 conv=>arg 3; whnf
 refine Zc _ (Zhk _) fun r8 hr8=>?_
 conv=>arg 3; whnf
 exact Zh rfl
def Zf8 (b:Int) (c:Int) (m0_0:(List Int)) (m1_0:Int):(Int×Int×Int)→V×Zn
  | r=>((.d (D.tup [(Ze r.1),(Ze r.2.1)])),[(.arr 1 (List.map Ze m0_0)),(.cells [(.d (Ze r.2.2))])])
theorem Zd0 {b:Int} {c:Int} {m0_0:(List Int)} {m1_0:Int}:∀r,(Zbv b c m0_0 m1_0)=some r→evW ctx 171 [(.sl 0 1),(.d (Ze b)),(.d (Ze c)),(.ptr 1 0)] [(.arr 1 (List.map Ze m0_0)),(.cells [(.d (Ze m1_0))])]=some ((Zf8 b c m0_0 m1_0) r):=by
 show Z6 _ (fun r rhs=>rhs=some ((Zf8 b c m0_0 m1_0) r)) _
 unfold Zbv
 rw[Zeh ctx 171 Zv3 _ _ rfl rfl]
 conv=>arg 3; whnf
 refine Zj rfl rfl fun x0 hx0=>?_
 conv=>arg 3; whnf
 refine Zf (Zl rfl hx0) ?_
 conv=>arg 3; whnf
 refine Zj rfl rfl fun x1 hx1=>?_
 conv=>arg 3; whnf
 refine Zf (Zl rfl hx1) ?_
 conv=>arg 3; whnf
 refine Zp _ Z0 rfl fun x2 hx2=>?_
 conv=>arg 3; whnf
 refine Zg rfl ?_ ?_
 ·conv=>arg 3; whnf
  exact Zh rfl
 ·conv=>arg 3; whnf
  exact Zh rfl
def Zge (b:Int) (c:Int) (d:Int) (m0_0:(List Int)) (m1_0:Int):(Int×Int)→V×Zn
  | r=>((.d (Ze r.1)),[(.arr 1 (List.map Ze m0_0)),(.cells [(.d (Ze r.2))])])
theorem Zd5 {b:Int} {c:Int} {d:Int} {m0_0:(List Int)} {m1_0:Int}:∀r,(Zbw b c d m0_0 m1_0)=some r→evW ctx 168 [(.sl 0 1),(.d (Ze b)),(.d (Ze c)),(.d (Ze d)),(.ptr 1 0)] [(.arr 1 (List.map Ze m0_0)),(.cells [(.d (Ze m1_0))])]=some ((Zge b c d m0_0 m1_0) r):=by
 show Z6 _ (fun r rhs=>rhs=some ((Zge b c d m0_0 m1_0) r)) _
 unfold Zbw
 rw[Zeh ctx 168 Zxx _ _ rfl rfl]
 conv=>arg 3; whnf
 refine Zc _ Zd0 fun x0 hx0=>?_
 conv=>arg 3; whnf
 refine Zc _ Zd0 fun x1 hx1=>?_
 conv=>arg 3; whnf
 refine Zc _ Zd0 fun x2 hx2=>?_
 conv=>arg 3; whnf
 exact Zh rfl
def Zev (b:Int) (m0_0:(List Int)) (m1_0:Int):(Int×Int)→V×Zn
  | r=>((.d (Ze r.1)),[(.arr 1 (List.map Ze m0_0)),(.cells [(.d (Ze r.2))])])
theorem ZcU {b:Int} {m0_0:(List Int)} {m1_0:Int}:∀r,(ZaM b m0_0 m1_0)=some r→evW ctx 167 [(.sl 0 1),(.d (Ze b)),(.ptr 1 0)] [(.arr 1 (List.map Ze m0_0)),(.cells [(.d (Ze m1_0))])]=some ((Zev b m0_0 m1_0) r):=by
 show Z6 _ (fun r rhs=>rhs=some ((Zev b m0_0 m1_0) r)) _
 unfold ZaM
 rw[Zeh ctx 167 Zvs _ _ rfl rfl]
 conv=>arg 3; whnf
 refine Zc _ Zd5 fun x0 hx0=>?_
 conv=>arg 3; whnf
 exact Zh rfl
def Zfb (b:Int) (c:Int) (m0_0:(List Int)):(Int×Int)→V×Zn
  | r=>((.d (D.tup [(Ze r.1),(Ze r.2)])),[(.arr 1 (List.map Ze m0_0))])
theorem Zcc {b:Int} {c:Int} {m0_0:(List Int)}:∀r,(ZaI b c m0_0)=some r→evW ctx 155 [(.sl 0 1),(.d (Ze b)),(.d (Ze c))] [(.arr 1 (List.map Ze m0_0))]=some ((Zfb b c m0_0) r):=by
 show Z6 _ (fun r rhs=>rhs=some ((Zfb b c m0_0) r)) _
 unfold ZaI
 rw[Zeh ctx 155 ZvT _ _ rfl rfl]
 conv=>arg 3; whnf
 refine ZQ rfl ?_
 conv=>arg 3; whnf
 refine ZQ rfl ?_
 conv=>arg 3; whnf
 refine ZQ rfl ?_
 conv=>arg 3; whnf
 refine Zg rfl ?_ ?_
 ·conv=>arg 3; whnf
  refine Zg rfl ?_ ?_
  ·conv=>arg 3; whnf
   refine Zc _ ZcU fun x0 hx0=>?_
   conv=>arg 3; whnf
   refine Zc _ ZcU fun x1 hx1=>?_
   conv=>arg 3; whnf
   refine Zc _ ZcU fun x2 hx2=>?_
   conv=>arg 3; whnf
   refine Zc _ Zd5 fun x3 hx3=>?_
   conv=>arg 3; whnf
   refine Zg rfl ?_ ?_
   ·conv=>arg 3; whnf
    exact Zh rfl
   ·conv=>arg 3; whnf
    refine Zg rfl ?_ ?_
    ·conv=>arg 3; whnf
     exact Zh rfl
    ·conv=>arg 3; whnf
     exact Zh rfl
  ·conv=>arg 3; whnf
   refine Zc _ Zd5 fun x4 hx4=>?_
   conv=>arg 3; whnf
   refine Zg rfl ?_ ?_
   ·conv=>arg 3; whnf
    exact Zh rfl
   ·conv=>arg 3; whnf
    refine Zg rfl ?_ ?_
    ·conv=>arg 3; whnf
     exact Zh rfl
    ·conv=>arg 3; whnf
     exact Zh rfl
 ·conv=>arg 3; whnf
  refine ZbC rfl ?_
  conv=>arg 3; whnf
  exact Zh rfl
def Ze5 (b:Int) (c:Int) (m0_0:(List Int)):(List Int)→V×Zn
  | r=>((.d (D.tup [])),[(.arr 1 (List.map Ze r))])
def Zei:(List Int)→Ex×List V×Zn
  | r=>(.exit 0,[],[(.arr 1 (List.map Ze r))])
theorem ZgC:∀(s0:Int×Int×(List Int)) (r:(List Int)),lp (Zbt) s0=some r→lpW ctx 1 [0,6,7] [] Ztp [(.sl 0 1),(.d (Ze s0.1)),(.d (Ze s0.2.1))] [(.arr 1 (List.map Ze s0.2.2))]=some (Zei r):=by
 refine Zbc Zei ?_
 intro s0 rcl ih
 show Z6 _ _ (lpW _ _ _ _ _ _ _)
 unfold Zbt
 rw[Zbd]
 conv=>arg 3; whnf
 refine Zg rfl ?_ ?_
 ·conv=>arg 3; whnf
  refine Zj rfl rfl fun x1 hx1=>?_
  conv=>arg 3; whnf
  refine Zf (Zl rfl hx1) ?_
  conv=>arg 3; whnf
  refine Zj rfl rfl fun x2 hx2=>?_
  conv=>arg 3; whnf
  refine Zf (Zl rfl hx2) ?_
  conv=>arg 3; whnf
  refine Zf (ZaF rfl hx2) ?_
  conv=>arg 3; whnf
  refine Zf (Zl rfl hx2) ?_
  conv=>arg 3; whnf
  refine Zo (Z4 Ze s0.2.2 s0.1.toNat x1) ?_
  conv=>arg 3; whnf
  refine Zj rfl rfl fun x3 hx3=>?_
  conv=>arg 3; whnf
  refine Zf (Zl rfl hx3) ?_
  conv=>arg 3; whnf
  refine Zo (Z4 Ze (List.set s0.2.2 s0.1.toNat x1) s0.2.1.toNat x2) ?_
  conv=>arg 3; whnf
  exact Zd (ih _)
 ·conv=>arg 3; whnf
  exact Zh rfl
theorem Zb8 {b:Int} {c:Int} {m0_0:(List Int)}:∀r,(ZaA b c m0_0)=some r→evW ctx 156 [(.sl 0 1),(.d (Ze b)),(.d (Ze c))] [(.arr 1 (List.map Ze m0_0))]=some ((Ze5 b c m0_0) r):=by
 show Z6 _ (fun r rhs=>rhs=some ((Ze5 b c m0_0) r)) _
 unfold ZaA
 rw[Zeh ctx 156 Zxh _ _ rfl rfl]
 conv=>arg 3; whnf
 refine Zc _ (ZgC _) fun r4 hr4=>?_
 conv=>arg 3; whnf
 exact Zh rfl
def ZdA (b:Int) (c:Int) (m0_0:(List Int)):((List Int)⊕(List Int))→V×Zn
  | (.inl r)=>((.d (D.bool true)),[(.arr 1 (List.map Ze r))])
  | (.inr r)=>((.d (D.bool false)),[(.arr 1 (List.map Ze r))])
def Zdl (b:Int) (c:Int) (s0:Int×Int×(List Int)):Int→Ex×List V×Zn
  | r=>(.exit 2,[(.sl 0 1),(.d (Ze b)),(.d (Ze c)),(.d (Ze r)),(.d (Ze s0.2.1))],[(.arr 1 (List.map Ze s0.2.2))])
theorem ZfE {b:Int} {c:Int} {s0:Int×Int×(List Int)}:∀(s1:Int) (r:Int),lp (ZaU c s0) s1=some r→lpW ctx 1 [0,1,2,7,8] [0,1,2,7,8] ZtN [(.sl 0 1),(.d (Ze b)),(.d (Ze c)),(.d (Ze s1)),(.d (Ze s0.2.1))] [(.arr 1 (List.map Ze s0.2.2))]=some ((Zdl b c s0) r):=by
 refine Zbc (Zdl b c s0) ?_
 intro s1 rcl ih
 show Z6 _ _ (lpW _ _ _ _ _ _ _)
 unfold ZaU
 rw[Zbd]
 conv=>arg 3; whnf
 refine Zg rfl ?_ ?_
 ·conv=>arg 3; whnf
  refine Zj rfl rfl fun x2 hx2=>?_
  conv=>arg 3; whnf
  refine Zf (Zl rfl hx2) ?_
  conv=>arg 3; whnf
  refine Zj rfl rfl fun x3 hx3=>?_
  conv=>arg 3; whnf
  refine Zf (Zl rfl hx3) ?_
  conv=>arg 3; whnf
  refine Zp _ Z0 rfl fun x4 hx4=>?_
  conv=>arg 3; whnf
  refine Zg rfl ?_ ?_
  ·conv=>arg 3; whnf
   exact Zh rfl
  ·conv=>arg 3; whnf
   exact Zd (ih _)
 ·conv=>arg 3; whnf
  exact Zh rfl
def Zdk (b:Int) (c:Int) (s0:Int×Int×(List Int)) (r5:Int):(List Int)→Ex×List V×Zn
  | r=>(.exit 4,[(.sl 0 1),(.d (Ze b)),(.d (Ze c)),(.d (Ze r5)),(.d (Ze s0.2.1))],[(.arr 1 (List.map Ze r))])
theorem ZfF {b:Int} {c:Int} {s0:Int×Int×(List Int)} {r5:Int}:∀(s9:Int×(List Int)) (r:(List Int)),lp (ZaR) s9=some r→lpW ctx 1 [0,1,2,7,8,9] [0,1,2,7,8] Zuz [(.sl 0 1),(.d (Ze b)),(.d (Ze c)),(.d (Ze r5)),(.d (Ze s0.2.1)),(.d (Ze s9.1))] [(.arr 1 (List.map Ze s9.2))]=some ((Zdk b c s0 r5) r):=by
 refine Zbc (Zdk b c s0 r5) ?_
 intro s9 rcl ih
 show Z6 _ _ (lpW _ _ _ _ _ _ _)
 unfold ZaR
 rw[Zbd]
 conv=>arg 3; whnf
 refine Zg rfl ?_ ?_
 ·conv=>arg 3; whnf
  refine Zj rfl rfl fun x10 hx10=>?_
  conv=>arg 3; whnf
  refine Zf (Zl rfl hx10) ?_
  conv=>arg 3; whnf
  refine Zj rfl rfl fun x11 hx11=>?_
  conv=>arg 3; whnf
  refine Zf (Zl rfl hx11) ?_
  conv=>arg 3; whnf
  refine Zp _ Z0 rfl fun x12 hx12=>?_
  conv=>arg 3; whnf
  refine Zg rfl ?_ ?_
  ·conv=>arg 3; whnf
   refine Zf (ZaF rfl hx11) ?_
   conv=>arg 3; whnf
   refine Zf (Zl rfl hx11) ?_
   conv=>arg 3; whnf
   refine Zf (ZaF rfl hx10) ?_
   conv=>arg 3; whnf
   refine Zf (Zl rfl hx10) ?_
   conv=>arg 3; whnf
   refine Zf (ZaF rfl hx10) ?_
   conv=>arg 3; whnf
   refine Zf (Zl rfl hx10) ?_
   conv=>arg 3; whnf
   refine Zo (Z4 Ze s9.2 s9.1.toNat x11) ?_
   conv=>arg 3; whnf
   refine Zj rfl rfl fun x13 hx13=>?_
   conv=>arg 3; whnf
   refine Zf (Zl rfl hx13) ?_
   conv=>arg 3; whnf
   refine Zo (Z4 Ze (List.set s9.2 s9.1.toNat x11) (w64 (s9.1-1)).toNat x10) ?_
   conv=>arg 3; whnf
   exact Zd (ih _)
  ·conv=>arg 3; whnf
   exact Zh rfl
 ·conv=>arg 3; whnf
  exact Zh rfl
def Zdi (b:Int) (c:Int) (s0:Int×Int×(List Int)) (r5:Int):(List Int)→Ex×List V×Zn
  | r=>(.exit 6,[(.sl 0 1),(.d (Ze b)),(.d (Ze c)),(.d (Ze r5)),(.d (Ze s0.2.1))],[(.arr 1 (List.map Ze r))])
theorem Zc9 {b:Int} {c:Int} {s0:Int×Int×(List Int)} {r5:Int}:∀(s15:Int×(List Int)) (r:(List Int)),lp (Zan c) s15=some r→lpW ctx 1 [0,1,2,7,8,10] [0,1,2,7,8] Zt2 [(.sl 0 1),(.d (Ze b)),(.d (Ze c)),(.d (Ze r5)),(.d (Ze s0.2.1)),(.d (Ze s15.1))] [(.arr 1 (List.map Ze s15.2))]=some ((Zdi b c s0 r5) r):=by
 refine Zbc (Zdi b c s0 r5) ?_
 intro s15 rcl ih
 show Z6 _ _ (lpW _ _ _ _ _ _ _)
 unfold Zan
 rw[Zbd]
 conv=>arg 3; whnf
 refine Zg rfl ?_ ?_
 ·conv=>arg 3; whnf
  refine Zj rfl rfl fun x16 hx16=>?_
  conv=>arg 3; whnf
  refine Zf (Zl rfl hx16) ?_
  conv=>arg 3; whnf
  refine Zj rfl rfl fun x17 hx17=>?_
  conv=>arg 3; whnf
  refine Zf (Zl rfl hx17) ?_
  conv=>arg 3; whnf
  refine Zp _ Z0 rfl fun x18 hx18=>?_
  conv=>arg 3; whnf
  refine Zg rfl ?_ ?_
  ·conv=>arg 3; whnf
   refine Zf (ZaF rfl hx17) ?_
   conv=>arg 3; whnf
   refine Zf (Zl rfl hx17) ?_
   conv=>arg 3; whnf
   refine Zf (ZaF rfl hx16) ?_
   conv=>arg 3; whnf
   refine Zf (Zl rfl hx16) ?_
   conv=>arg 3; whnf
   refine Zf (ZaF rfl hx16) ?_
   conv=>arg 3; whnf
   refine Zf (Zl rfl hx16) ?_
   conv=>arg 3; whnf
   refine Zo (Z4 Ze s15.2 s15.1.toNat x17) ?_
   conv=>arg 3; whnf
   refine Zj rfl rfl fun x19 hx19=>?_
   conv=>arg 3; whnf
   refine Zf (Zl rfl hx19) ?_
   conv=>arg 3; whnf
   refine Zo (Z4 Ze (List.set s15.2 s15.1.toNat x17) (w64 (s15.1-1)).toNat x16) ?_
   conv=>arg 3; whnf
   exact Zd (ih _)
  ·conv=>arg 3; whnf
   exact Zh rfl
 ·conv=>arg 3; whnf
  exact Zh rfl
def Zdj (b:Int) (c:Int):((List Int)⊕((List Int)⊕(List Int)))→Ex×List V×Zn
  | (.inl r)=>(.ret,[(.d (D.bool true))],[(.arr 1 (List.map Ze r))])
  | (.inr (.inl r))=>(.ret,[(.d (D.bool false))],[(.arr 1 (List.map Ze r))])
  | (.inr (.inr r))=>(.exit 0,[.bad],[(.arr 1 (List.map Ze r))])
theorem Zfx {b:Int} {c:Int}:∀(s0:Int×Int×(List Int)) (r:((List Int)⊕((List Int)⊕(List Int)))),lp (ZaT b c) s0=some r→lpW ctx 1 [0,1,2,7,8] [6] Ztl [(.sl 0 1),(.d (Ze b)),(.d (Ze c)),(.d (Ze s0.1)),(.d (Ze s0.2.1))] [(.arr 1 (List.map Ze s0.2.2))]=some ((Zdj b c) r):=by
 refine Zbc (Zdj b c) ?_
 intro s0 rcl ih
 show Z6 _ _ (lpW _ _ _ _ _ _ _)
 unfold ZaT
 rw[Zbd]
 conv=>arg 3; whnf
 refine Zg rfl ?_ ?_
 ·conv=>arg 3; whnf
  refine Zc _ (ZfE _) fun r5 hr5=>?_
  conv=>arg 3; whnf
  refine Zg rfl ?_ ?_
  ·conv=>arg 3; whnf
   exact Zh rfl
  ·conv=>arg 3; whnf
   refine Zg rfl ?_ ?_
   ·conv=>arg 3; whnf
    exact Zh rfl
   ·conv=>arg 3; whnf
    refine Zj rfl rfl fun x6 hx6=>?_
    conv=>arg 3; whnf
    refine Zf (Zl rfl hx6) ?_
    conv=>arg 3; whnf
    refine Zj rfl rfl fun x7 hx7=>?_
    conv=>arg 3; whnf
    refine Zf (Zl rfl hx7) ?_
    conv=>arg 3; whnf
    refine Zf (ZaF rfl hx7) ?_
    conv=>arg 3; whnf
    refine Zf (Zl rfl hx7) ?_
    conv=>arg 3; whnf
    refine Zo (Z4 Ze s0.2.2 r5.toNat x6) ?_
    conv=>arg 3; whnf
    refine Zj rfl rfl fun x8 hx8=>?_
    conv=>arg 3; whnf
    refine Zf (Zl rfl hx8) ?_
    conv=>arg 3; whnf
    refine Zo (Z4 Ze (List.set s0.2.2 r5.toNat x6) (w64 (r5-1)).toNat x7) ?_
    conv=>arg 3; whnf
    refine Zg rfl ?_ ?_
    ·conv=>arg 3; whnf
     refine Zc _ (ZfF _) fun r14 hr14=>?_
     conv=>arg 3; whnf
     refine Zg rfl ?_ ?_
     ·conv=>arg 3; whnf
      refine Zc _ (Zc9 _) fun r20 hr20=>?_
      conv=>arg 3; whnf
      exact Zd (ih _)
     ·conv=>arg 3; whnf
      exact Zd (ih _)
    ·conv=>arg 3; whnf
     refine Zg rfl ?_ ?_
     ·conv=>arg 3; whnf
      refine Zc _ (Zc9 _) fun r26 hr26=>?_
      conv=>arg 3; whnf
      exact Zd (ih _)
     ·conv=>arg 3; whnf
      exact Zd (ih _)
 ·conv=>arg 3; whnf
  exact Zh rfl
theorem Zdv {b:Int} {c:Int} {m0_0:(List Int)}:∀r,(ZaE b c m0_0)=some r→evW ctx 157 [(.sl 0 1),(.d (Ze b)),(.d (Ze c))] [(.arr 1 (List.map Ze m0_0))]=some ((ZdA b c m0_0) r):=by
 show Z6 _ (fun r rhs=>rhs=some ((ZdA b c m0_0) r)) _
 unfold ZaE
 rw[Zeh ctx 157 ZxC _ _ rfl rfl]
 conv=>arg 3; whnf
 refine Zc _ (Zfx _) fun r27 hr27=>?_
 clear hr27
 rcases r27 with r27 | (r27 | r27)
 ·conv=>arg 3; whnf
  exact Zh rfl
 ·conv=>arg 3; whnf
  exact Zh rfl
 ·conv=>arg 3; whnf
  exact Zh rfl
def ZfJ (b:Int) (c:Int) (d:Int) (m0_0:(List Int)):((Int×(List Int))⊕(Int×(List Int)))→V×Zn
  | (.inl r)=>((.d (D.tup [(Ze r.1),(D.bool true)])),[(.arr 1 (List.map Ze r.2))])
  | (.inr r)=>((.d (D.tup [(Ze r.1),(D.bool false)])),[(.arr 1 (List.map Ze r.2))])
def Ze3 (b:Int) (c:Int) (d:Int) (m0_0:(List Int)) (x0:Int) (x1:Int):Int→Ex×List V×Zn
  | r=>(.exit 0,[(.sl 0 1),(.d (Ze b)),(.d (Ze r)),(.d (Ze (w64 (c-1))))],[(.arr 1 (List.map Ze (List.set (List.set m0_0 b.toNat x0) d.toNat x1)))])
theorem Zg1 {b:Int} {c:Int} {d:Int} {m0_0:(List Int)} {x0:Int} {x1:Int}:∀(s3:Int) (r:Int),lp (ZbN b c d m0_0 x0 x1) s3=some r→lpW ctx 1 [0,1,10,11] [0,1,10,11] ZtW [(.sl 0 1),(.d (Ze b)),(.d (Ze s3)),(.d (Ze (w64 (c-1))))] [(.arr 1 (List.map Ze (List.set (List.set m0_0 b.toNat x0) d.toNat x1)))]=some ((Ze3 b c d m0_0 x0 x1) r):=by
 refine Zbc (Ze3 b c d m0_0 x0 x1) ?_
 intro s3 rcl ih
 show Z6 _ _ (lpW _ _ _ _ _ _ _)
 unfold ZbN
 rw[Zbd]
 conv=>arg 3; whnf
 refine Zg rfl ?_ ?_
 ·conv=>arg 3; whnf
  refine Zj rfl rfl fun x4 hx4=>?_
  conv=>arg 3; whnf
  refine Zf (Zl rfl hx4) ?_
  conv=>arg 3; whnf
  refine Zj rfl rfl fun x5 hx5=>?_
  conv=>arg 3; whnf
  refine Zf (Zl rfl hx5) ?_
  conv=>arg 3; whnf
  refine Zp _ Z0 rfl fun x6 hx6=>?_
  conv=>arg 3; whnf
  refine Zg rfl ?_ ?_
  ·conv=>arg 3; whnf
   exact Zd (ih _)
  ·conv=>arg 3; whnf
   exact Zh rfl
 ·conv=>arg 3; whnf
  exact Zh rfl
def Ze4 (b:Int) (d:Int) (m0_0:(List Int)) (x0:Int) (x1:Int) (r7:Int):Int→Ex×List V×Zn
  | r=>(.exit 2,[(.sl 0 1),(.d (Ze b)),(.d (Ze r7)),(.d (Ze r))],[(.arr 1 (List.map Ze (List.set (List.set m0_0 b.toNat x0) d.toNat x1)))])
theorem Zg6 {b:Int} {d:Int} {m0_0:(List Int)} {x0:Int} {x1:Int} {r7:Int}:∀(s8:Int) (r:Int),lp (ZbH b d m0_0 x0 x1 r7) s8=some r→lpW ctx 1 [0,1,10,11] [0,1,10,11] Zum [(.sl 0 1),(.d (Ze b)),(.d (Ze r7)),(.d (Ze s8))] [(.arr 1 (List.map Ze (List.set (List.set m0_0 b.toNat x0) d.toNat x1)))]=some ((Ze4 b d m0_0 x0 x1 r7) r):=by
 refine Zbc (Ze4 b d m0_0 x0 x1 r7) ?_
 intro s8 rcl ih
 show Z6 _ _ (lpW _ _ _ _ _ _ _)
 unfold ZbH
 rw[Zbd]
 conv=>arg 3; whnf
 refine Zg rfl ?_ ?_
 ·conv=>arg 3; whnf
  refine Zj rfl rfl fun x9 hx9=>?_
  conv=>arg 3; whnf
  refine Zf (Zl rfl hx9) ?_
  conv=>arg 3; whnf
  refine Zj rfl rfl fun x10 hx10=>?_
  conv=>arg 3; whnf
  refine Zf (Zl rfl hx10) ?_
  conv=>arg 3; whnf
  refine Zp _ Z0 rfl fun x11 hx11=>?_
  conv=>arg 3; whnf
  refine Zg rfl ?_ ?_
  ·conv=>arg 3; whnf
   exact Zh rfl
  ·conv=>arg 3; whnf
   exact Zd (ih _)
 ·conv=>arg 3; whnf
  exact Zh rfl
def Ze0 (b:Int) (s19:Int×Int×(List Int)):Int→Ex×List V×Zn
  | r=>(.exit 6,[(.sl 0 1),(.d (Ze b)),(.d (Ze r)),(.d (Ze s19.2.1))],[(.arr 1 (List.map Ze s19.2.2))])
theorem Zg4 {b:Int} {s19:Int×Int×(List Int)}:∀(s20:Int) (r:Int),lp (ZbI b s19) s20=some r→lpW ctx 1 [0,1,10,11] [0,1,10,11] ZtT [(.sl 0 1),(.d (Ze b)),(.d (Ze s20)),(.d (Ze s19.2.1))] [(.arr 1 (List.map Ze s19.2.2))]=some ((Ze0 b s19) r):=by
 refine Zbc (Ze0 b s19) ?_
 intro s20 rcl ih
 show Z6 _ _ (lpW _ _ _ _ _ _ _)
 unfold ZbI
 rw[Zbd]
 conv=>arg 3; whnf
 refine Zg rfl ?_ ?_
 ·conv=>arg 3; whnf
  refine Zj rfl rfl fun x21 hx21=>?_
  conv=>arg 3; whnf
  refine Zf (Zl rfl hx21) ?_
  conv=>arg 3; whnf
  refine Zj rfl rfl fun x22 hx22=>?_
  conv=>arg 3; whnf
  refine Zf (Zl rfl hx22) ?_
  conv=>arg 3; whnf
  refine Zp _ Z0 rfl fun x23 hx23=>?_
  conv=>arg 3; whnf
  refine Zg rfl ?_ ?_
  ·conv=>arg 3; whnf
   exact Zd (ih _)
  ·conv=>arg 3; whnf
   exact Zh rfl
 ·conv=>arg 3; whnf
  exact Zh rfl
def ZeX (b:Int) (s19:Int×Int×(List Int)) (r24:Int):Int→Ex×List V×Zn
  | r=>(.exit 8,[(.sl 0 1),(.d (Ze b)),(.d (Ze r24)),(.d (Ze r))],[(.arr 1 (List.map Ze s19.2.2))])
theorem Zg5 {b:Int} {s19:Int×Int×(List Int)} {r24:Int}:∀(s25:Int) (r:Int),lp (ZbK b s19 r24) s25=some r→lpW ctx 1 [0,1,10,11] [0,1,10,11] Zul [(.sl 0 1),(.d (Ze b)),(.d (Ze r24)),(.d (Ze s25))] [(.arr 1 (List.map Ze s19.2.2))]=some ((ZeX b s19 r24) r):=by
 refine Zbc (ZeX b s19 r24) ?_
 intro s25 rcl ih
 show Z6 _ _ (lpW _ _ _ _ _ _ _)
 unfold ZbK
 rw[Zbd]
 conv=>arg 3; whnf
 refine Zg rfl ?_ ?_
 ·conv=>arg 3; whnf
  refine Zj rfl rfl fun x26 hx26=>?_
  conv=>arg 3; whnf
  refine Zf (Zl rfl hx26) ?_
  conv=>arg 3; whnf
  refine Zj rfl rfl fun x27 hx27=>?_
  conv=>arg 3; whnf
  refine Zf (Zl rfl hx27) ?_
  conv=>arg 3; whnf
  refine Zp _ Z0 rfl fun x28 hx28=>?_
  conv=>arg 3; whnf
  refine Zg rfl ?_ ?_
  ·conv=>arg 3; whnf
   exact Zh rfl
  ·conv=>arg 3; whnf
   exact Zd (ih _)
 ·conv=>arg 3; whnf
  exact Zh rfl
def Ze1 (b:Int):(Int×(List Int))→Ex×List V×Zn
  | r=>(.exit 4,[(.sl 0 1),(.d (Ze b)),(.d (Ze r.1))],[(.arr 1 (List.map Ze r.2))])
theorem Zg7 {b:Int}:∀(s19:Int×Int×(List Int)) (r:(Int×(List Int))),lp (ZbL b) s19=some r→lpW ctx 1 [0,1,10,11] [0,1,11] ZtY [(.sl 0 1),(.d (Ze b)),(.d (Ze s19.1)),(.d (Ze s19.2.1))] [(.arr 1 (List.map Ze s19.2.2))]=some ((Ze1 b) r):=by
 refine Zbc (Ze1 b) ?_
 intro s19 rcl ih
 show Z6 _ _ (lpW _ _ _ _ _ _ _)
 unfold ZbL
 rw[Zbd]
 conv=>arg 3; whnf
 refine Zc _ (Zg4 _) fun r24 hr24=>?_
 conv=>arg 3; whnf
 refine Zc _ (Zg5 _) fun r29 hr29=>?_
 conv=>arg 3; whnf
 refine Zg rfl ?_ ?_
 ·conv=>arg 3; whnf
  exact Zh rfl
 ·conv=>arg 3; whnf
  refine Zj rfl rfl fun x30 hx30=>?_
  conv=>arg 3; whnf
  refine Zf (Zl rfl hx30) ?_
  conv=>arg 3; whnf
  refine Zj rfl rfl fun x31 hx31=>?_
  conv=>arg 3; whnf
  refine Zf (Zl rfl hx31) ?_
  conv=>arg 3; whnf
  refine Zf (ZaF rfl hx31) ?_
  conv=>arg 3; whnf
  refine Zf (Zl rfl hx31) ?_
  conv=>arg 3; whnf
  refine Zo (Z4 Ze s19.2.2 r24.toNat x30) ?_
  conv=>arg 3; whnf
  refine Zj rfl rfl fun x32 hx32=>?_
  conv=>arg 3; whnf
  refine Zf (Zl rfl hx32) ?_
  conv=>arg 3; whnf
  refine Zo (Z4 Ze (List.set s19.2.2 r24.toNat x30) r29.toNat x31) ?_
  conv=>arg 3; whnf
  exact Zd (ih _)
theorem Zz {b:Int} {c:Int} {d:Int} {m0_0:(List Int)}:∀r,(Zv b c d m0_0)=some r→evW ctx 160 [(.sl 0 1),(.d (Ze b)),(.d (Ze c)),(.d (Ze d))] [(.arr 1 (List.map Ze m0_0))]=some ((ZfJ b c d m0_0) r):=by
 show Z6 _ (fun r rhs=>rhs=some ((ZfJ b c d m0_0) r)) _
 unfold Zv
 rw[Zeh ctx 160 Zxe _ _ rfl rfl]
 conv=>arg 3; whnf
 refine Zj rfl rfl fun x0 hx0=>?_
 conv=>arg 3; whnf
 refine Zf (Zl rfl hx0) ?_
 conv=>arg 3; whnf
 refine Zj rfl rfl fun x1 hx1=>?_
 conv=>arg 3; whnf
 refine Zf (Zl rfl hx1) ?_
 conv=>arg 3; whnf
 refine Zf (ZaF rfl hx1) ?_
 conv=>arg 3; whnf
 refine Zf (Zl rfl hx1) ?_
 conv=>arg 3; whnf
 refine Zo (Z4 Ze m0_0 b.toNat x0) ?_
 conv=>arg 3; whnf
 refine Zj rfl rfl fun x2 hx2=>?_
 conv=>arg 3; whnf
 refine Zf (Zl rfl hx2) ?_
 conv=>arg 3; whnf
 refine Zo (Z4 Ze (List.set m0_0 b.toNat x0) d.toNat x1) ?_
 conv=>arg 3; whnf
 refine Zc _ (Zg1 _) fun r7 hr7=>?_
 conv=>arg 3; whnf
 refine Zc _ (Zg6 _) fun r12 hr12=>?_
 conv=>arg 3; whnf
 refine Zg rfl ?_ ?_
 ·conv=>arg 3; whnf
  refine Zj rfl rfl fun x13 hx13=>?_
  conv=>arg 3; whnf
  refine Zf (Zl rfl hx13) ?_
  conv=>arg 3; whnf
  refine Zj rfl rfl fun x14 hx14=>?_
  conv=>arg 3; whnf
  refine Zf (Zl rfl hx14) ?_
  conv=>arg 3; whnf
  refine Zf (ZaF rfl hx14) ?_
  conv=>arg 3; whnf
  refine Zf (Zl rfl hx14) ?_
  conv=>arg 3; whnf
  refine Zo (Z4 Ze (List.set (List.set m0_0 b.toNat x0) d.toNat x1) r12.toNat x13) ?_
  conv=>arg 3; whnf
  refine Zj rfl rfl fun x15 hx15=>?_
  conv=>arg 3; whnf
  refine Zf (Zl rfl hx15) ?_
  conv=>arg 3; whnf
  refine Zo (Z4 Ze (List.set (List.set (List.set m0_0 b.toNat x0) d.toNat x1) r12.toNat x13) b.toNat x14) ?_
  conv=>arg 3; whnf
  exact Zh rfl
 ·conv=>arg 3; whnf
  refine Zj rfl rfl fun x16 hx16=>?_
  conv=>arg 3; whnf
  refine Zf (Zl rfl hx16) ?_
  conv=>arg 3; whnf
  refine Zj rfl rfl fun x17 hx17=>?_
  conv=>arg 3; whnf
  refine Zf (Zl rfl hx17) ?_
  conv=>arg 3; whnf
  refine Zf (ZaF rfl hx17) ?_
  conv=>arg 3; whnf
  refine Zf (Zl rfl hx17) ?_
  conv=>arg 3; whnf
  refine Zo (Z4 Ze (List.set (List.set m0_0 b.toNat x0) d.toNat x1) r7.toNat x16) ?_
  conv=>arg 3; whnf
  refine Zj rfl rfl fun x18 hx18=>?_
  conv=>arg 3; whnf
  refine Zf (Zl rfl hx18) ?_
  conv=>arg 3; whnf
  refine Zo (Z4 Ze (List.set (List.set (List.set m0_0 b.toNat x0) d.toNat x1) r7.toNat x16) r12.toNat x17) ?_
  conv=>arg 3; whnf
  refine Zc _ (Zg7 _) fun r33 hr33=>?_
  conv=>arg 3; whnf
  refine Zj rfl rfl fun x34 hx34=>?_
  conv=>arg 3; whnf
  refine Zf (Zl rfl hx34) ?_
  conv=>arg 3; whnf
  refine Zj rfl rfl fun x35 hx35=>?_
  conv=>arg 3; whnf
  refine Zf (Zl rfl hx35) ?_
  conv=>arg 3; whnf
  refine Zf (ZaF rfl hx35) ?_
  conv=>arg 3; whnf
  refine Zf (Zl rfl hx35) ?_
  conv=>arg 3; whnf
  refine Zo (Z4 Ze r33.2 r33.1.toNat x34) ?_
  conv=>arg 3; whnf
  refine Zj rfl rfl fun x36 hx36=>?_
  conv=>arg 3; whnf
  refine Zf (Zl rfl hx36) ?_
  conv=>arg 3; whnf
  refine Zo (Z4 Ze (List.set r33.2 r33.1.toNat x34) b.toNat x35) ?_
  conv=>arg 3; whnf
  exact Zh rfl
def Zey (b:Int) (c:Int) (d:Int) (m0_0:(List Int)):(Int×(List Int))→V×Zn
  | r=>((.d (Ze r.1)),[(.arr 1 (List.map Ze r.2))])
def ZdU (b:Int) (s3:Int×Int×(List Int)):Int→Ex×List V×Zn
  | r=>(.exit 2,[(.sl 0 1),(.d (Ze b)),(.d (Ze r)),(.d (Ze s3.2.1))],[(.arr 1 (List.map Ze s3.2.2))])
theorem Zgl {b:Int} {s3:Int×Int×(List Int)}:∀(s4:Int) (r:Int),lp (Zbh b s3) s4=some r→lpW ctx 1 [0,1,9,10] [0,1,9,10] Ztm [(.sl 0 1),(.d (Ze b)),(.d (Ze s4)),(.d (Ze s3.2.1))] [(.arr 1 (List.map Ze s3.2.2))]=some ((ZdU b s3) r):=by
 refine Zbc (ZdU b s3) ?_
 intro s4 rcl ih
 show Z6 _ _ (lpW _ _ _ _ _ _ _)
 unfold Zbh
 rw[Zbd]
 conv=>arg 3; whnf
 refine Zg rfl ?_ ?_
 ·conv=>arg 3; whnf
  refine Zj rfl rfl fun x5 hx5=>?_
  conv=>arg 3; whnf
  refine Zf (Zl rfl hx5) ?_
  conv=>arg 3; whnf
  refine Zj rfl rfl fun x6 hx6=>?_
  conv=>arg 3; whnf
  refine Zf (Zl rfl hx6) ?_
  conv=>arg 3; whnf
  refine Zp _ Z0 rfl fun x7 hx7=>?_
  conv=>arg 3; whnf
  refine Zg rfl ?_ ?_
  ·conv=>arg 3; whnf
   exact Zh rfl
  ·conv=>arg 3; whnf
   exact Zd (ih _)
 ·conv=>arg 3; whnf
  exact Zh rfl
def ZdT (b:Int) (s3:Int×Int×(List Int)) (r8:Int):Int→Ex×List V×Zn
  | r=>(.exit 4,[(.sl 0 1),(.d (Ze b)),(.d (Ze r8)),(.d (Ze r))],[(.arr 1 (List.map Ze s3.2.2))])
theorem Zgn {b:Int} {s3:Int×Int×(List Int)} {r8:Int}:∀(s9:Int) (r:Int),lp (Zbi b s3 r8) s9=some r→lpW ctx 1 [0,1,9,10] [0,1,9,10] Zt7 [(.sl 0 1),(.d (Ze b)),(.d (Ze r8)),(.d (Ze s9))] [(.arr 1 (List.map Ze s3.2.2))]=some ((ZdT b s3 r8) r):=by
 refine Zbc (ZdT b s3 r8) ?_
 intro s9 rcl ih
 show Z6 _ _ (lpW _ _ _ _ _ _ _)
 unfold Zbi
 rw[Zbd]
 conv=>arg 3; whnf
 refine Zg rfl ?_ ?_
 ·conv=>arg 3; whnf
  refine Zj rfl rfl fun x10 hx10=>?_
  conv=>arg 3; whnf
  refine Zf (Zl rfl hx10) ?_
  conv=>arg 3; whnf
  refine Zj rfl rfl fun x11 hx11=>?_
  conv=>arg 3; whnf
  refine Zf (Zl rfl hx11) ?_
  conv=>arg 3; whnf
  refine Zp _ Z0 rfl fun x12 hx12=>?_
  conv=>arg 3; whnf
  refine Zg rfl ?_ ?_
  ·conv=>arg 3; whnf
   exact Zd (ih _)
  ·conv=>arg 3; whnf
   exact Zh rfl
 ·conv=>arg 3; whnf
  exact Zh rfl
def ZdV (b:Int):(Int×(List Int))→Ex×List V×Zn
  | r=>(.exit 0,[(.d (Ze r.1))],[(.arr 1 (List.map Ze r.2))])
theorem Zgk {b:Int}:∀(s3:Int×Int×(List Int)) (r:(Int×(List Int))),lp (Zbj b) s3=some r→lpW ctx 1 [0,1,9,10] [9] ZtV [(.sl 0 1),(.d (Ze b)),(.d (Ze s3.1)),(.d (Ze s3.2.1))] [(.arr 1 (List.map Ze s3.2.2))]=some ((ZdV b) r):=by
 refine Zbc (ZdV b) ?_
 intro s3 rcl ih
 show Z6 _ _ (lpW _ _ _ _ _ _ _)
 unfold Zbj
 rw[Zbd]
 conv=>arg 3; whnf
 refine Zc _ (Zgl _) fun r8 hr8=>?_
 conv=>arg 3; whnf
 refine Zc _ (Zgn _) fun r13 hr13=>?_
 conv=>arg 3; whnf
 refine Zg rfl ?_ ?_
 ·conv=>arg 3; whnf
  exact Zh rfl
 ·conv=>arg 3; whnf
  refine Zj rfl rfl fun x14 hx14=>?_
  conv=>arg 3; whnf
  refine Zf (Zl rfl hx14) ?_
  conv=>arg 3; whnf
  refine Zj rfl rfl fun x15 hx15=>?_
  conv=>arg 3; whnf
  refine Zf (Zl rfl hx15) ?_
  conv=>arg 3; whnf
  refine Zf (ZaF rfl hx15) ?_
  conv=>arg 3; whnf
  refine Zf (Zl rfl hx15) ?_
  conv=>arg 3; whnf
  refine Zo (Z4 Ze s3.2.2 r8.toNat x14) ?_
  conv=>arg 3; whnf
  refine Zj rfl rfl fun x16 hx16=>?_
  conv=>arg 3; whnf
  refine Zf (Zl rfl hx16) ?_
  conv=>arg 3; whnf
  refine Zo (Z4 Ze (List.set s3.2.2 r8.toNat x14) r13.toNat x15) ?_
  conv=>arg 3; whnf
  exact Zd (ih _)
theorem Z7 {b:Int} {c:Int} {d:Int} {m0_0:(List Int)}:∀r,(ZL b c d m0_0)=some r→evW ctx 159 [(.sl 0 1),(.d (Ze b)),(.d (Ze c)),(.d (Ze d))] [(.arr 1 (List.map Ze m0_0))]=some ((Zey b c d m0_0) r):=by
 show Z6 _ (fun r rhs=>rhs=some ((Zey b c d m0_0) r)) _
 unfold ZL
 rw[Zeh ctx 159 ZxM _ _ rfl rfl]
 conv=>arg 3; whnf
 refine Zj rfl rfl fun x0 hx0=>?_
 conv=>arg 3; whnf
 refine Zf (Zl rfl hx0) ?_
 conv=>arg 3; whnf
 refine Zj rfl rfl fun x1 hx1=>?_
 conv=>arg 3; whnf
 refine Zf (Zl rfl hx1) ?_
 conv=>arg 3; whnf
 refine Zf (ZaF rfl hx1) ?_
 conv=>arg 3; whnf
 refine Zf (Zl rfl hx1) ?_
 conv=>arg 3; whnf
 refine Zo (Z4 Ze m0_0 b.toNat x0) ?_
 conv=>arg 3; whnf
 refine Zj rfl rfl fun x2 hx2=>?_
 conv=>arg 3; whnf
 refine Zf (Zl rfl hx2) ?_
 conv=>arg 3; whnf
 refine Zo (Z4 Ze (List.set m0_0 b.toNat x0) d.toNat x1) ?_
 conv=>arg 3; whnf
 refine Zc _ (Zgk _) fun r17 hr17=>?_
 conv=>arg 3; whnf
 exact Zh rfl
def ZeJ (b:Int) (c:Int) (m0_0:(List Int)):(List Int)→V×Zn
  | r=>((.d (D.tup [])),[(.arr 1 (List.map Ze r))])
def ZdZ (b:Int) (c:Int) (x0:Int):(List Int)→Ex×List V×Zn
  | r=>(.exit 0,[],[(.arr 1 (List.map Ze r))])
theorem Zgt {b:Int} {c:Int} {x0:Int}:∀(s1:Int×(List Int)×Int) (r:(List Int)),lp (Zbp b c x0) s1=some r→lpW ctx 1 [0,1,6,7,8,9] [] Zuk [(.sl 0 1),(.d (Ze b)),(.d (Ze (w64 (c-b)))),(.ptr 1 0),(.d (D.int .u64 x0)),(.d (Ze s1.1))] [(.arr 1 (List.map Ze s1.2.1)),(.cells [(.d (D.int .u64 s1.2.2))])]=some ((ZdZ b c x0) r):=by
 refine Zbc (ZdZ b c x0) ?_
 intro s1 rcl ih
 show Z6 _ _ (lpW _ _ _ _ _ _ _)
 unfold Zbp
 rw[Zbd]
 conv=>arg 3; whnf
 refine ZQ rfl ?_
 conv=>arg 3; whnf
 refine Zg rfl ?_ ?_
 ·conv=>arg 3; whnf
  refine Zc _ ZgY fun x2 hx2=>?_
  conv=>arg 3; whnf
  refine Zg rfl ?_ ?_
  ·conv=>arg 3; whnf
   refine Zj rfl rfl fun x3 hx3=>?_
   conv=>arg 3; whnf
   refine Zf (Zl rfl hx3) ?_
   conv=>arg 3; whnf
   refine Zj rfl rfl fun x4 hx4=>?_
   conv=>arg 3; whnf
   refine Zf (Zl rfl hx4) ?_
   conv=>arg 3; whnf
   refine Zf (ZaF rfl hx4) ?_
   conv=>arg 3; whnf
   refine Zf (Zl rfl hx4) ?_
   conv=>arg 3; whnf
   refine Zo (Z4 Ze s1.2.1 s1.1.toNat x3) ?_
   conv=>arg 3; whnf
   refine Zj rfl rfl fun x5 hx5=>?_
   conv=>arg 3; whnf
   refine Zf (Zl rfl hx5) ?_
   conv=>arg 3; whnf
   refine Zo (Z4 Ze (List.set s1.2.1 s1.1.toNat x3) (w64 (b+(w64 ((w64 (IntKind.u64.wrap (BitVec.ofInt IntKind.u64.bits (IntKind.u64.wrap (BitVec.ofInt IntKind.u64.bits (IntKind.u64.wrap (BitVec.ofInt IntKind.u64.bits (IntKind.u64.wrap (BitVec.ofInt IntKind.u64.bits s1.2.2 ^^^ BitVec.ofInt IntKind.u64.bits (IntKind.u64.wrap (s1.2.2*2 ^ 13))).toNat) ^^^ BitVec.ofInt IntKind.u64.bits (Int.fdiv (IntKind.u64.wrap (BitVec.ofInt IntKind.u64.bits s1.2.2 ^^^ BitVec.ofInt IntKind.u64.bits (IntKind.u64.wrap (s1.2.2*2 ^ 13))).toNat) (2 ^ 7))).toNat) ^^^ BitVec.ofInt IntKind.u64.bits (IntKind.u64.wrap ((IntKind.u64.wrap (BitVec.ofInt IntKind.u64.bits (IntKind.u64.wrap (BitVec.ofInt IntKind.u64.bits s1.2.2 ^^^ BitVec.ofInt IntKind.u64.bits (IntKind.u64.wrap (s1.2.2*2 ^ 13))).toNat) ^^^ BitVec.ofInt IntKind.u64.bits (Int.fdiv (IntKind.u64.wrap (BitVec.ofInt IntKind.u64.bits s1.2.2 ^^^ BitVec.ofInt IntKind.u64.bits (IntKind.u64.wrap (s1.2.2*2 ^ 13))).toNat) (2 ^ 7))).toNat)*2 ^ 17))).toNat) &&& BitVec.ofInt IntKind.u64.bits (IntKind.u64.wrap (x0-1))).toNat))-(w64 (c-b)))))).toNat x4) ?_
   conv=>arg 3; whnf
   exact Zd (ih _)
  ·conv=>arg 3; whnf
   refine Zj rfl rfl fun x6 hx6=>?_
   conv=>arg 3; whnf
   refine Zf (Zl rfl hx6) ?_
   conv=>arg 3; whnf
   refine Zj rfl rfl fun x7 hx7=>?_
   conv=>arg 3; whnf
   refine Zf (Zl rfl hx7) ?_
   conv=>arg 3; whnf
   refine Zf (ZaF rfl hx7) ?_
   conv=>arg 3; whnf
   refine Zf (Zl rfl hx7) ?_
   conv=>arg 3; whnf
   refine Zo (Z4 Ze s1.2.1 s1.1.toNat x6) ?_
   conv=>arg 3; whnf
   refine Zj rfl rfl fun x8 hx8=>?_
   conv=>arg 3; whnf
   refine Zf (Zl rfl hx8) ?_
   conv=>arg 3; whnf
   refine Zo (Z4 Ze (List.set s1.2.1 s1.1.toNat x6) (w64 (b+(w64 (IntKind.u64.wrap (BitVec.ofInt IntKind.u64.bits (IntKind.u64.wrap (BitVec.ofInt IntKind.u64.bits (IntKind.u64.wrap (BitVec.ofInt IntKind.u64.bits (IntKind.u64.wrap (BitVec.ofInt IntKind.u64.bits s1.2.2 ^^^ BitVec.ofInt IntKind.u64.bits (IntKind.u64.wrap (s1.2.2*2 ^ 13))).toNat) ^^^ BitVec.ofInt IntKind.u64.bits (Int.fdiv (IntKind.u64.wrap (BitVec.ofInt IntKind.u64.bits s1.2.2 ^^^ BitVec.ofInt IntKind.u64.bits (IntKind.u64.wrap (s1.2.2*2 ^ 13))).toNat) (2 ^ 7))).toNat) ^^^ BitVec.ofInt IntKind.u64.bits (IntKind.u64.wrap ((IntKind.u64.wrap (BitVec.ofInt IntKind.u64.bits (IntKind.u64.wrap (BitVec.ofInt IntKind.u64.bits s1.2.2 ^^^ BitVec.ofInt IntKind.u64.bits (IntKind.u64.wrap (s1.2.2*2 ^ 13))).toNat) ^^^ BitVec.ofInt IntKind.u64.bits (Int.fdiv (IntKind.u64.wrap (BitVec.ofInt IntKind.u64.bits s1.2.2 ^^^ BitVec.ofInt IntKind.u64.bits (IntKind.u64.wrap (s1.2.2*2 ^ 13))).toNat) (2 ^ 7))).toNat)*2 ^ 17))).toNat) &&& BitVec.ofInt IntKind.u64.bits (IntKind.u64.wrap (x0-1))).toNat)))).toNat x7) ?_
   conv=>arg 3; whnf
   exact Zd (ih _)
 ·conv=>arg 3; whnf
  exact Zh rfl
theorem Zew {b:Int} {c:Int} {m0_0:(List Int)}:∀r,(Zbe b c m0_0)=some r→evW ctx 154 [(.sl 0 1),(.d (Ze b)),(.d (Ze c))] [(.arr 1 (List.map Ze m0_0))]=some ((ZeJ b c m0_0) r):=by
 show Z6 _ (fun r rhs=>rhs=some ((ZeJ b c m0_0) r)) _
 unfold Zbe
 rw[Zeh ctx 154 Zvx _ _ rfl rfl]
 conv=>arg 3; whnf
 refine Zg rfl ?_ ?_
 ·conv=>arg 3; whnf
  refine Zp _ ZgB rfl fun x0 hx0=>?_
  conv=>arg 3; whnf
  refine ZQ rfl ?_
  conv=>arg 3; whnf
  refine Zc _ (Zgt _) fun r9 hr9=>?_
  conv=>arg 3; whnf
  exact Zh rfl
 ·conv=>arg 3; whnf
  exact Zh rfl
def Zb (b:Int) (c:Int) (d:Int) (m0_0:(List Int)):(List Int)→V×Zn
  | r=>((.d (D.tup [])),[(.arr 1 (List.map Ze r))])
def Zfm (rc:Int→Int→Int→(List Int)→Option (List Int)):(List Int)→Ex×List V×Zn
  | r=>(.ret,[],[(.arr 1 (List.map Ze r))])
theorem Zhu {rc:Int→Int→Int→(List Int)→Option (List Int)} (hrc:∀(b:Int) (c:Int) (d:Int) (m0_0:(List Int)) (r:(List Int)),rc b c d m0_0=some r→evW ctx 140 [(.sl 0 1),(.d (Ze b)),(.d (Ze c)),(.d (Ze d))] [(.arr 1 (List.map Ze m0_0))]=some ((Zb b c d m0_0) r)):∀(s0:Int×Int×Int×Bool×Bool×(List Int)) (r:(List Int)),lp (Zb6 rc) s0=some r→lpW ctx 1 [0,1,2,3,8,9] [] ZtP [(.sl 0 1),(.d (Ze s0.1)),(.d (Ze s0.2.1)),(.d (Ze s0.2.2.1)),(.d (D.bool s0.2.2.2.1)),(.d (D.bool s0.2.2.2.2.1))] [(.arr 1 (List.map Ze s0.2.2.2.2.2))]=some ((Zfm rc) r):=by
 refine Zbc (Zfm rc) ?_
 intro s0 rcl ih
 show Z6 _ _ (lpW _ _ _ _ _ _ _)
 unfold Zb6
 rw[Zbd]
 rcases hb:s0.2.2.2.1 with _ | _
 ·refine Znw ?_
  rcases hb:s0.2.2.2.2.1 with _ | _
  ·refine Znw ?_
   conv=>arg 3; whnf
   refine Zg rfl ?_ ?_
   ·conv=>arg 3; whnf
    refine Zc _ Zb4 fun x170 hx170=>?_
    conv=>arg 3; whnf
    exact Zh rfl
   ·conv=>arg 3; whnf
    refine Zg rfl ?_ ?_
    ·conv=>arg 3; whnf
     refine Zc _ ZcC fun x171 hx171=>?_
     conv=>arg 3; whnf
     exact Zh rfl
    ·conv=>arg 3; whnf
     refine Zc _ Zew fun x172 hx172=>?_
     conv=>arg 3; whnf
     refine Zc _ Zcc fun x173 hx173=>?_
     conv=>arg 3; whnf
     refine Zg rfl ?_ ?_
     ·conv=>arg 3; whnf
      refine Zc _ Zb8 fun x174 hx174=>?_
      conv=>arg 3; whnf
      refine Zg rfl ?_ ?_
      ·conv=>arg 3; whnf
       refine Zj rfl rfl fun x175 hx175=>?_
       conv=>arg 3; whnf
       refine Zf (Zl rfl hx175) ?_
       conv=>arg 3; whnf
       refine Zj rfl rfl fun x176 hx176=>?_
       conv=>arg 3; whnf
       refine Zf (Zl rfl hx176) ?_
       conv=>arg 3; whnf
       refine Zp _ Z0 rfl fun x177 hx177=>?_
       conv=>arg 3; whnf
       refine Zg rfl ?_ ?_
       ·conv=>arg 3; whnf
        refine Zc _ Zz fun x178 hx178=>?_
        clear hx178
        rcases x178 with x178 | x178
        ·conv=>arg 3; whnf
         refine ZbC rfl ?_
         conv=>arg 3; whnf
         refine ZQ rfl ?_
         conv=>arg 3; whnf
         refine Zg rfl ?_ ?_
         ·conv=>arg 3; whnf
          refine Zg rfl ?_ ?_
          ·conv=>arg 3; whnf
           refine Zc (Zb s0.1 x178.1 (w64 (s0.2.2.1-1)) x178.2) (hrc s0.1 x178.1 (w64 (s0.2.2.1-1)) x178.2) fun x179 hx179=>?_
           conv=>arg 3; whnf
           exact Zd (ih _)
          ·conv=>arg 3; whnf
           refine Zc (Zb s0.1 x178.1 (w64 (s0.2.2.1-1)) x178.2) (hrc s0.1 x178.1 (w64 (s0.2.2.1-1)) x178.2) fun x180 hx180=>?_
           conv=>arg 3; whnf
           exact Zd (ih _)
         ·conv=>arg 3; whnf
          refine Zg rfl ?_ ?_
          ·conv=>arg 3; whnf
           refine Zc (Zb (w64 (x178.1+1)) s0.2.1 (w64 (s0.2.2.1-1)) x178.2) (hrc (w64 (x178.1+1)) s0.2.1 (w64 (s0.2.2.1-1)) x178.2) fun x181 hx181=>?_
           conv=>arg 3; whnf
           exact Zd (ih _)
          ·conv=>arg 3; whnf
           refine Zc (Zb (w64 (x178.1+1)) s0.2.1 (w64 (s0.2.2.1-1)) x178.2) (hrc (w64 (x178.1+1)) s0.2.1 (w64 (s0.2.2.1-1)) x178.2) fun x182 hx182=>?_
           conv=>arg 3; whnf
           exact Zd (ih _)
        ·conv=>arg 3; whnf
         refine ZQ rfl ?_
         conv=>arg 3; whnf
         refine ZQ rfl ?_
         conv=>arg 3; whnf
         refine Zg rfl ?_ ?_
         ·conv=>arg 3; whnf
          refine Zg rfl ?_ ?_
          ·conv=>arg 3; whnf
           refine Zc (Zb s0.1 x178.1 (w64 (s0.2.2.1-1)) x178.2) (hrc s0.1 x178.1 (w64 (s0.2.2.1-1)) x178.2) fun x183 hx183=>?_
           conv=>arg 3; whnf
           exact Zd (ih _)
          ·conv=>arg 3; whnf
           refine Zc (Zb s0.1 x178.1 (w64 (s0.2.2.1-1)) x178.2) (hrc s0.1 x178.1 (w64 (s0.2.2.1-1)) x178.2) fun x184 hx184=>?_
           conv=>arg 3; whnf
           exact Zd (ih _)
         ·conv=>arg 3; whnf
          refine Zg rfl ?_ ?_
          ·conv=>arg 3; whnf
           refine Zc (Zb (w64 (x178.1+1)) s0.2.1 (w64 (s0.2.2.1-1)) x178.2) (hrc (w64 (x178.1+1)) s0.2.1 (w64 (s0.2.2.1-1)) x178.2) fun x185 hx185=>?_
           conv=>arg 3; whnf
           exact Zd (ih _)
          ·conv=>arg 3; whnf
           refine Zc (Zb (w64 (x178.1+1)) s0.2.1 (w64 (s0.2.2.1-1)) x178.2) (hrc (w64 (x178.1+1)) s0.2.1 (w64 (s0.2.2.1-1)) x178.2) fun x186 hx186=>?_
           conv=>arg 3; whnf
           exact Zd (ih _)
       ·conv=>arg 3; whnf
        refine Zc _ Z7 fun x187 hx187=>?_
        conv=>arg 3; whnf
        exact Zd (ih _)
      ·conv=>arg 3; whnf
       refine Zc _ Zz fun x188 hx188=>?_
       clear hx188
       rcases x188 with x188 | x188
       ·conv=>arg 3; whnf
        refine ZbC rfl ?_
        conv=>arg 3; whnf
        refine ZQ rfl ?_
        conv=>arg 3; whnf
        refine Zg rfl ?_ ?_
        ·conv=>arg 3; whnf
         refine Zg rfl ?_ ?_
         ·conv=>arg 3; whnf
          refine Zc (Zb s0.1 x188.1 (w64 (s0.2.2.1-1)) x188.2) (hrc s0.1 x188.1 (w64 (s0.2.2.1-1)) x188.2) fun x189 hx189=>?_
          conv=>arg 3; whnf
          exact Zd (ih _)
         ·conv=>arg 3; whnf
          refine Zc (Zb s0.1 x188.1 (w64 (s0.2.2.1-1)) x188.2) (hrc s0.1 x188.1 (w64 (s0.2.2.1-1)) x188.2) fun x190 hx190=>?_
          conv=>arg 3; whnf
          exact Zd (ih _)
        ·conv=>arg 3; whnf
         refine Zg rfl ?_ ?_
         ·conv=>arg 3; whnf
          refine Zc (Zb (w64 (x188.1+1)) s0.2.1 (w64 (s0.2.2.1-1)) x188.2) (hrc (w64 (x188.1+1)) s0.2.1 (w64 (s0.2.2.1-1)) x188.2) fun x191 hx191=>?_
          conv=>arg 3; whnf
          exact Zd (ih _)
         ·conv=>arg 3; whnf
          refine Zc (Zb (w64 (x188.1+1)) s0.2.1 (w64 (s0.2.2.1-1)) x188.2) (hrc (w64 (x188.1+1)) s0.2.1 (w64 (s0.2.2.1-1)) x188.2) fun x192 hx192=>?_
          conv=>arg 3; whnf
          exact Zd (ih _)
       ·conv=>arg 3; whnf
        refine ZQ rfl ?_
        conv=>arg 3; whnf
        refine ZQ rfl ?_
        conv=>arg 3; whnf
        refine Zg rfl ?_ ?_
        ·conv=>arg 3; whnf
         refine Zg rfl ?_ ?_
         ·conv=>arg 3; whnf
          refine Zc (Zb s0.1 x188.1 (w64 (s0.2.2.1-1)) x188.2) (hrc s0.1 x188.1 (w64 (s0.2.2.1-1)) x188.2) fun x193 hx193=>?_
          conv=>arg 3; whnf
          exact Zd (ih _)
         ·conv=>arg 3; whnf
          refine Zc (Zb s0.1 x188.1 (w64 (s0.2.2.1-1)) x188.2) (hrc s0.1 x188.1 (w64 (s0.2.2.1-1)) x188.2) fun x194 hx194=>?_
          conv=>arg 3; whnf
          exact Zd (ih _)
        ·conv=>arg 3; whnf
         refine Zg rfl ?_ ?_
         ·conv=>arg 3; whnf
          refine Zc (Zb (w64 (x188.1+1)) s0.2.1 (w64 (s0.2.2.1-1)) x188.2) (hrc (w64 (x188.1+1)) s0.2.1 (w64 (s0.2.2.1-1)) x188.2) fun x195 hx195=>?_
          conv=>arg 3; whnf
          exact Zd (ih _)
         ·conv=>arg 3; whnf
          refine Zc (Zb (w64 (x188.1+1)) s0.2.1 (w64 (s0.2.2.1-1)) x188.2) (hrc (w64 (x188.1+1)) s0.2.1 (w64 (s0.2.2.1-1)) x188.2) fun x196 hx196=>?_
          conv=>arg 3; whnf
          exact Zd (ih _)
     ·conv=>arg 3; whnf
      refine Zg rfl ?_ ?_
      ·conv=>arg 3; whnf
       refine Zj rfl rfl fun x197 hx197=>?_
       conv=>arg 3; whnf
       refine Zf (Zl rfl hx197) ?_
       conv=>arg 3; whnf
       refine Zj rfl rfl fun x198 hx198=>?_
       conv=>arg 3; whnf
       refine Zf (Zl rfl hx198) ?_
       conv=>arg 3; whnf
       refine Zp _ Z0 rfl fun x199 hx199=>?_
       conv=>arg 3; whnf
       refine Zg rfl ?_ ?_
       ·conv=>arg 3; whnf
        refine Zc _ Zz fun x200 hx200=>?_
        clear hx200
        rcases x200 with x200 | x200
        ·conv=>arg 3; whnf
         refine ZbC rfl ?_
         conv=>arg 3; whnf
         refine ZQ rfl ?_
         conv=>arg 3; whnf
         refine Zg rfl ?_ ?_
         ·conv=>arg 3; whnf
          refine Zg rfl ?_ ?_
          ·conv=>arg 3; whnf
           refine Zc (Zb s0.1 x200.1 (w64 (s0.2.2.1-1)) x200.2) (hrc s0.1 x200.1 (w64 (s0.2.2.1-1)) x200.2) fun x201 hx201=>?_
           conv=>arg 3; whnf
           exact Zd (ih _)
          ·conv=>arg 3; whnf
           refine Zc (Zb s0.1 x200.1 (w64 (s0.2.2.1-1)) x200.2) (hrc s0.1 x200.1 (w64 (s0.2.2.1-1)) x200.2) fun x202 hx202=>?_
           conv=>arg 3; whnf
           exact Zd (ih _)
         ·conv=>arg 3; whnf
          refine Zg rfl ?_ ?_
          ·conv=>arg 3; whnf
           refine Zc (Zb (w64 (x200.1+1)) s0.2.1 (w64 (s0.2.2.1-1)) x200.2) (hrc (w64 (x200.1+1)) s0.2.1 (w64 (s0.2.2.1-1)) x200.2) fun x203 hx203=>?_
           conv=>arg 3; whnf
           exact Zd (ih _)
          ·conv=>arg 3; whnf
           refine Zc (Zb (w64 (x200.1+1)) s0.2.1 (w64 (s0.2.2.1-1)) x200.2) (hrc (w64 (x200.1+1)) s0.2.1 (w64 (s0.2.2.1-1)) x200.2) fun x204 hx204=>?_
           conv=>arg 3; whnf
           exact Zd (ih _)
        ·conv=>arg 3; whnf
         refine ZQ rfl ?_
         conv=>arg 3; whnf
         refine ZQ rfl ?_
         conv=>arg 3; whnf
         refine Zg rfl ?_ ?_
         ·conv=>arg 3; whnf
          refine Zg rfl ?_ ?_
          ·conv=>arg 3; whnf
           refine Zc (Zb s0.1 x200.1 (w64 (s0.2.2.1-1)) x200.2) (hrc s0.1 x200.1 (w64 (s0.2.2.1-1)) x200.2) fun x205 hx205=>?_
           conv=>arg 3; whnf
           exact Zd (ih _)
          ·conv=>arg 3; whnf
           refine Zc (Zb s0.1 x200.1 (w64 (s0.2.2.1-1)) x200.2) (hrc s0.1 x200.1 (w64 (s0.2.2.1-1)) x200.2) fun x206 hx206=>?_
           conv=>arg 3; whnf
           exact Zd (ih _)
         ·conv=>arg 3; whnf
          refine Zg rfl ?_ ?_
          ·conv=>arg 3; whnf
           refine Zc (Zb (w64 (x200.1+1)) s0.2.1 (w64 (s0.2.2.1-1)) x200.2) (hrc (w64 (x200.1+1)) s0.2.1 (w64 (s0.2.2.1-1)) x200.2) fun x207 hx207=>?_
           conv=>arg 3; whnf
           exact Zd (ih _)
          ·conv=>arg 3; whnf
           refine Zc (Zb (w64 (x200.1+1)) s0.2.1 (w64 (s0.2.2.1-1)) x200.2) (hrc (w64 (x200.1+1)) s0.2.1 (w64 (s0.2.2.1-1)) x200.2) fun x208 hx208=>?_
           conv=>arg 3; whnf
           exact Zd (ih _)
       ·conv=>arg 3; whnf
        refine Zc _ Z7 fun x209 hx209=>?_
        conv=>arg 3; whnf
        exact Zd (ih _)
      ·conv=>arg 3; whnf
       refine Zc _ Zz fun x210 hx210=>?_
       clear hx210
       rcases x210 with x210 | x210
       ·conv=>arg 3; whnf
        refine ZbC rfl ?_
        conv=>arg 3; whnf
        refine ZQ rfl ?_
        conv=>arg 3; whnf
        refine Zg rfl ?_ ?_
        ·conv=>arg 3; whnf
         refine Zg rfl ?_ ?_
         ·conv=>arg 3; whnf
          refine Zc (Zb s0.1 x210.1 (w64 (s0.2.2.1-1)) x210.2) (hrc s0.1 x210.1 (w64 (s0.2.2.1-1)) x210.2) fun x211 hx211=>?_
          conv=>arg 3; whnf
          exact Zd (ih _)
         ·conv=>arg 3; whnf
          refine Zc (Zb s0.1 x210.1 (w64 (s0.2.2.1-1)) x210.2) (hrc s0.1 x210.1 (w64 (s0.2.2.1-1)) x210.2) fun x212 hx212=>?_
          conv=>arg 3; whnf
          exact Zd (ih _)
        ·conv=>arg 3; whnf
         refine Zg rfl ?_ ?_
         ·conv=>arg 3; whnf
          refine Zc (Zb (w64 (x210.1+1)) s0.2.1 (w64 (s0.2.2.1-1)) x210.2) (hrc (w64 (x210.1+1)) s0.2.1 (w64 (s0.2.2.1-1)) x210.2) fun x213 hx213=>?_
          conv=>arg 3; whnf
          exact Zd (ih _)
         ·conv=>arg 3; whnf
          refine Zc (Zb (w64 (x210.1+1)) s0.2.1 (w64 (s0.2.2.1-1)) x210.2) (hrc (w64 (x210.1+1)) s0.2.1 (w64 (s0.2.2.1-1)) x210.2) fun x214 hx214=>?_
          conv=>arg 3; whnf
          exact Zd (ih _)
       ·conv=>arg 3; whnf
        refine ZQ rfl ?_
        conv=>arg 3; whnf
        refine ZQ rfl ?_
        conv=>arg 3; whnf
        refine Zg rfl ?_ ?_
        ·conv=>arg 3; whnf
         refine Zg rfl ?_ ?_
         ·conv=>arg 3; whnf
          refine Zc (Zb s0.1 x210.1 (w64 (s0.2.2.1-1)) x210.2) (hrc s0.1 x210.1 (w64 (s0.2.2.1-1)) x210.2) fun x215 hx215=>?_
          conv=>arg 3; whnf
          exact Zd (ih _)
         ·conv=>arg 3; whnf
          refine Zc (Zb s0.1 x210.1 (w64 (s0.2.2.1-1)) x210.2) (hrc s0.1 x210.1 (w64 (s0.2.2.1-1)) x210.2) fun x216 hx216=>?_
          conv=>arg 3; whnf
          exact Zd (ih _)
        ·conv=>arg 3; whnf
         refine Zg rfl ?_ ?_
         ·conv=>arg 3; whnf
          refine Zc (Zb (w64 (x210.1+1)) s0.2.1 (w64 (s0.2.2.1-1)) x210.2) (hrc (w64 (x210.1+1)) s0.2.1 (w64 (s0.2.2.1-1)) x210.2) fun x217 hx217=>?_
          conv=>arg 3; whnf
          exact Zd (ih _)
         ·conv=>arg 3; whnf
          refine Zc (Zb (w64 (x210.1+1)) s0.2.1 (w64 (s0.2.2.1-1)) x210.2) (hrc (w64 (x210.1+1)) s0.2.1 (w64 (s0.2.2.1-1)) x210.2) fun x218 hx218=>?_
          conv=>arg 3; whnf
          exact Zd (ih _)
  ·refine Zng ?_
   conv=>arg 3; whnf
   refine Zg rfl ?_ ?_
   ·conv=>arg 3; whnf
    refine Zc _ Zb4 fun x121 hx121=>?_
    conv=>arg 3; whnf
    exact Zh rfl
   ·conv=>arg 3; whnf
    refine Zg rfl ?_ ?_
    ·conv=>arg 3; whnf
     refine Zc _ ZcC fun x122 hx122=>?_
     conv=>arg 3; whnf
     exact Zh rfl
    ·conv=>arg 3; whnf
     refine Zc _ Zew fun x123 hx123=>?_
     conv=>arg 3; whnf
     refine Zc _ Zcc fun x124 hx124=>?_
     conv=>arg 3; whnf
     refine Zg rfl ?_ ?_
     ·conv=>arg 3; whnf
      refine Zc _ Zb8 fun x125 hx125=>?_
      conv=>arg 3; whnf
      refine Zg rfl ?_ ?_
      ·conv=>arg 3; whnf
       refine Zj rfl rfl fun x126 hx126=>?_
       conv=>arg 3; whnf
       refine Zf (Zl rfl hx126) ?_
       conv=>arg 3; whnf
       refine Zj rfl rfl fun x127 hx127=>?_
       conv=>arg 3; whnf
       refine Zf (Zl rfl hx127) ?_
       conv=>arg 3; whnf
       refine Zp _ Z0 rfl fun x128 hx128=>?_
       conv=>arg 3; whnf
       refine Zg rfl ?_ ?_
       ·conv=>arg 3; whnf
        refine Zc _ Zz fun x129 hx129=>?_
        clear hx129
        rcases x129 with x129 | x129
        ·conv=>arg 3; whnf
         refine ZbC rfl ?_
         conv=>arg 3; whnf
         refine ZQ rfl ?_
         conv=>arg 3; whnf
         refine Zg rfl ?_ ?_
         ·conv=>arg 3; whnf
          refine Zg rfl ?_ ?_
          ·conv=>arg 3; whnf
           refine Zc (Zb s0.1 x129.1 (w64 (s0.2.2.1-1)) x129.2) (hrc s0.1 x129.1 (w64 (s0.2.2.1-1)) x129.2) fun x130 hx130=>?_
           conv=>arg 3; whnf
           exact Zd (ih _)
          ·conv=>arg 3; whnf
           refine Zc (Zb s0.1 x129.1 (w64 (s0.2.2.1-1)) x129.2) (hrc s0.1 x129.1 (w64 (s0.2.2.1-1)) x129.2) fun x131 hx131=>?_
           conv=>arg 3; whnf
           exact Zd (ih _)
         ·conv=>arg 3; whnf
          refine Zg rfl ?_ ?_
          ·conv=>arg 3; whnf
           refine Zc (Zb (w64 (x129.1+1)) s0.2.1 (w64 (s0.2.2.1-1)) x129.2) (hrc (w64 (x129.1+1)) s0.2.1 (w64 (s0.2.2.1-1)) x129.2) fun x132 hx132=>?_
           conv=>arg 3; whnf
           exact Zd (ih _)
          ·conv=>arg 3; whnf
           refine Zc (Zb (w64 (x129.1+1)) s0.2.1 (w64 (s0.2.2.1-1)) x129.2) (hrc (w64 (x129.1+1)) s0.2.1 (w64 (s0.2.2.1-1)) x129.2) fun x133 hx133=>?_
           conv=>arg 3; whnf
           exact Zd (ih _)
        ·conv=>arg 3; whnf
         refine ZQ rfl ?_
         conv=>arg 3; whnf
         refine ZQ rfl ?_
         conv=>arg 3; whnf
         refine Zg rfl ?_ ?_
         ·conv=>arg 3; whnf
          refine Zg rfl ?_ ?_
          ·conv=>arg 3; whnf
           refine Zc (Zb s0.1 x129.1 (w64 (s0.2.2.1-1)) x129.2) (hrc s0.1 x129.1 (w64 (s0.2.2.1-1)) x129.2) fun x134 hx134=>?_
           conv=>arg 3; whnf
           exact Zd (ih _)
          ·conv=>arg 3; whnf
           refine Zc (Zb s0.1 x129.1 (w64 (s0.2.2.1-1)) x129.2) (hrc s0.1 x129.1 (w64 (s0.2.2.1-1)) x129.2) fun x135 hx135=>?_
           conv=>arg 3; whnf
           exact Zd (ih _)
         ·conv=>arg 3; whnf
          refine Zg rfl ?_ ?_
          ·conv=>arg 3; whnf
           refine Zc (Zb (w64 (x129.1+1)) s0.2.1 (w64 (s0.2.2.1-1)) x129.2) (hrc (w64 (x129.1+1)) s0.2.1 (w64 (s0.2.2.1-1)) x129.2) fun x136 hx136=>?_
           conv=>arg 3; whnf
           exact Zd (ih _)
          ·conv=>arg 3; whnf
           refine Zc (Zb (w64 (x129.1+1)) s0.2.1 (w64 (s0.2.2.1-1)) x129.2) (hrc (w64 (x129.1+1)) s0.2.1 (w64 (s0.2.2.1-1)) x129.2) fun x137 hx137=>?_
           conv=>arg 3; whnf
           exact Zd (ih _)
       ·conv=>arg 3; whnf
        refine Zc _ Z7 fun x138 hx138=>?_
        conv=>arg 3; whnf
        exact Zd (ih _)
      ·conv=>arg 3; whnf
       refine Zc _ Zz fun x139 hx139=>?_
       clear hx139
       rcases x139 with x139 | x139
       ·conv=>arg 3; whnf
        refine ZbC rfl ?_
        conv=>arg 3; whnf
        refine ZQ rfl ?_
        conv=>arg 3; whnf
        refine Zg rfl ?_ ?_
        ·conv=>arg 3; whnf
         refine Zg rfl ?_ ?_
         ·conv=>arg 3; whnf
          refine Zc (Zb s0.1 x139.1 (w64 (s0.2.2.1-1)) x139.2) (hrc s0.1 x139.1 (w64 (s0.2.2.1-1)) x139.2) fun x140 hx140=>?_
          conv=>arg 3; whnf
          exact Zd (ih _)
         ·conv=>arg 3; whnf
          refine Zc (Zb s0.1 x139.1 (w64 (s0.2.2.1-1)) x139.2) (hrc s0.1 x139.1 (w64 (s0.2.2.1-1)) x139.2) fun x141 hx141=>?_
          conv=>arg 3; whnf
          exact Zd (ih _)
        ·conv=>arg 3; whnf
         refine Zg rfl ?_ ?_
         ·conv=>arg 3; whnf
          refine Zc (Zb (w64 (x139.1+1)) s0.2.1 (w64 (s0.2.2.1-1)) x139.2) (hrc (w64 (x139.1+1)) s0.2.1 (w64 (s0.2.2.1-1)) x139.2) fun x142 hx142=>?_
          conv=>arg 3; whnf
          exact Zd (ih _)
         ·conv=>arg 3; whnf
          refine Zc (Zb (w64 (x139.1+1)) s0.2.1 (w64 (s0.2.2.1-1)) x139.2) (hrc (w64 (x139.1+1)) s0.2.1 (w64 (s0.2.2.1-1)) x139.2) fun x143 hx143=>?_
          conv=>arg 3; whnf
          exact Zd (ih _)
       ·conv=>arg 3; whnf
        refine ZQ rfl ?_
        conv=>arg 3; whnf
        refine ZQ rfl ?_
        conv=>arg 3; whnf
        refine Zg rfl ?_ ?_
        ·conv=>arg 3; whnf
         refine Zg rfl ?_ ?_
         ·conv=>arg 3; whnf
          refine Zc (Zb s0.1 x139.1 (w64 (s0.2.2.1-1)) x139.2) (hrc s0.1 x139.1 (w64 (s0.2.2.1-1)) x139.2) fun x144 hx144=>?_
          conv=>arg 3; whnf
          exact Zd (ih _)
         ·conv=>arg 3; whnf
          refine Zc (Zb s0.1 x139.1 (w64 (s0.2.2.1-1)) x139.2) (hrc s0.1 x139.1 (w64 (s0.2.2.1-1)) x139.2) fun x145 hx145=>?_
          conv=>arg 3; whnf
          exact Zd (ih _)
        ·conv=>arg 3; whnf
         refine Zg rfl ?_ ?_
         ·conv=>arg 3; whnf
          refine Zc (Zb (w64 (x139.1+1)) s0.2.1 (w64 (s0.2.2.1-1)) x139.2) (hrc (w64 (x139.1+1)) s0.2.1 (w64 (s0.2.2.1-1)) x139.2) fun x146 hx146=>?_
          conv=>arg 3; whnf
          exact Zd (ih _)
         ·conv=>arg 3; whnf
          refine Zc (Zb (w64 (x139.1+1)) s0.2.1 (w64 (s0.2.2.1-1)) x139.2) (hrc (w64 (x139.1+1)) s0.2.1 (w64 (s0.2.2.1-1)) x139.2) fun x147 hx147=>?_
          conv=>arg 3; whnf
          exact Zd (ih _)
     ·conv=>arg 3; whnf
      refine Zg rfl ?_ ?_
      ·conv=>arg 3; whnf
       refine Zj rfl rfl fun x148 hx148=>?_
       conv=>arg 3; whnf
       refine Zf (Zl rfl hx148) ?_
       conv=>arg 3; whnf
       refine Zj rfl rfl fun x149 hx149=>?_
       conv=>arg 3; whnf
       refine Zf (Zl rfl hx149) ?_
       conv=>arg 3; whnf
       refine Zp _ Z0 rfl fun x150 hx150=>?_
       conv=>arg 3; whnf
       refine Zg rfl ?_ ?_
       ·conv=>arg 3; whnf
        refine Zc _ Zz fun x151 hx151=>?_
        clear hx151
        rcases x151 with x151 | x151
        ·conv=>arg 3; whnf
         refine ZbC rfl ?_
         conv=>arg 3; whnf
         refine ZQ rfl ?_
         conv=>arg 3; whnf
         refine Zg rfl ?_ ?_
         ·conv=>arg 3; whnf
          refine Zg rfl ?_ ?_
          ·conv=>arg 3; whnf
           refine Zc (Zb s0.1 x151.1 (w64 (s0.2.2.1-1)) x151.2) (hrc s0.1 x151.1 (w64 (s0.2.2.1-1)) x151.2) fun x152 hx152=>?_
           conv=>arg 3; whnf
           exact Zd (ih _)
          ·conv=>arg 3; whnf
           refine Zc (Zb s0.1 x151.1 (w64 (s0.2.2.1-1)) x151.2) (hrc s0.1 x151.1 (w64 (s0.2.2.1-1)) x151.2) fun x153 hx153=>?_
           conv=>arg 3; whnf
           exact Zd (ih _)
         ·conv=>arg 3; whnf
          refine Zg rfl ?_ ?_
          ·conv=>arg 3; whnf
           refine Zc (Zb (w64 (x151.1+1)) s0.2.1 (w64 (s0.2.2.1-1)) x151.2) (hrc (w64 (x151.1+1)) s0.2.1 (w64 (s0.2.2.1-1)) x151.2) fun x154 hx154=>?_
           conv=>arg 3; whnf
           exact Zd (ih _)
          ·conv=>arg 3; whnf
           refine Zc (Zb (w64 (x151.1+1)) s0.2.1 (w64 (s0.2.2.1-1)) x151.2) (hrc (w64 (x151.1+1)) s0.2.1 (w64 (s0.2.2.1-1)) x151.2) fun x155 hx155=>?_
           conv=>arg 3; whnf
           exact Zd (ih _)
        ·conv=>arg 3; whnf
         refine ZQ rfl ?_
         conv=>arg 3; whnf
         refine ZQ rfl ?_
         conv=>arg 3; whnf
         refine Zg rfl ?_ ?_
         ·conv=>arg 3; whnf
          refine Zg rfl ?_ ?_
          ·conv=>arg 3; whnf
           refine Zc (Zb s0.1 x151.1 (w64 (s0.2.2.1-1)) x151.2) (hrc s0.1 x151.1 (w64 (s0.2.2.1-1)) x151.2) fun x156 hx156=>?_
           conv=>arg 3; whnf
           exact Zd (ih _)
          ·conv=>arg 3; whnf
           refine Zc (Zb s0.1 x151.1 (w64 (s0.2.2.1-1)) x151.2) (hrc s0.1 x151.1 (w64 (s0.2.2.1-1)) x151.2) fun x157 hx157=>?_
           conv=>arg 3; whnf
           exact Zd (ih _)
         ·conv=>arg 3; whnf
          refine Zg rfl ?_ ?_
          ·conv=>arg 3; whnf
           refine Zc (Zb (w64 (x151.1+1)) s0.2.1 (w64 (s0.2.2.1-1)) x151.2) (hrc (w64 (x151.1+1)) s0.2.1 (w64 (s0.2.2.1-1)) x151.2) fun x158 hx158=>?_
           conv=>arg 3; whnf
           exact Zd (ih _)
          ·conv=>arg 3; whnf
           refine Zc (Zb (w64 (x151.1+1)) s0.2.1 (w64 (s0.2.2.1-1)) x151.2) (hrc (w64 (x151.1+1)) s0.2.1 (w64 (s0.2.2.1-1)) x151.2) fun x159 hx159=>?_
           conv=>arg 3; whnf
           exact Zd (ih _)
       ·conv=>arg 3; whnf
        refine Zc _ Z7 fun x160 hx160=>?_
        conv=>arg 3; whnf
        exact Zd (ih _)
      ·conv=>arg 3; whnf
       refine Zc _ Zz fun x161 hx161=>?_
       clear hx161
       rcases x161 with x161 | x161
       ·conv=>arg 3; whnf
        refine ZbC rfl ?_
        conv=>arg 3; whnf
        refine ZQ rfl ?_
        conv=>arg 3; whnf
        refine Zg rfl ?_ ?_
        ·conv=>arg 3; whnf
         refine Zg rfl ?_ ?_
         ·conv=>arg 3; whnf
          refine Zc (Zb s0.1 x161.1 (w64 (s0.2.2.1-1)) x161.2) (hrc s0.1 x161.1 (w64 (s0.2.2.1-1)) x161.2) fun x162 hx162=>?_
          conv=>arg 3; whnf
          exact Zd (ih _)
         ·conv=>arg 3; whnf
          refine Zc (Zb s0.1 x161.1 (w64 (s0.2.2.1-1)) x161.2) (hrc s0.1 x161.1 (w64 (s0.2.2.1-1)) x161.2) fun x163 hx163=>?_
          conv=>arg 3; whnf
          exact Zd (ih _)
        ·conv=>arg 3; whnf
         refine Zg rfl ?_ ?_
         ·conv=>arg 3; whnf
          refine Zc (Zb (w64 (x161.1+1)) s0.2.1 (w64 (s0.2.2.1-1)) x161.2) (hrc (w64 (x161.1+1)) s0.2.1 (w64 (s0.2.2.1-1)) x161.2) fun x164 hx164=>?_
          conv=>arg 3; whnf
          exact Zd (ih _)
         ·conv=>arg 3; whnf
          refine Zc (Zb (w64 (x161.1+1)) s0.2.1 (w64 (s0.2.2.1-1)) x161.2) (hrc (w64 (x161.1+1)) s0.2.1 (w64 (s0.2.2.1-1)) x161.2) fun x165 hx165=>?_
          conv=>arg 3; whnf
          exact Zd (ih _)
       ·conv=>arg 3; whnf
        refine ZQ rfl ?_
        conv=>arg 3; whnf
        refine ZQ rfl ?_
        conv=>arg 3; whnf
        refine Zg rfl ?_ ?_
        ·conv=>arg 3; whnf
         refine Zg rfl ?_ ?_
         ·conv=>arg 3; whnf
          refine Zc (Zb s0.1 x161.1 (w64 (s0.2.2.1-1)) x161.2) (hrc s0.1 x161.1 (w64 (s0.2.2.1-1)) x161.2) fun x166 hx166=>?_
          conv=>arg 3; whnf
          exact Zd (ih _)
         ·conv=>arg 3; whnf
          refine Zc (Zb s0.1 x161.1 (w64 (s0.2.2.1-1)) x161.2) (hrc s0.1 x161.1 (w64 (s0.2.2.1-1)) x161.2) fun x167 hx167=>?_
          conv=>arg 3; whnf
          exact Zd (ih _)
        ·conv=>arg 3; whnf
         refine Zg rfl ?_ ?_
         ·conv=>arg 3; whnf
          refine Zc (Zb (w64 (x161.1+1)) s0.2.1 (w64 (s0.2.2.1-1)) x161.2) (hrc (w64 (x161.1+1)) s0.2.1 (w64 (s0.2.2.1-1)) x161.2) fun x168 hx168=>?_
          conv=>arg 3; whnf
          exact Zd (ih _)
         ·conv=>arg 3; whnf
          refine Zc (Zb (w64 (x161.1+1)) s0.2.1 (w64 (s0.2.2.1-1)) x161.2) (hrc (w64 (x161.1+1)) s0.2.1 (w64 (s0.2.2.1-1)) x161.2) fun x169 hx169=>?_
          conv=>arg 3; whnf
          exact Zd (ih _)
 ·refine Zng ?_
  rcases hb:s0.2.2.2.2.1 with _ | _
  ·refine Znw ?_
   conv=>arg 3; whnf
   refine Zg rfl ?_ ?_
   ·conv=>arg 3; whnf
    refine Zc _ Zb4 fun x73 hx73=>?_
    conv=>arg 3; whnf
    exact Zh rfl
   ·conv=>arg 3; whnf
    refine Zg rfl ?_ ?_
    ·conv=>arg 3; whnf
     refine Zc _ ZcC fun x74 hx74=>?_
     conv=>arg 3; whnf
     exact Zh rfl
    ·conv=>arg 3; whnf
     refine Zc _ Zcc fun x75 hx75=>?_
     conv=>arg 3; whnf
     refine Zg rfl ?_ ?_
     ·conv=>arg 3; whnf
      refine Zc _ Zb8 fun x76 hx76=>?_
      conv=>arg 3; whnf
      refine Zg rfl ?_ ?_
      ·conv=>arg 3; whnf
       refine Zj rfl rfl fun x77 hx77=>?_
       conv=>arg 3; whnf
       refine Zf (Zl rfl hx77) ?_
       conv=>arg 3; whnf
       refine Zj rfl rfl fun x78 hx78=>?_
       conv=>arg 3; whnf
       refine Zf (Zl rfl hx78) ?_
       conv=>arg 3; whnf
       refine Zp _ Z0 rfl fun x79 hx79=>?_
       conv=>arg 3; whnf
       refine Zg rfl ?_ ?_
       ·conv=>arg 3; whnf
        refine Zc _ Zz fun x80 hx80=>?_
        clear hx80
        rcases x80 with x80 | x80
        ·conv=>arg 3; whnf
         refine ZbC rfl ?_
         conv=>arg 3; whnf
         refine ZQ rfl ?_
         conv=>arg 3; whnf
         refine Zg rfl ?_ ?_
         ·conv=>arg 3; whnf
          refine Zg rfl ?_ ?_
          ·conv=>arg 3; whnf
           refine Zc (Zb s0.1 x80.1 s0.2.2.1 x80.2) (hrc s0.1 x80.1 s0.2.2.1 x80.2) fun x81 hx81=>?_
           conv=>arg 3; whnf
           exact Zd (ih _)
          ·conv=>arg 3; whnf
           refine Zc (Zb s0.1 x80.1 s0.2.2.1 x80.2) (hrc s0.1 x80.1 s0.2.2.1 x80.2) fun x82 hx82=>?_
           conv=>arg 3; whnf
           exact Zd (ih _)
         ·conv=>arg 3; whnf
          refine Zg rfl ?_ ?_
          ·conv=>arg 3; whnf
           refine Zc (Zb (w64 (x80.1+1)) s0.2.1 s0.2.2.1 x80.2) (hrc (w64 (x80.1+1)) s0.2.1 s0.2.2.1 x80.2) fun x83 hx83=>?_
           conv=>arg 3; whnf
           exact Zd (ih _)
          ·conv=>arg 3; whnf
           refine Zc (Zb (w64 (x80.1+1)) s0.2.1 s0.2.2.1 x80.2) (hrc (w64 (x80.1+1)) s0.2.1 s0.2.2.1 x80.2) fun x84 hx84=>?_
           conv=>arg 3; whnf
           exact Zd (ih _)
        ·conv=>arg 3; whnf
         refine ZQ rfl ?_
         conv=>arg 3; whnf
         refine ZQ rfl ?_
         conv=>arg 3; whnf
         refine Zg rfl ?_ ?_
         ·conv=>arg 3; whnf
          refine Zg rfl ?_ ?_
          ·conv=>arg 3; whnf
           refine Zc (Zb s0.1 x80.1 s0.2.2.1 x80.2) (hrc s0.1 x80.1 s0.2.2.1 x80.2) fun x85 hx85=>?_
           conv=>arg 3; whnf
           exact Zd (ih _)
          ·conv=>arg 3; whnf
           refine Zc (Zb s0.1 x80.1 s0.2.2.1 x80.2) (hrc s0.1 x80.1 s0.2.2.1 x80.2) fun x86 hx86=>?_
           conv=>arg 3; whnf
           exact Zd (ih _)
         ·conv=>arg 3; whnf
          refine Zg rfl ?_ ?_
          ·conv=>arg 3; whnf
           refine Zc (Zb (w64 (x80.1+1)) s0.2.1 s0.2.2.1 x80.2) (hrc (w64 (x80.1+1)) s0.2.1 s0.2.2.1 x80.2) fun x87 hx87=>?_
           conv=>arg 3; whnf
           exact Zd (ih _)
          ·conv=>arg 3; whnf
           refine Zc (Zb (w64 (x80.1+1)) s0.2.1 s0.2.2.1 x80.2) (hrc (w64 (x80.1+1)) s0.2.1 s0.2.2.1 x80.2) fun x88 hx88=>?_
           conv=>arg 3; whnf
           exact Zd (ih _)
       ·conv=>arg 3; whnf
        refine Zc _ Z7 fun x89 hx89=>?_
        conv=>arg 3; whnf
        exact Zd (ih _)
      ·conv=>arg 3; whnf
       refine Zc _ Zz fun x90 hx90=>?_
       clear hx90
       rcases x90 with x90 | x90
       ·conv=>arg 3; whnf
        refine ZbC rfl ?_
        conv=>arg 3; whnf
        refine ZQ rfl ?_
        conv=>arg 3; whnf
        refine Zg rfl ?_ ?_
        ·conv=>arg 3; whnf
         refine Zg rfl ?_ ?_
         ·conv=>arg 3; whnf
          refine Zc (Zb s0.1 x90.1 s0.2.2.1 x90.2) (hrc s0.1 x90.1 s0.2.2.1 x90.2) fun x91 hx91=>?_
          conv=>arg 3; whnf
          exact Zd (ih _)
         ·conv=>arg 3; whnf
          refine Zc (Zb s0.1 x90.1 s0.2.2.1 x90.2) (hrc s0.1 x90.1 s0.2.2.1 x90.2) fun x92 hx92=>?_
          conv=>arg 3; whnf
          exact Zd (ih _)
        ·conv=>arg 3; whnf
         refine Zg rfl ?_ ?_
         ·conv=>arg 3; whnf
          refine Zc (Zb (w64 (x90.1+1)) s0.2.1 s0.2.2.1 x90.2) (hrc (w64 (x90.1+1)) s0.2.1 s0.2.2.1 x90.2) fun x93 hx93=>?_
          conv=>arg 3; whnf
          exact Zd (ih _)
         ·conv=>arg 3; whnf
          refine Zc (Zb (w64 (x90.1+1)) s0.2.1 s0.2.2.1 x90.2) (hrc (w64 (x90.1+1)) s0.2.1 s0.2.2.1 x90.2) fun x94 hx94=>?_
          conv=>arg 3; whnf
          exact Zd (ih _)
       ·conv=>arg 3; whnf
        refine ZQ rfl ?_
        conv=>arg 3; whnf
        refine ZQ rfl ?_
        conv=>arg 3; whnf
        refine Zg rfl ?_ ?_
        ·conv=>arg 3; whnf
         refine Zg rfl ?_ ?_
         ·conv=>arg 3; whnf
          refine Zc (Zb s0.1 x90.1 s0.2.2.1 x90.2) (hrc s0.1 x90.1 s0.2.2.1 x90.2) fun x95 hx95=>?_
          conv=>arg 3; whnf
          exact Zd (ih _)
         ·conv=>arg 3; whnf
          refine Zc (Zb s0.1 x90.1 s0.2.2.1 x90.2) (hrc s0.1 x90.1 s0.2.2.1 x90.2) fun x96 hx96=>?_
          conv=>arg 3; whnf
          exact Zd (ih _)
        ·conv=>arg 3; whnf
         refine Zg rfl ?_ ?_
         ·conv=>arg 3; whnf
          refine Zc (Zb (w64 (x90.1+1)) s0.2.1 s0.2.2.1 x90.2) (hrc (w64 (x90.1+1)) s0.2.1 s0.2.2.1 x90.2) fun x97 hx97=>?_
          conv=>arg 3; whnf
          exact Zd (ih _)
         ·conv=>arg 3; whnf
          refine Zc (Zb (w64 (x90.1+1)) s0.2.1 s0.2.2.1 x90.2) (hrc (w64 (x90.1+1)) s0.2.1 s0.2.2.1 x90.2) fun x98 hx98=>?_
          conv=>arg 3; whnf
          exact Zd (ih _)
     ·conv=>arg 3; whnf
      refine Zg rfl ?_ ?_
      ·conv=>arg 3; whnf
       refine Zj rfl rfl fun x99 hx99=>?_
       conv=>arg 3; whnf
       refine Zf (Zl rfl hx99) ?_
       conv=>arg 3; whnf
       refine Zj rfl rfl fun x100 hx100=>?_
       conv=>arg 3; whnf
       refine Zf (Zl rfl hx100) ?_
       conv=>arg 3; whnf
       refine Zp _ Z0 rfl fun x101 hx101=>?_
       conv=>arg 3; whnf
       refine Zg rfl ?_ ?_
       ·conv=>arg 3; whnf
        refine Zc _ Zz fun x102 hx102=>?_
        clear hx102
        rcases x102 with x102 | x102
        ·conv=>arg 3; whnf
         refine ZbC rfl ?_
         conv=>arg 3; whnf
         refine ZQ rfl ?_
         conv=>arg 3; whnf
         refine Zg rfl ?_ ?_
         ·conv=>arg 3; whnf
          refine Zg rfl ?_ ?_
          ·conv=>arg 3; whnf
           refine Zc (Zb s0.1 x102.1 s0.2.2.1 x102.2) (hrc s0.1 x102.1 s0.2.2.1 x102.2) fun x103 hx103=>?_
           conv=>arg 3; whnf
           exact Zd (ih _)
          ·conv=>arg 3; whnf
           refine Zc (Zb s0.1 x102.1 s0.2.2.1 x102.2) (hrc s0.1 x102.1 s0.2.2.1 x102.2) fun x104 hx104=>?_
           conv=>arg 3; whnf
           exact Zd (ih _)
         ·conv=>arg 3; whnf
          refine Zg rfl ?_ ?_
          ·conv=>arg 3; whnf
           refine Zc (Zb (w64 (x102.1+1)) s0.2.1 s0.2.2.1 x102.2) (hrc (w64 (x102.1+1)) s0.2.1 s0.2.2.1 x102.2) fun x105 hx105=>?_
           conv=>arg 3; whnf
           exact Zd (ih _)
          ·conv=>arg 3; whnf
           refine Zc (Zb (w64 (x102.1+1)) s0.2.1 s0.2.2.1 x102.2) (hrc (w64 (x102.1+1)) s0.2.1 s0.2.2.1 x102.2) fun x106 hx106=>?_
           conv=>arg 3; whnf
           exact Zd (ih _)
        ·conv=>arg 3; whnf
         refine ZQ rfl ?_
         conv=>arg 3; whnf
         refine ZQ rfl ?_
         conv=>arg 3; whnf
         refine Zg rfl ?_ ?_
         ·conv=>arg 3; whnf
          refine Zg rfl ?_ ?_
          ·conv=>arg 3; whnf
           refine Zc (Zb s0.1 x102.1 s0.2.2.1 x102.2) (hrc s0.1 x102.1 s0.2.2.1 x102.2) fun x107 hx107=>?_
           conv=>arg 3; whnf
           exact Zd (ih _)
          ·conv=>arg 3; whnf
           refine Zc (Zb s0.1 x102.1 s0.2.2.1 x102.2) (hrc s0.1 x102.1 s0.2.2.1 x102.2) fun x108 hx108=>?_
           conv=>arg 3; whnf
           exact Zd (ih _)
         ·conv=>arg 3; whnf
          refine Zg rfl ?_ ?_
          ·conv=>arg 3; whnf
           refine Zc (Zb (w64 (x102.1+1)) s0.2.1 s0.2.2.1 x102.2) (hrc (w64 (x102.1+1)) s0.2.1 s0.2.2.1 x102.2) fun x109 hx109=>?_
           conv=>arg 3; whnf
           exact Zd (ih _)
          ·conv=>arg 3; whnf
           refine Zc (Zb (w64 (x102.1+1)) s0.2.1 s0.2.2.1 x102.2) (hrc (w64 (x102.1+1)) s0.2.1 s0.2.2.1 x102.2) fun x110 hx110=>?_
           conv=>arg 3; whnf
           exact Zd (ih _)
       ·conv=>arg 3; whnf
        refine Zc _ Z7 fun x111 hx111=>?_
        conv=>arg 3; whnf
        exact Zd (ih _)
      ·conv=>arg 3; whnf
       refine Zc _ Zz fun x112 hx112=>?_
       clear hx112
       rcases x112 with x112 | x112
       ·conv=>arg 3; whnf
        refine ZbC rfl ?_
        conv=>arg 3; whnf
        refine ZQ rfl ?_
        conv=>arg 3; whnf
        refine Zg rfl ?_ ?_
        ·conv=>arg 3; whnf
         refine Zg rfl ?_ ?_
         ·conv=>arg 3; whnf
          refine Zc (Zb s0.1 x112.1 s0.2.2.1 x112.2) (hrc s0.1 x112.1 s0.2.2.1 x112.2) fun x113 hx113=>?_
          conv=>arg 3; whnf
          exact Zd (ih _)
         ·conv=>arg 3; whnf
          refine Zc (Zb s0.1 x112.1 s0.2.2.1 x112.2) (hrc s0.1 x112.1 s0.2.2.1 x112.2) fun x114 hx114=>?_
          conv=>arg 3; whnf
          exact Zd (ih _)
        ·conv=>arg 3; whnf
         refine Zg rfl ?_ ?_
         ·conv=>arg 3; whnf
          refine Zc (Zb (w64 (x112.1+1)) s0.2.1 s0.2.2.1 x112.2) (hrc (w64 (x112.1+1)) s0.2.1 s0.2.2.1 x112.2) fun x115 hx115=>?_
          conv=>arg 3; whnf
          exact Zd (ih _)
         ·conv=>arg 3; whnf
          refine Zc (Zb (w64 (x112.1+1)) s0.2.1 s0.2.2.1 x112.2) (hrc (w64 (x112.1+1)) s0.2.1 s0.2.2.1 x112.2) fun x116 hx116=>?_
          conv=>arg 3; whnf
          exact Zd (ih _)
       ·conv=>arg 3; whnf
        refine ZQ rfl ?_
        conv=>arg 3; whnf
        refine ZQ rfl ?_
        conv=>arg 3; whnf
        refine Zg rfl ?_ ?_
        ·conv=>arg 3; whnf
         refine Zg rfl ?_ ?_
         ·conv=>arg 3; whnf
          refine Zc (Zb s0.1 x112.1 s0.2.2.1 x112.2) (hrc s0.1 x112.1 s0.2.2.1 x112.2) fun x117 hx117=>?_
          conv=>arg 3; whnf
          exact Zd (ih _)
         ·conv=>arg 3; whnf
          refine Zc (Zb s0.1 x112.1 s0.2.2.1 x112.2) (hrc s0.1 x112.1 s0.2.2.1 x112.2) fun x118 hx118=>?_
          conv=>arg 3; whnf
          exact Zd (ih _)
        ·conv=>arg 3; whnf
         refine Zg rfl ?_ ?_
         ·conv=>arg 3; whnf
          refine Zc (Zb (w64 (x112.1+1)) s0.2.1 s0.2.2.1 x112.2) (hrc (w64 (x112.1+1)) s0.2.1 s0.2.2.1 x112.2) fun x119 hx119=>?_
          conv=>arg 3; whnf
          exact Zd (ih _)
         ·conv=>arg 3; whnf
          refine Zc (Zb (w64 (x112.1+1)) s0.2.1 s0.2.2.1 x112.2) (hrc (w64 (x112.1+1)) s0.2.1 s0.2.2.1 x112.2) fun x120 hx120=>?_
          conv=>arg 3; whnf
          exact Zd (ih _)
  ·refine Zng ?_
   conv=>arg 3; whnf
   refine Zg rfl ?_ ?_
   ·conv=>arg 3; whnf
    refine Zc _ Zb4 fun x1 hx1=>?_
    conv=>arg 3; whnf
    exact Zh rfl
   ·conv=>arg 3; whnf
    refine Zg rfl ?_ ?_
    ·conv=>arg 3; whnf
     refine Zc _ ZcC fun x2 hx2=>?_
     conv=>arg 3; whnf
     exact Zh rfl
    ·conv=>arg 3; whnf
     refine Zc _ Zcc fun x3 hx3=>?_
     conv=>arg 3; whnf
     refine Zg rfl ?_ ?_
     ·conv=>arg 3; whnf
      refine Zc _ Zb8 fun x4 hx4=>?_
      conv=>arg 3; whnf
      refine ZbC rfl ?_
      conv=>arg 3; whnf
      refine Zc _ Zdv fun x5 hx5=>?_
      clear hx5
      rcases x5 with x5 | x5
      ·conv=>arg 3; whnf
       exact Zh rfl
      ·conv=>arg 3; whnf
       refine Zg rfl ?_ ?_
       ·conv=>arg 3; whnf
        refine Zj rfl rfl fun x6 hx6=>?_
        conv=>arg 3; whnf
        refine Zf (Zl rfl hx6) ?_
        conv=>arg 3; whnf
        refine Zj rfl rfl fun x7 hx7=>?_
        conv=>arg 3; whnf
        refine Zf (Zl rfl hx7) ?_
        conv=>arg 3; whnf
        refine Zp _ Z0 rfl fun x8 hx8=>?_
        conv=>arg 3; whnf
        refine Zg rfl ?_ ?_
        ·conv=>arg 3; whnf
         refine Zc _ Zz fun x9 hx9=>?_
         clear hx9
         rcases x9 with x9 | x9
         ·conv=>arg 3; whnf
          refine ZbC rfl ?_
          conv=>arg 3; whnf
          refine ZQ rfl ?_
          conv=>arg 3; whnf
          refine Zg rfl ?_ ?_
          ·conv=>arg 3; whnf
           refine Zg rfl ?_ ?_
           ·conv=>arg 3; whnf
            refine Zc (Zb s0.1 x9.1 s0.2.2.1 x9.2) (hrc s0.1 x9.1 s0.2.2.1 x9.2) fun x10 hx10=>?_
            conv=>arg 3; whnf
            exact Zd (ih _)
           ·conv=>arg 3; whnf
            refine Zc (Zb s0.1 x9.1 s0.2.2.1 x9.2) (hrc s0.1 x9.1 s0.2.2.1 x9.2) fun x11 hx11=>?_
            conv=>arg 3; whnf
            exact Zd (ih _)
          ·conv=>arg 3; whnf
           refine Zg rfl ?_ ?_
           ·conv=>arg 3; whnf
            refine Zc (Zb (w64 (x9.1+1)) s0.2.1 s0.2.2.1 x9.2) (hrc (w64 (x9.1+1)) s0.2.1 s0.2.2.1 x9.2) fun x12 hx12=>?_
            conv=>arg 3; whnf
            exact Zd (ih _)
           ·conv=>arg 3; whnf
            refine Zc (Zb (w64 (x9.1+1)) s0.2.1 s0.2.2.1 x9.2) (hrc (w64 (x9.1+1)) s0.2.1 s0.2.2.1 x9.2) fun x13 hx13=>?_
            conv=>arg 3; whnf
            exact Zd (ih _)
         ·conv=>arg 3; whnf
          refine ZQ rfl ?_
          conv=>arg 3; whnf
          refine ZQ rfl ?_
          conv=>arg 3; whnf
          refine Zg rfl ?_ ?_
          ·conv=>arg 3; whnf
           refine Zg rfl ?_ ?_
           ·conv=>arg 3; whnf
            refine Zc (Zb s0.1 x9.1 s0.2.2.1 x9.2) (hrc s0.1 x9.1 s0.2.2.1 x9.2) fun x14 hx14=>?_
            conv=>arg 3; whnf
            exact Zd (ih _)
           ·conv=>arg 3; whnf
            refine Zc (Zb s0.1 x9.1 s0.2.2.1 x9.2) (hrc s0.1 x9.1 s0.2.2.1 x9.2) fun x15 hx15=>?_
            conv=>arg 3; whnf
            exact Zd (ih _)
          ·conv=>arg 3; whnf
           refine Zg rfl ?_ ?_
           ·conv=>arg 3; whnf
            refine Zc (Zb (w64 (x9.1+1)) s0.2.1 s0.2.2.1 x9.2) (hrc (w64 (x9.1+1)) s0.2.1 s0.2.2.1 x9.2) fun x16 hx16=>?_
            conv=>arg 3; whnf
            exact Zd (ih _)
           ·conv=>arg 3; whnf
            refine Zc (Zb (w64 (x9.1+1)) s0.2.1 s0.2.2.1 x9.2) (hrc (w64 (x9.1+1)) s0.2.1 s0.2.2.1 x9.2) fun x17 hx17=>?_
            conv=>arg 3; whnf
            exact Zd (ih _)
        ·conv=>arg 3; whnf
         refine Zc _ Z7 fun x18 hx18=>?_
         conv=>arg 3; whnf
         exact Zd (ih _)
       ·conv=>arg 3; whnf
        refine Zc _ Zz fun x19 hx19=>?_
        clear hx19
        rcases x19 with x19 | x19
        ·conv=>arg 3; whnf
         refine ZbC rfl ?_
         conv=>arg 3; whnf
         refine ZQ rfl ?_
         conv=>arg 3; whnf
         refine Zg rfl ?_ ?_
         ·conv=>arg 3; whnf
          refine Zg rfl ?_ ?_
          ·conv=>arg 3; whnf
           refine Zc (Zb s0.1 x19.1 s0.2.2.1 x19.2) (hrc s0.1 x19.1 s0.2.2.1 x19.2) fun x20 hx20=>?_
           conv=>arg 3; whnf
           exact Zd (ih _)
          ·conv=>arg 3; whnf
           refine Zc (Zb s0.1 x19.1 s0.2.2.1 x19.2) (hrc s0.1 x19.1 s0.2.2.1 x19.2) fun x21 hx21=>?_
           conv=>arg 3; whnf
           exact Zd (ih _)
         ·conv=>arg 3; whnf
          refine Zg rfl ?_ ?_
          ·conv=>arg 3; whnf
           refine Zc (Zb (w64 (x19.1+1)) s0.2.1 s0.2.2.1 x19.2) (hrc (w64 (x19.1+1)) s0.2.1 s0.2.2.1 x19.2) fun x22 hx22=>?_
           conv=>arg 3; whnf
           exact Zd (ih _)
          ·conv=>arg 3; whnf
           refine Zc (Zb (w64 (x19.1+1)) s0.2.1 s0.2.2.1 x19.2) (hrc (w64 (x19.1+1)) s0.2.1 s0.2.2.1 x19.2) fun x23 hx23=>?_
           conv=>arg 3; whnf
           exact Zd (ih _)
        ·conv=>arg 3; whnf
         refine ZQ rfl ?_
         conv=>arg 3; whnf
         refine ZQ rfl ?_
         conv=>arg 3; whnf
         refine Zg rfl ?_ ?_
         ·conv=>arg 3; whnf
          refine Zg rfl ?_ ?_
          ·conv=>arg 3; whnf
           refine Zc (Zb s0.1 x19.1 s0.2.2.1 x19.2) (hrc s0.1 x19.1 s0.2.2.1 x19.2) fun x24 hx24=>?_
           conv=>arg 3; whnf
           exact Zd (ih _)
          ·conv=>arg 3; whnf
           refine Zc (Zb s0.1 x19.1 s0.2.2.1 x19.2) (hrc s0.1 x19.1 s0.2.2.1 x19.2) fun x25 hx25=>?_
           conv=>arg 3; whnf
           exact Zd (ih _)
         ·conv=>arg 3; whnf
          refine Zg rfl ?_ ?_
          ·conv=>arg 3; whnf
           refine Zc (Zb (w64 (x19.1+1)) s0.2.1 s0.2.2.1 x19.2) (hrc (w64 (x19.1+1)) s0.2.1 s0.2.2.1 x19.2) fun x26 hx26=>?_
           conv=>arg 3; whnf
           exact Zd (ih _)
          ·conv=>arg 3; whnf
           refine Zc (Zb (w64 (x19.1+1)) s0.2.1 s0.2.2.1 x19.2) (hrc (w64 (x19.1+1)) s0.2.1 s0.2.2.1 x19.2) fun x27 hx27=>?_
           conv=>arg 3; whnf
           exact Zd (ih _)
     ·conv=>arg 3; whnf
      refine Zg rfl ?_ ?_
      ·conv=>arg 3; whnf
       refine Zc _ Zdv fun x28 hx28=>?_
       clear hx28
       rcases x28 with x28 | x28
       ·conv=>arg 3; whnf
        exact Zh rfl
       ·conv=>arg 3; whnf
        refine Zg rfl ?_ ?_
        ·conv=>arg 3; whnf
         refine Zj rfl rfl fun x29 hx29=>?_
         conv=>arg 3; whnf
         refine Zf (Zl rfl hx29) ?_
         conv=>arg 3; whnf
         refine Zj rfl rfl fun x30 hx30=>?_
         conv=>arg 3; whnf
         refine Zf (Zl rfl hx30) ?_
         conv=>arg 3; whnf
         refine Zp _ Z0 rfl fun x31 hx31=>?_
         conv=>arg 3; whnf
         refine Zg rfl ?_ ?_
         ·conv=>arg 3; whnf
          refine Zc _ Zz fun x32 hx32=>?_
          clear hx32
          rcases x32 with x32 | x32
          ·conv=>arg 3; whnf
           refine ZbC rfl ?_
           conv=>arg 3; whnf
           refine ZQ rfl ?_
           conv=>arg 3; whnf
           refine Zg rfl ?_ ?_
           ·conv=>arg 3; whnf
            refine Zg rfl ?_ ?_
            ·conv=>arg 3; whnf
             refine Zc (Zb s0.1 x32.1 s0.2.2.1 x32.2) (hrc s0.1 x32.1 s0.2.2.1 x32.2) fun x33 hx33=>?_
             conv=>arg 3; whnf
             exact Zd (ih _)
            ·conv=>arg 3; whnf
             refine Zc (Zb s0.1 x32.1 s0.2.2.1 x32.2) (hrc s0.1 x32.1 s0.2.2.1 x32.2) fun x34 hx34=>?_
             conv=>arg 3; whnf
             exact Zd (ih _)
           ·conv=>arg 3; whnf
            refine Zg rfl ?_ ?_
            ·conv=>arg 3; whnf
             refine Zc (Zb (w64 (x32.1+1)) s0.2.1 s0.2.2.1 x32.2) (hrc (w64 (x32.1+1)) s0.2.1 s0.2.2.1 x32.2) fun x35 hx35=>?_
             conv=>arg 3; whnf
             exact Zd (ih _)
            ·conv=>arg 3; whnf
             refine Zc (Zb (w64 (x32.1+1)) s0.2.1 s0.2.2.1 x32.2) (hrc (w64 (x32.1+1)) s0.2.1 s0.2.2.1 x32.2) fun x36 hx36=>?_
             conv=>arg 3; whnf
             exact Zd (ih _)
          ·conv=>arg 3; whnf
           refine ZQ rfl ?_
           conv=>arg 3; whnf
           refine ZQ rfl ?_
           conv=>arg 3; whnf
           refine Zg rfl ?_ ?_
           ·conv=>arg 3; whnf
            refine Zg rfl ?_ ?_
            ·conv=>arg 3; whnf
             refine Zc (Zb s0.1 x32.1 s0.2.2.1 x32.2) (hrc s0.1 x32.1 s0.2.2.1 x32.2) fun x37 hx37=>?_
             conv=>arg 3; whnf
             exact Zd (ih _)
            ·conv=>arg 3; whnf
             refine Zc (Zb s0.1 x32.1 s0.2.2.1 x32.2) (hrc s0.1 x32.1 s0.2.2.1 x32.2) fun x38 hx38=>?_
             conv=>arg 3; whnf
             exact Zd (ih _)
           ·conv=>arg 3; whnf
            refine Zg rfl ?_ ?_
            ·conv=>arg 3; whnf
             refine Zc (Zb (w64 (x32.1+1)) s0.2.1 s0.2.2.1 x32.2) (hrc (w64 (x32.1+1)) s0.2.1 s0.2.2.1 x32.2) fun x39 hx39=>?_
             conv=>arg 3; whnf
             exact Zd (ih _)
            ·conv=>arg 3; whnf
             refine Zc (Zb (w64 (x32.1+1)) s0.2.1 s0.2.2.1 x32.2) (hrc (w64 (x32.1+1)) s0.2.1 s0.2.2.1 x32.2) fun x40 hx40=>?_
             conv=>arg 3; whnf
             exact Zd (ih _)
         ·conv=>arg 3; whnf
          refine Zc _ Z7 fun x41 hx41=>?_
          conv=>arg 3; whnf
          exact Zd (ih _)
        ·conv=>arg 3; whnf
         refine Zc _ Zz fun x42 hx42=>?_
         clear hx42
         rcases x42 with x42 | x42
         ·conv=>arg 3; whnf
          refine ZbC rfl ?_
          conv=>arg 3; whnf
          refine ZQ rfl ?_
          conv=>arg 3; whnf
          refine Zg rfl ?_ ?_
          ·conv=>arg 3; whnf
           refine Zg rfl ?_ ?_
           ·conv=>arg 3; whnf
            refine Zc (Zb s0.1 x42.1 s0.2.2.1 x42.2) (hrc s0.1 x42.1 s0.2.2.1 x42.2) fun x43 hx43=>?_
            conv=>arg 3; whnf
            exact Zd (ih _)
           ·conv=>arg 3; whnf
            refine Zc (Zb s0.1 x42.1 s0.2.2.1 x42.2) (hrc s0.1 x42.1 s0.2.2.1 x42.2) fun x44 hx44=>?_
            conv=>arg 3; whnf
            exact Zd (ih _)
          ·conv=>arg 3; whnf
           refine Zg rfl ?_ ?_
           ·conv=>arg 3; whnf
            refine Zc (Zb (w64 (x42.1+1)) s0.2.1 s0.2.2.1 x42.2) (hrc (w64 (x42.1+1)) s0.2.1 s0.2.2.1 x42.2) fun x45 hx45=>?_
            conv=>arg 3; whnf
            exact Zd (ih _)
           ·conv=>arg 3; whnf
            refine Zc (Zb (w64 (x42.1+1)) s0.2.1 s0.2.2.1 x42.2) (hrc (w64 (x42.1+1)) s0.2.1 s0.2.2.1 x42.2) fun x46 hx46=>?_
            conv=>arg 3; whnf
            exact Zd (ih _)
         ·conv=>arg 3; whnf
          refine ZQ rfl ?_
          conv=>arg 3; whnf
          refine ZQ rfl ?_
          conv=>arg 3; whnf
          refine Zg rfl ?_ ?_
          ·conv=>arg 3; whnf
           refine Zg rfl ?_ ?_
           ·conv=>arg 3; whnf
            refine Zc (Zb s0.1 x42.1 s0.2.2.1 x42.2) (hrc s0.1 x42.1 s0.2.2.1 x42.2) fun x47 hx47=>?_
            conv=>arg 3; whnf
            exact Zd (ih _)
           ·conv=>arg 3; whnf
            refine Zc (Zb s0.1 x42.1 s0.2.2.1 x42.2) (hrc s0.1 x42.1 s0.2.2.1 x42.2) fun x48 hx48=>?_
            conv=>arg 3; whnf
            exact Zd (ih _)
          ·conv=>arg 3; whnf
           refine Zg rfl ?_ ?_
           ·conv=>arg 3; whnf
            refine Zc (Zb (w64 (x42.1+1)) s0.2.1 s0.2.2.1 x42.2) (hrc (w64 (x42.1+1)) s0.2.1 s0.2.2.1 x42.2) fun x49 hx49=>?_
            conv=>arg 3; whnf
            exact Zd (ih _)
           ·conv=>arg 3; whnf
            refine Zc (Zb (w64 (x42.1+1)) s0.2.1 s0.2.2.1 x42.2) (hrc (w64 (x42.1+1)) s0.2.1 s0.2.2.1 x42.2) fun x50 hx50=>?_
            conv=>arg 3; whnf
            exact Zd (ih _)
      ·conv=>arg 3; whnf
       refine Zg rfl ?_ ?_
       ·conv=>arg 3; whnf
        refine Zj rfl rfl fun x51 hx51=>?_
        conv=>arg 3; whnf
        refine Zf (Zl rfl hx51) ?_
        conv=>arg 3; whnf
        refine Zj rfl rfl fun x52 hx52=>?_
        conv=>arg 3; whnf
        refine Zf (Zl rfl hx52) ?_
        conv=>arg 3; whnf
        refine Zp _ Z0 rfl fun x53 hx53=>?_
        conv=>arg 3; whnf
        refine Zg rfl ?_ ?_
        ·conv=>arg 3; whnf
         refine Zc _ Zz fun x54 hx54=>?_
         clear hx54
         rcases x54 with x54 | x54
         ·conv=>arg 3; whnf
          refine ZbC rfl ?_
          conv=>arg 3; whnf
          refine ZQ rfl ?_
          conv=>arg 3; whnf
          refine Zg rfl ?_ ?_
          ·conv=>arg 3; whnf
           refine Zg rfl ?_ ?_
           ·conv=>arg 3; whnf
            refine Zc (Zb s0.1 x54.1 s0.2.2.1 x54.2) (hrc s0.1 x54.1 s0.2.2.1 x54.2) fun x55 hx55=>?_
            conv=>arg 3; whnf
            exact Zd (ih _)
           ·conv=>arg 3; whnf
            refine Zc (Zb s0.1 x54.1 s0.2.2.1 x54.2) (hrc s0.1 x54.1 s0.2.2.1 x54.2) fun x56 hx56=>?_
            conv=>arg 3; whnf
            exact Zd (ih _)
          ·conv=>arg 3; whnf
           refine Zg rfl ?_ ?_
           ·conv=>arg 3; whnf
            refine Zc (Zb (w64 (x54.1+1)) s0.2.1 s0.2.2.1 x54.2) (hrc (w64 (x54.1+1)) s0.2.1 s0.2.2.1 x54.2) fun x57 hx57=>?_
            conv=>arg 3; whnf
            exact Zd (ih _)
           ·conv=>arg 3; whnf
            refine Zc (Zb (w64 (x54.1+1)) s0.2.1 s0.2.2.1 x54.2) (hrc (w64 (x54.1+1)) s0.2.1 s0.2.2.1 x54.2) fun x58 hx58=>?_
            conv=>arg 3; whnf
            exact Zd (ih _)
         ·conv=>arg 3; whnf
          refine ZQ rfl ?_
          conv=>arg 3; whnf
          refine ZQ rfl ?_
          conv=>arg 3; whnf
          refine Zg rfl ?_ ?_
          ·conv=>arg 3; whnf
           refine Zg rfl ?_ ?_
           ·conv=>arg 3; whnf
            refine Zc (Zb s0.1 x54.1 s0.2.2.1 x54.2) (hrc s0.1 x54.1 s0.2.2.1 x54.2) fun x59 hx59=>?_
            conv=>arg 3; whnf
            exact Zd (ih _)
           ·conv=>arg 3; whnf
            refine Zc (Zb s0.1 x54.1 s0.2.2.1 x54.2) (hrc s0.1 x54.1 s0.2.2.1 x54.2) fun x60 hx60=>?_
            conv=>arg 3; whnf
            exact Zd (ih _)
          ·conv=>arg 3; whnf
           refine Zg rfl ?_ ?_
           ·conv=>arg 3; whnf
            refine Zc (Zb (w64 (x54.1+1)) s0.2.1 s0.2.2.1 x54.2) (hrc (w64 (x54.1+1)) s0.2.1 s0.2.2.1 x54.2) fun x61 hx61=>?_
            conv=>arg 3; whnf
            exact Zd (ih _)
           ·conv=>arg 3; whnf
            refine Zc (Zb (w64 (x54.1+1)) s0.2.1 s0.2.2.1 x54.2) (hrc (w64 (x54.1+1)) s0.2.1 s0.2.2.1 x54.2) fun x62 hx62=>?_
            conv=>arg 3; whnf
            exact Zd (ih _)
        ·conv=>arg 3; whnf
         refine Zc _ Z7 fun x63 hx63=>?_
         conv=>arg 3; whnf
         exact Zd (ih _)
       ·conv=>arg 3; whnf
        refine Zc _ Zz fun x64 hx64=>?_
        clear hx64
        rcases x64 with x64 | x64
        ·conv=>arg 3; whnf
         refine ZbC rfl ?_
         conv=>arg 3; whnf
         refine ZQ rfl ?_
         conv=>arg 3; whnf
         refine Zg rfl ?_ ?_
         ·conv=>arg 3; whnf
          refine Zg rfl ?_ ?_
          ·conv=>arg 3; whnf
           refine Zc (Zb s0.1 x64.1 s0.2.2.1 x64.2) (hrc s0.1 x64.1 s0.2.2.1 x64.2) fun x65 hx65=>?_
           conv=>arg 3; whnf
           exact Zd (ih _)
          ·conv=>arg 3; whnf
           refine Zc (Zb s0.1 x64.1 s0.2.2.1 x64.2) (hrc s0.1 x64.1 s0.2.2.1 x64.2) fun x66 hx66=>?_
           conv=>arg 3; whnf
           exact Zd (ih _)
         ·conv=>arg 3; whnf
          refine Zg rfl ?_ ?_
          ·conv=>arg 3; whnf
           refine Zc (Zb (w64 (x64.1+1)) s0.2.1 s0.2.2.1 x64.2) (hrc (w64 (x64.1+1)) s0.2.1 s0.2.2.1 x64.2) fun x67 hx67=>?_
           conv=>arg 3; whnf
           exact Zd (ih _)
          ·conv=>arg 3; whnf
           refine Zc (Zb (w64 (x64.1+1)) s0.2.1 s0.2.2.1 x64.2) (hrc (w64 (x64.1+1)) s0.2.1 s0.2.2.1 x64.2) fun x68 hx68=>?_
           conv=>arg 3; whnf
           exact Zd (ih _)
        ·conv=>arg 3; whnf
         refine ZQ rfl ?_
         conv=>arg 3; whnf
         refine ZQ rfl ?_
         conv=>arg 3; whnf
         refine Zg rfl ?_ ?_
         ·conv=>arg 3; whnf
          refine Zg rfl ?_ ?_
          ·conv=>arg 3; whnf
           refine Zc (Zb s0.1 x64.1 s0.2.2.1 x64.2) (hrc s0.1 x64.1 s0.2.2.1 x64.2) fun x69 hx69=>?_
           conv=>arg 3; whnf
           exact Zd (ih _)
          ·conv=>arg 3; whnf
           refine Zc (Zb s0.1 x64.1 s0.2.2.1 x64.2) (hrc s0.1 x64.1 s0.2.2.1 x64.2) fun x70 hx70=>?_
           conv=>arg 3; whnf
           exact Zd (ih _)
         ·conv=>arg 3; whnf
          refine Zg rfl ?_ ?_
          ·conv=>arg 3; whnf
           refine Zc (Zb (w64 (x64.1+1)) s0.2.1 s0.2.2.1 x64.2) (hrc (w64 (x64.1+1)) s0.2.1 s0.2.2.1 x64.2) fun x71 hx71=>?_
           conv=>arg 3; whnf
           exact Zd (ih _)
          ·conv=>arg 3; whnf
           refine Zc (Zb (w64 (x64.1+1)) s0.2.1 s0.2.2.1 x64.2) (hrc (w64 (x64.1+1)) s0.2.1 s0.2.2.1 x64.2) fun x72 hx72=>?_
           conv=>arg 3; whnf
           exact Zd (ih _)
theorem ZhE (rc:Int→Int→Int→(List Int)→Option (List Int)) (hrc:∀(b:Int) (c:Int) (d:Int) (m0_0:(List Int)) (r:(List Int)),rc b c d m0_0=some r→evW ctx 140 [(.sl 0 1),(.d (Ze b)),(.d (Ze c)),(.d (Ze d))] [(.arr 1 (List.map Ze m0_0))]=some ((Zb b c d m0_0) r)) (b:Int) (c:Int) (d:Int) (m0_0:(List Int)):∀r,(Zca rc b c d m0_0)=some r→evW ctx 140 [(.sl 0 1),(.d (Ze b)),(.d (Ze c)),(.d (Ze d))] [(.arr 1 (List.map Ze m0_0))]=some ((Zb b c d m0_0) r):=by
 show Z6 _ (fun r rhs=>rhs=some ((Zb b c d m0_0) r)) _
 unfold Zca
 rw[Zeh ctx 140 ZwX _ _ rfl rfl]
 conv=>arg 3; whnf
 refine Zc _ (Zhu hrc _) fun r219 hr219=>?_
 conv=>arg 3; whnf
 exact Zh rfl
theorem Zfo:∀(n:Nat) (b:Int) (c:Int) (d:Int) (m0_0:(List Int)) (r:(List Int)),Zbf n b c d m0_0=some r→evW ctx 140 [(.sl 0 1),(.d (Ze b)),(.d (Ze c)),(.d (Ze d))] [(.arr 1 (List.map Ze m0_0))]=some ((Zb b c d m0_0) r)
  | 0,b,c,d,m0_0,r,h=>by cases h
  | n+1,b,c,d,m0_0,r,h=>ZhE (Zbf n) (Zfo n) b c d m0_0 r h
theorem Zh5 {b:Int} {c:Int} {d:Int} {m0_0:(List Int)}:∀r,ZeD b c d m0_0=some r→evW ctx 140 [(.sl 0 1),(.d (Ze b)),(.d (Ze c)),(.d (Ze d))] [(.arr 1 (List.map Ze m0_0))]=some ((Zb b c d m0_0) r):=fun r h=>by
  obtain⟨n,hn⟩:=Zuf h
  exact Zfo n b c d m0_0 r hn
def ZgX (m0_0:(List Int)):(List Int)→V×Zn
  | r=>((.d (D.tup [])),[(.arr 1 (List.map Ze r))])
theorem ZiV {m0_0:(List Int)}:∀r,(Zcz m0_0)=some r→evW ctx 127 [(.sl 0 1)] [(.arr 1 (List.map Ze m0_0))]=some ((ZgX m0_0) r):=by
 show Z6 _ (fun r rhs=>rhs=some ((ZgX m0_0) r)) _
 unfold Zcz
 rw[Zeh ctx 127 ZwU _ _ rfl rfl]
 conv=>arg 3; whnf
 refine Zo (Zam _ _) ?_
 conv=>arg 3; whnf
 refine Zp _ Zhn rfl fun x0 hx0=>?_
 conv=>arg 3; whnf
 refine Zc _ Zh5 fun x1 hx1=>?_
 conv=>arg 3; whnf
 exact Zh rfl
def Zhb (r:(List Int)):D:=(D.list true (List.map Ze r))
def Zgp (t1:Bool) (a:Zb3) (b0:Int):(List Int)→Ex×List V×Zn
  | r=>(.exit 0,[(.sl 0 1)],[(.arr 1 (List.map Ze r))])
theorem Zir {t1:Bool} {a:Zb3} {b0:Int}:∀(s0:Int×(List Int)) (r:(List Int)),lp (ZgQ a (fun z0=>Zfy z0 b0)) s0=some r→lpW ctx 0 [1,5,11,12,13] [5] ZtU [(.d (D.fn 104 [(D.rptr [(Ze b0)])])),(.sl 0 1),(.d (D.list t1 (List.map ZI a.edges))),(.d (Ze (a.edges.length:Int))),(.d (Ze s0.1))] [(.arr 1 (List.map Ze s0.2))]=some ((Zgp t1 a b0) r):=by
 refine Zbc (Zgp t1 a b0) ?_
 intro s0 rcl ih
 show Z6 _ _ (lpW _ _ _ _ _ _ _)
 unfold ZgQ
 rw[Zbd]
 conv=>arg 3; whnf
 refine Zg rfl ?_ ?_
 ·conv=>arg 3; whnf
  refine Zj rfl rfl fun x1 hx1=>?_
  conv=>arg 3; whnf
  refine Zp _ Znm rfl fun x2 hx2=>?_
  conv=>arg 3; whnf
  refine Zg rfl ?_ ?_
  ·conv=>arg 3; whnf
   refine ZbC rfl ?_
   conv=>arg 3; whnf
   refine Zg (Zjp Ze s0.2 1) ?_ ?_
   ·conv=>arg 3; whnf
    refine Zo (Zjl Ze s0.2 [x2.1]) ?_
    conv=>arg 3; whnf
    exact Zd (ih _)
   ·exact ZbG
  ·conv=>arg 3; whnf
   exact Zd (ih _)
 ·conv=>arg 3; whnf
  exact Zh rfl
theorem Zjd {t0:Bool} {t1:Bool} {a:Zb3} {b0:Int}:∀r,(Zln a (fun z0=>Zfy z0 b0))=some r→evD ctx 103 [(.d (D.agg [(D.list t0 (List.map Ze a.work)),(D.list t1 (List.map ZI a.edges))])),(.d (D.fn 104 [(D.rptr [(Ze b0)])]))]=some (Zhb r):=by
 show Z6 _ (fun r rhs=>rhs=some (Zhb r)) _
 unfold Zln
 rw[ZcP ctx 103 Zwr _ rfl rfl]
 conv=>arg 3; whnf
 refine Zo (Zam _ _) ?_
 conv=>arg 3; whnf
 refine Zc _ (Zir _) fun r3 hr3=>?_
 conv=>arg 3; whnf
 refine Zc _ ZiV fun x4 hx4=>?_
 conv=>arg 3; whnf
 exact Zh rfl
def ZlP (r:(List Int)):D:=(D.list true (List.map Ze r))
theorem Zol {t0:Bool} {t1:Bool} {a:Zb3} {b:Int}:∀r,(Zih a b)=some r→evD ctx 59 [(.d (D.agg [(D.list t0 (List.map Ze a.work)),(D.list t1 (List.map ZI a.edges))])),(.d (Ze b))]=some (ZlP r):=by
 show Z6 _ (fun r rhs=>rhs=some (ZlP r)) _
 unfold Zih
 rw[ZcP ctx 59 Zzj _ rfl rfl]
 conv=>arg 3; whnf
 refine Zp _ Zjd rfl fun x0 hx0=>?_
 conv=>arg 3; whnf
 exact Zh rfl
def Zla (r:Bool):D:=(D.bool r)
def Zjk (t0:Bool) (t1:Bool) (a:Zb3) (c:Int) (x0:(List Int)) (s1:Int×(List Int)) (x2:Int) (x3:(List Int)):(Unit⊕(List Int))→Ex×List V×Zn
  | (.inl r)=>(.ret,[(.d (Ze c)),(.ptr 0 0),(.d (D.bool true)),(.sl 1 1),(.d (D.list true (List.map Ze x0))),(.d (Ze (x0.length:Int))),(.d (Ze s1.1))],[(.cells [(.d (D.list t0 (List.map Ze a.work))),(.d (D.list t1 (List.map ZI a.edges)))]),(.arr 1 (List.map Ze s1.2))])
  | (.inr r)=>(.exit 2,[(.d (Ze c)),(.ptr 0 0),.bad,(.sl 1 1),(.d (D.list true (List.map Ze x0))),(.d (Ze (x0.length:Int))),(.d (Ze s1.1))],[(.cells [(.d (D.list t0 (List.map Ze a.work))),(.d (D.list t1 (List.map ZI a.edges)))]),(.arr 1 (List.map Ze r))])
theorem Zmd {t0:Bool} {t1:Bool} {a:Zb3} {c:Int} {x0:(List Int)} {s1:Int×(List Int)} {x2:Int} {x3:(List Int)}:∀(s4:Int) (r:(Unit⊕(List Int))),lp (Zfl c s1 x2 x3) s4=some r→lpW ctx 0 [2,3,7,9,15,16,17,23,24,25] [2,3,6,7,15,16,17] ZwP [(.d (Ze c)),(.ptr 0 0),(.sl 1 1),(.d (Ze x2)),(.d (D.list true (List.map Ze x0))),(.d (Ze (x0.length:Int))),(.d (Ze s1.1)),(.d (D.list true (List.map Ze x3))),(.d (Ze (x3.length:Int))),(.d (Ze s4))] [(.cells [(.d (D.list t0 (List.map Ze a.work))),(.d (D.list t1 (List.map ZI a.edges)))]),(.arr 1 (List.map Ze s1.2))]=some ((Zjk t0 t1 a c x0 s1 x2 x3) r):=by
 refine Zbc (Zjk t0 t1 a c x0 s1 x2 x3) ?_
 intro s4 rcl ih
 show Z6 _ _ (lpW _ _ _ _ _ _ _)
 unfold Zfl
 rw[Zbd]
 conv=>arg 3; whnf
 refine Zg rfl ?_ ?_
 ·conv=>arg 3; whnf
  refine Zj rfl rfl fun x5 hx5=>?_
  conv=>arg 3; whnf
  refine Zp _ ZfR rfl fun x6 hx6=>?_
  conv=>arg 3; whnf
  refine Zg rfl ?_ ?_
  ·conv=>arg 3; whnf
   refine Zg rfl ?_ ?_
   ·conv=>arg 3; whnf
    exact Zh rfl
   ·conv=>arg 3; whnf
    refine ZbC rfl ?_
    conv=>arg 3; whnf
    refine Zg (Zjp Ze s1.2 1) ?_ ?_
    ·conv=>arg 3; whnf
     refine Zo (Zjl Ze s1.2 [x2]) ?_
     conv=>arg 3; whnf
     exact Zh rfl
    ·exact ZbG
  ·conv=>arg 3; whnf
   exact Zd (ih _)
 ·conv=>arg 3; whnf
  exact Zh rfl
def Zjr (t0:Bool) (t1:Bool) (a:Zb3) (c:Int) (x0:(List Int)):(Unit⊕Unit)→Ex×List V×Zn
  | (.inl r)=>(.ret,[(.d (D.bool true))],[])
  | (.inr r)=>(.exit 0,[.bad],[])
theorem Zl9 {t0:Bool} {t1:Bool} {a:Zb3} {c:Int} {x0:(List Int)}:∀(s1:Int×(List Int)) (r:(Unit⊕Unit)),lp (Zes a c x0) s1=some r→lpW ctx 0 [2,3,7,15,16,17] [6] Zxl [(.d (Ze c)),(.ptr 0 0),(.sl 1 1),(.d (D.list true (List.map Ze x0))),(.d (Ze (x0.length:Int))),(.d (Ze s1.1))] [(.cells [(.d (D.list t0 (List.map Ze a.work))),(.d (D.list t1 (List.map ZI a.edges)))]),(.arr 1 (List.map Ze s1.2))]=some ((Zjr t0 t1 a c x0) r):=by
 refine Zbc (Zjr t0 t1 a c x0) ?_
 intro s1 rcl ih
 show Z6 _ _ (lpW _ _ _ _ _ _ _)
 unfold Zes
 rw[Zbd]
 conv=>arg 3; whnf
 refine Zg rfl ?_ ?_
 ·conv=>arg 3; whnf
  refine Zj rfl rfl fun x2 hx2=>?_
  conv=>arg 3; whnf
  refine Zp _ Zol rfl fun x3 hx3=>?_
  conv=>arg 3; whnf
  refine Zo (Zam _ _) ?_
  conv=>arg 3; whnf
  refine Zc _ (Zmd _) fun r7 hr7=>?_
  clear hr7
  rcases r7 with r7 | r7
  ·conv=>arg 3; whnf
   exact Zh rfl
  ·conv=>arg 3; whnf
   exact Zd (ih _)
 ·conv=>arg 3; whnf
  exact Zh rfl
theorem ZkH {t0:Bool} {t1:Bool} {a:Zb3} {b:Int} {c:Int}:∀r,(ZgO a b c)=some r→evD ctx 27 [(.d (D.agg [(D.list t0 (List.map Ze a.work)),(D.list t1 (List.map ZI a.edges))])),(.d (Ze b)),(.d (Ze c))]=some (Zla r):=by
 show Z6 _ (fun r rhs=>rhs=some (Zla r)) _
 unfold ZgO
 rw[ZcP ctx 27 Zze _ rfl rfl]
 conv=>arg 3; whnf
 refine Zp _ Zoi rfl fun x0 hx0=>?_
 conv=>arg 3; whnf
 refine Zo (Zam _ _) ?_
 conv=>arg 3; whnf
 refine Zc _ (Zl9 _) fun r8 hr8=>?_
 clear hr8
 rcases r8 with r8 | r8
 ·conv=>arg 3; whnf
  exact Zh rfl
 ·conv=>arg 3; whnf
  exact Zh rfl
def Zlm (r:Int):D:=(Ze r)
def Zjw (t2:Bool) (a:ZkR) (b:Zi):Int→Ex×List V×Zn
  | r=>(.exit 0,[(.d (Ze r))],[])
theorem Zmb {t2:Bool} {a:ZkR} {b:Zi}:∀(s0:Int) (r:Int),lp (Zem a b) s0=some r→lpW ctx 0 [3,5,9,10,11] [5] Zxs [(.ptr 0 0),(.d (Ze (-1))),(.d (D.list t2 (List.map Zb0 a.pieces))),(.d (Ze (a.pieces.length:Int))),(.d (Ze s0))] [(.cells [(.d (Ze b.part)),(.d (Ze b.step))])]=some ((Zjw t2 a b) r):=by
 refine Zbc (Zjw t2 a b) ?_
 intro s0 rcl ih
 show Z6 _ _ (lpW _ _ _ _ _ _ _)
 unfold Zem
 rw[Zbd]
 conv=>arg 3; whnf
 refine Zg rfl ?_ ?_
 ·conv=>arg 3; whnf
  refine Zj rfl rfl fun x1 hx1=>?_
  conv=>arg 3; whnf
  refine Zg rfl ?_ ?_
  ·conv=>arg 3; whnf
   exact Zh rfl
  ·conv=>arg 3; whnf
   exact Zd (ih _)
 ·conv=>arg 3; whnf
  exact Zh rfl
theorem ZnX {t0:Bool} {t1:Bool} {t2:Bool} {a:ZkR} {b:Zi}:∀r,(Zhx a b)=some r→evD ctx 21 [(.d (D.agg [(D.list t0 (List.map Ze a.dag.work)),(D.list t1 (List.map ZI a.dag.edges)),(D.list t2 (List.map Zb0 a.pieces))])),(.d (D.agg [(Ze b.part),(Ze b.step)]))]=some (Zlm r):=by
 show Z6 _ (fun r rhs=>rhs=some (Zlm r)) _
 unfold Zhx
 rw[ZcP ctx 21 ZzV _ rfl rfl]
 conv=>arg 3; whnf
 refine Zo (Zam _ _) ?_
 conv=>arg 3; whnf
 refine Zc _ (Zmb _) fun r2 hr2=>?_
 conv=>arg 3; whnf
 exact Zh rfl
def ZiW (r:Bool):D:=(D.bool r)
def ZhR (t0:Bool) (t1:Bool) (t2:Bool) (t3:Bool) (a:Zt) (x5:(ZkR×Int)) (x6:Zk) (x7:Int):(Int⊕Int)→Ex×List V×Zn
  | (.inl r)=>(.ret,[(.ptr 0 0),(.d (D.bool false)),(.ptr 1 0),(.ptr 2 0),(.d (Ze x7)),(.d (Ze r))],[(.cells (dV t0 t1 t2 t3 a)),(.cells [(.d (D.list true (List.map Ze x5.1.dag.work))),(.d (D.list true (List.map ZI x5.1.dag.edges))),(.d (D.list true (List.map Zb0 x5.1.pieces)))]),(.cells [(.d (Ze x6.maker)),(.d (Ze x6.user)),(.d (Ze x6.pos))])])
  | (.inr r)=>(.exit 0,[(.ptr 0 0),.bad,(.ptr 1 0),(.ptr 2 0),(.d (Ze x7)),(.d (Ze r))],[(.cells (dV t0 t1 t2 t3 a)),(.cells [(.d (D.list true (List.map Ze x5.1.dag.work))),(.d (D.list true (List.map ZI x5.1.dag.edges))),(.d (D.list true (List.map Zb0 x5.1.pieces)))]),(.cells [(.d (Ze x6.maker)),(.d (Ze x6.user)),(.d (Ze x6.pos))])])
theorem Zkn {t0:Bool} {t1:Bool} {t2:Bool} {t3:Bool} {a:Zt} {x5:(ZkR×Int)} {x6:Zk} {x7:Int}:∀(s8:Int×Int) (r:(Int⊕Int)),lp (Zbz x5 x6 x7) s8=some r→lpW ctx 0 [2,5,7,8,9,10] [2,4,5,7,8,9] Zy6 [(.ptr 0 0),(.ptr 1 0),(.ptr 2 0),(.d (Ze x7)),(.d (Ze s8.1)),(.d (Ze s8.2))] [(.cells (dV t0 t1 t2 t3 a)),(.cells [(.d (D.list true (List.map Ze x5.1.dag.work))),(.d (D.list true (List.map ZI x5.1.dag.edges))),(.d (D.list true (List.map Zb0 x5.1.pieces)))]),(.cells [(.d (Ze x6.maker)),(.d (Ze x6.user)),(.d (Ze x6.pos))])]=some ((ZhR t0 t1 t2 t3 a x5 x6 x7) r):=by
 refine Zbc (ZhR t0 t1 t2 t3 a x5 x6 x7) ?_
 intro s8 rcl ih
 show Z6 _ _ (lpW _ _ _ _ _ _ _)
 unfold Zbz
 rw[Zbd]
 conv=>arg 3; whnf
 refine Zo (Zam _ _) ?_
 conv=>arg 3; whnf
 refine Zg rfl ?_ ?_
 ·conv=>arg 3; whnf
  refine Zj rfl rfl fun x9 hx9=>?_
  conv=>arg 3; whnf
  refine Zg rfl ?_ ?_
  ·conv=>arg 3; whnf
   exact Zd (ih _)
  ·conv=>arg 3; whnf
   refine Zg rfl ?_ ?_
   ·conv=>arg 3; whnf
    refine Zp _ ZkH rfl fun x10 hx10=>?_
    conv=>arg 3; whnf
    refine Zg rfl ?_ ?_
    ·conv=>arg 3; whnf
     refine Zj rfl rfl fun x11 hx11=>?_
     conv=>arg 3; whnf
     exact Zd (ih _)
    ·conv=>arg 3; whnf
     exact Zh rfl
   ·conv=>arg 3; whnf
    refine Zj rfl rfl fun x12 hx12=>?_
    conv=>arg 3; whnf
    exact Zd (ih _)
 ·conv=>arg 3; whnf
  exact Zh rfl
theorem ZlB {t0:Bool} {t1:Bool} {t2:Bool} {t3:Bool} {a:Zt} {b:Int}:∀r,(ZgP a b)=some r→evD ctx 6 [(.d (D.agg (dA t0 t1 t2 t3 a))),(.d (Ze b))]=some (ZiW r):=by
 show Z6 _ (fun r rhs=>rhs=some (ZiW r)) _
 unfold ZgP
 rw[ZcP ctx 6 fn6 _ rfl rfl]
 conv=>arg 3; whnf
 refine Zp _ ZfX rfl fun x0 hx0=>?_
 conv=>arg 3; whnf
 refine Zg rfl ?_ ?_
 ·conv=>arg 3; whnf
  refine Zp _ Zph rfl fun x1 hx1=>?_
  conv=>arg 3; whnf
  refine Zg rfl ?_ ?_
  ·conv=>arg 3; whnf
   refine Zg rfl ?_ ?_
   ·conv=>arg 3; whnf
    refine Zp _ ZfX rfl fun x2 hx2=>?_
    conv=>arg 3; whnf
    refine Zg rfl ?_ ?_
    ·conv=>arg 3; whnf
     exact Zh rfl
    ·conv=>arg 3; whnf
     exact Zh rfl
   ·conv=>arg 3; whnf
    refine Zo (Zam _ _) ?_
    conv=>arg 3; whnf
    refine Zg rfl ?_ ?_
    ·conv=>arg 3; whnf
     refine Zp _ ZfX rfl fun x3 hx3=>?_
     conv=>arg 3; whnf
     refine Zg rfl ?_ ?_
     ·conv=>arg 3; whnf
      exact Zh rfl
     ·conv=>arg 3; whnf
      exact Zh rfl
    ·conv=>arg 3; whnf
     refine Zc _ ZoL fun x4 hx4=>?_
     conv=>arg 3; whnf
     refine Zp _ Znr rfl fun x5 hx5=>?_
     conv=>arg 3; whnf
     refine Zg rfl ?_ ?_
     ·conv=>arg 3; whnf
      exact Zh rfl
     ·conv=>arg 3; whnf
      refine Zj rfl rfl fun x6 hx6=>?_
      conv=>arg 3; whnf
      refine Zp _ ZkD rfl fun x7 hx7=>?_
      conv=>arg 3; whnf
      refine Zc _ (Zkn _) fun r13 hr13=>?_
      clear hr13
      rcases r13 with r13 | r13
      ·conv=>arg 3; whnf
       exact Zh rfl
      ·conv=>arg 3; whnf
       refine Zg rfl ?_ ?_
       ·conv=>arg 3; whnf
        refine Zj rfl rfl fun x14 hx14=>?_
        conv=>arg 3; whnf
        refine Zg rfl ?_ ?_
        ·conv=>arg 3; whnf
         refine Zp _ ZnX rfl fun x15 hx15=>?_
         conv=>arg 3; whnf
         refine Zp _ ZkD rfl fun x16 hx16=>?_
         conv=>arg 3; whnf
         refine Zp _ ZkH rfl fun x17 hx17=>?_
         conv=>arg 3; whnf
         refine Zg rfl ?_ ?_
         ·conv=>arg 3; whnf
          exact Zh rfl
         ·conv=>arg 3; whnf
          exact Zh rfl
        ·conv=>arg 3; whnf
         exact Zh rfl
       ·conv=>arg 3; whnf
        exact Zh rfl
  ·conv=>arg 3; whnf
   refine Zp _ ZfX rfl fun x18 hx18=>?_
   conv=>arg 3; whnf
   refine Zg rfl ?_ ?_
   ·conv=>arg 3; whnf
    exact Zh rfl
   ·conv=>arg 3; whnf
    exact Zh rfl
 ·conv=>arg 3; whnf
  refine Zp _ ZfX rfl fun x19 hx19=>?_
  conv=>arg 3; whnf
  refine Zg rfl ?_ ?_
  ·conv=>arg 3; whnf
   exact Zh rfl
  ·conv=>arg 3; whnf
   exact Zh rfl
end Go.Proofs.YtljgncbdagmeeaaDoor
namespace Go.Proofs.YtljgncbdagmeeaaDoor
open Go Go.Proofs.YtljgncbdagmeeaaDoorE
abbrev ZwA:List Lf×Bool:=([.int .i64],false)
abbrev ZrM:List Lf×Bool:=([.int .i64,.int .i64,.sl true [.int .i64,.int .i64,.int .i64],.sl true [.int .i64,.int .i64],.sl true [.int .i64,.int .i64,.int .i64],.sl true [.sl false [.int .i64],.sl false [.int .i64]]],true)
end Go.Proofs.YtljgncbdagmeeaaDoor
namespace Go.Proofs.YtljgncbdagmeeaaDoor
open Go Go.Proofs.YtljgncbdagmeeaaDoorE
set_option linter.unusedVariables false
set_option linter.unusedSimpArgs false
theorem ZrX {d:Zt} (g:ZeI d) {n:Nat} (hn:n<d.parts.length) {i:Nat}:∀j,i≤j→j≤nt d n+1→cut d n i≤cut d n j∧(i<j→cut d n i<cut d n j)
 | 0,h,_=>by
  have:i=0:=by omega
  subst this
  exact⟨Int.le_refl _,fun h=>absurd h (by omega)⟩
 | j+1,h,h2=>by
  by_cases hi:i=j+1
  ·subst hi; exact⟨Int.le_refl _,fun h=>absurd h (by omega)⟩
  ·have ih:=(ZrX g hn (i:=i) j (by omega) (by omega)).1
   have:=Zxd g hn (show j≤nt d n by omega)
   exact⟨by omega,fun _=>by omega⟩
def Zhc (d:Zt) (n i:Nat):Int:=if i≤ZU d n then 0 else if i≤ZU d (n+1) then cut d n (i-ZU d n) else ZfG d.parts (n:Int)
theorem ZqK (d:Zt) (z:Int):ZgP d z=some true:=by
 have aw:Zfw=some true:=rfl
 unfold ZgP
 simp only[aw,cond_true,ZAm,Option.bind_some]
 cases hf:few d with
 | false=>rfl
 | true=>
  have hz:=ZuE hf
  by_cases z0:z<0
  ·rw[decide_eq_true z0]; rfl
  by_cases z1:(d.futures.length:Int)≤z
  ·rw[decide_eq_false z0,decide_eq_true z1]; rfl
  rw[decide_eq_false z0,decide_eq_false z1]
  simp only[cond_true,cond_false,ZCg d hz,Option.bind_some,show Zt.mk d.period d.deadline d.parts d.edges d.futures d.barriers=d from rfl,Zyh hz]
  rcases ZsT d with⟨h1,h2,h3⟩ | ⟨h1,h2⟩
  ·have g:=ZrK h2
   have hpl:=g.pl
   have hfl:=g.fl
   have hbl:=g.bl
   have hzl:z.toNat<d.futures.length:=by omega
   have hget:Zy d.futures z=some d.futures[z.toNat]:=Zuu (by omega) hzl
   generalize hfd:d.futures[z.toNat]=f at hget
   have hm:f∈d.futures:=hfd ▸ List.getElem_mem hzl
   have hu:=g.user hm
   have hk:=g.maker hm
   have eu:((f.user.toNat:Nat):Int)=f.user:=Int.toNat_of_nonneg hu.1
   obtain⟨j0,hj0,hj0e⟩:=Zrn g hm
   have hpos:f.pos=cut d f.user.toNat (j0+1):=by rw[← (ZeL g.g hj0).2.2.2.1,hj0e]
   have hbeg:=ZtH g hm hj0 hj0e
   generalize hn:f.user.toNat=n at hj0 hj0e hpos hbeg eu
   have hnP:n<d.parts.length:=hn ▸ hu.2
   have hstep:=Zhq d n
   have hF:=ZhY g d.parts.length
   have hlenP:(Zc4 d).length=d.parts.length+d.futures.length+d.barriers.length:=Zl7 g
   have hmono:=ZkZ d (show n+1≤d.parts.length by omega)
   have hall:=Zo0 g
   obtain⟨x,x1,x2⟩:=Zq8 hnP
   rw[eu] at x1
   have key:∀(k i:Nat),i+k=(Zc4 d).length→lp (Zbz (ZcK d,0) f (Zf9 d f.maker)) (Zhc d n i,(i:Int))=some (.inr (ZfG d.parts (n:Int))):=by
    intro k
    induction k with
    | zero=>
     intro i hi
     have hi2:i=(ZcK d).pieces.length:=by show i=(Zc4 d).length; omega
     rw[Zcb]
     subst hi2
     simp only[Zbz,ZhN,cond_false]
     have hlen2:(ZcK d).pieces.length=d.parts.length+d.futures.length+d.barriers.length:=hlenP
     unfold Zhc
     rw[if_neg (by omega)]
     by_cases hc:(ZcK d).pieces.length≤ZU d (n+1)
     ·rw[if_pos hc,show(ZcK d).pieces.length-ZU d n=nt d n+1 by omega,Zoc]
     ·rw[if_neg hc]
    | succ k ih=>
     intro i hi
     have hi':i<(Zc4 d).length:=by omega
     have hi2:i<(ZcK d).pieces.length:=hi'
     have hy:(Zc4 d)[i]? = some (Zc4 d)[i]:=List.getElem?_eq_getElem hi'
     have hy2:(ZcK d).pieces[i]? = some (Zc4 d)[i]:=hy
     have ih':=ih (i+1) (by omega)
     have hlenb:(ZcK d).pieces.length<9223372036854775808:=by show(Zc4 d).length<_; omega
     have eup:(f.user:Int)=(n:Int):=eu.symm
     have other:(Zc4 d)[i].part≠f.user→(i<ZU d n∨ZU d (n+1)≤i)→lp (Zbz (ZcK d,0) f (Zf9 d f.maker)) (Zhc d n i,(i:Int))=some (.inr (ZfG d.parts (n:Int))):=by
      intro hne hout
      have he:Zhc d n i=Zhc d n (i+1):=by
       unfold Zhc
       rcases hout with ho | ho
       ·rw[if_pos (by omega),if_pos (by omega)]
       ·rw[if_neg (by omega),if_neg (show ¬i+1≤ZU d n by omega),if_neg (show ¬i+1≤ZU d (n+1) by omega)]
        by_cases hc:i≤ZU d (n+1)
        ·rw[if_pos hc,show i-ZU d n=nt d n+1 by omega,Zoc]
        ·rw[if_neg hc]
      rw[Zcb]
      simp only[Zbz,Zgw hi2,cond_true,ZbT hy2,Option.bind_some,bne_iff_ne.2 hne,ZaN hi2 hlenb]
      rw[he]
      exact ih'
     rcases ZkP hy with⟨m,j,m1,m2,m3,m4⟩ | ⟨m1,m2⟩
     ·by_cases hmn:m=n
      ·subst hmn
       have hpart:(Zc4 d)[i].part=f.user:=by rw[m4,eup]
       have hw:(Zkq d)[i]? = some (cut d m (j+1)-cut d m j):=by rw[m3]; exact ZyP m1 m2
       have hw2:(ZcK d).dag.work[i]? = some (cut d m (j+1)-cut d m j):=hw
       have ha:Zhc d m i=cut d m j:=by
        unfold Zhc
        by_cases hj:j=0
        ·subst hj; rw[if_pos (by omega)]; rfl
        ·rw[if_neg (by omega),if_pos (by omega),show i-ZU d m=j by omega]
       have ha1:Zhc d m (i+1)=cut d m (j+1):=by
        unfold Zhc
        rw[if_neg (by omega),if_pos (by omega),show i+1-ZU d m=j+1 by omega]
       have b0:=Zts g.g m j
       have b1:=Zts g.g m (j+1)
       have hs:w64 (cut d m j+(cut d m (j+1)-cut d m j))=cut d m (j+1):=by rw[Zd4 (by omega) (by omega)]; omega
       rw[ha1] at ih'
       rw[ha,Zcb]
       by_cases hat:f.pos≤cut d m j
       ·have hjm:j0+1≤j:=by
         rcases Nat.lt_or_ge j (j0+1) with hlt | hge
         ·have:=(ZrX g m1 (i:=j) (j0+1) (by omega) (by omega)).2 hlt
          omega
         ·exact hge
        have w:Way (ZcK d).dag (Zf9 d f.maker) (i:Int):=by
         have w1:Way (ZcK d).dag (Zf9 d f.maker) (Zq4 d f):=Way.one (ZpS hm)
         rw[hbeg,show ZU d m+j0+1=ZU d m+(j0+1) by omega] at w1
         rw[m3]
         exact w1.ways (Zt0 m1 j hjm m2)
        simp only[Zbz,Zgw hi2,cond_true,ZbT hy2,Option.bind_some,hpart,bne_self_eq_false,cond_false,decide_eq_true hat,ZrI h3,ZsU w,ZbT hw2,hs,ZaN hi2 hlenb]
        exact ih'
       ·simp only[Zbz,Zgw hi2,cond_true,ZbT hy2,Option.bind_some,hpart,bne_self_eq_false,cond_false,decide_eq_false hat,ZbT hw2,hs,ZaN hi2 hlenb]
        exact ih'
      ·refine other (by rw[m4,eup]; show(m:Int)≠(n:Int); omega) ?_
       rcases Nat.lt_or_ge m n with hlt | hge
       ·exact .inl (by have:=ZjP d hlt m2; omega)
       ·have:=ZkZ d (show n+1≤m by omega)
        exact .inr (by omega)
     ·exact other (by rw[m2,eup]; omega) (.inr (by omega))
   have k0:=key (Zc4 d).length 0 (by omega)
   have ha0:Zhc d n 0=0:=by unfold Zhc; rw[if_pos (by omega)]
   rw[ha0] at k0
   have lz:(0:Int)≤Zf9 d f.maker:=by unfold Zf9; have:=Zhq d f.maker.toNat; omega
   have w2:Way (ZcK d).dag (Zit d f.maker) (Zf9 d f.user):=by
    have w1:Way (ZcK d).dag (Zf9 d f.maker) (Zq4 d f):=Way.one (ZpS hm)
    rw[hbeg,show ZU d n+j0+1=ZU d n+(j0+1) by omega] at w1
    have c2:=Zt0 hnP (nt d n) (show j0+1≤nt d n by omega) (Nat.le_refl _)
    have e2:Zf9 d f.user=((ZU d n+nt d n:Nat):Int):=by unfold Zf9; rw[hn,hstep]; omega
    rw[e2]
    exact(Zz0 hk).way (w1.ways c2)
   rw[h1]
   simp only[bne_self_eq_false,cond_false,hget,Option.bind_some,ZrG g hk,show lp (Zbz (ZcK d,0) f (Zf9 d f.maker)) (0,0)=_ from k0,decide_eq_true lz,cond_true,x1,x2,beq_self_eq_true,Zw3 g hk,ZrG g hu,ZrI h3,ZsU w2]
  ·have hne:((ZsK d).2 != 0)=true:=by rw[bne,beq_false_of_ne h2]; rfl
   rw[hne]
   rfl
theorem Zr6 (xs:List D) (h:Zh7 ZrM.1 xs) (ys:List D) (k:Zh7 ZwA.1 ys) :
  ∃H',evW ctx 6 (ZdO [Zr1 ZrM.2 xs,Zr1 ZwA.2 ys]) []=some (.d (.bool true),H'):=by
 obtain⟨d,hd,_⟩:=ZxU h
 obtain⟨n,hn,_⟩:=ZzI k
 show ∃H',evW ctx 6 [.d (D.agg xs),.d (Zr1 false ys)] []=_
 rw[hd,hn]
 exact ZxK (ZlB true (ZqK d n))
end Go.Proofs.YtljgncbdagmeeaaDoor
namespace Go.Proofs.YtljgncbdagmeeaaDoor.LawLowTouch
open Go.ChangeShapes Go.WideShapes Go.ChangeAt Go.RowKit Go.Proofs.YtljgncbdagmeeaaDoorE
set_option linter.unusedVariables false
theorem own:ownKnob Tryd.prog.godebug=none:=by kernel_rfl
theorem Zt6:laidOutB Tryd.prog=true:=by kernel_rfl
def Zpz : List (String × DataW Unit) := [("math/bits.deBruijn32tab", Rows.laid_math_bits_deBruijn32tab), ("math/bits.deBruijn64tab", Rows.laid_math_bits_deBruijn64tab)]
theorem Zxn (os:Os) (args:Array Value):laidMetH Tryd.prog Zpz ((World.doorLaid Tryd.prog 19 os).forCall (fun _ _=>0) ⟨#[],args,[]⟩).memory:=
 laidMetH_of_parts3 (fuel:=8) (laidMet_of_run' 8 (by kernel_rfl) (by kernel_rfl)) (by kernel_rfl) (by kernel_rfl)
theorem ZvX {W:World} (h:laidMetH Tryd.prog Zpz W):GOK ZD R0 W:=by
 intro g l hg
 unfold ZD at hg
 split at hg
 ·cases hg
  exact Zo9 (t := 170) (N := 32) (e := 5) (k := .u8) h (by kernel_rfl) (n := "math/bits.deBruijn32tab") (by rw [show DataW.agg (Zmj Zy3) = Rows.laid_math_bits_deBruijn32tab by kernel_rfl]; simp [Zpz]) (by kernel_rfl) (by kernel_rfl) (by kernel_rfl) (by kernel_rfl) (by kernel_rfl) (by kernel_rfl) (by decide)
 ·cases hg
  exact Zo9 (t := 171) (N := 64) (e := 5) (k := .u8) h (by kernel_rfl) (n := "math/bits.deBruijn64tab") (by rw [show DataW.agg (Zmj ZyU) = Rows.laid_math_bits_deBruijn64tab by kernel_rfl]; simp [Zpz]) (by kernel_rfl) (by kernel_rfl) (by kernel_rfl) (by kernel_rfl) (by kernel_rfl) (by kernel_rfl) (by decide)
 ·cases hg
theorem ZzL (os:Os) (started:os.Started) (H:Type) (enc:TypeId×Value→H) :
  ReturnsInHanded {} Tryd.checked os 6 .any (fun w args=>(Rows.lowTouchSpec.pre enc Tryd.prog Tryd.f6 [] false w args∧laidMetH Tryd.prog Zpz w)∧sizedMet enc Tryd.prog Tryd.f6 (OpenSpec.ofChange Rows.lowTouchSpec) false w args) (Rows.lowTouchSpec.post enc Tryd.prog Tryd.f6 false true false false):=by
 refine returnsInHanded_of_change_and (C:=Tryd.checked) (X:=fun w _=>laidMetH Tryd.prog Zpz w) (fun _ _ _ hh h=>h.of_heap hh) own started (by kernel_rfl) Tryd.func6
  (ChangeSpec.witness_shaped (enc:=enc) (C:=Tryd.checked) (os:=os) (X:=fun w _=>laidMetH Tryd.prog Zpz w) false (World.doorLaid Tryd.prog 19 os) #[.agg #[.int .i64 0,.int .i64 0,.slice none 0 0,.slice none 0 0,.slice none 0 0,.slice none 0 0],.int .i64 0] 8 rfl (World.shaped_of_RefB (by kernel_rfl) (by kernel_rfl)) (by kernel_rfl) (by kernel_rfl) (by kernel_rfl) (Zxn os _)) ?_
 intro W base args ds gs before hval0 hW _ _ hL _
 have hval:∀(j:Nat) t v,Tryd.f6.params[j]? = some t→args[j]? = some v→Value.okWide Tryd.prog W .any base t v:=hval0
 have hW':=hW
 obtain⟨p,q,hA0,hV,rfl,hfz,hnd⟩:=hW
 have hA:DataW.TrodAll enc Tryd.prog W 0 (fun _=>true) true Tryd.f6.params.toList args.toList ds p:=hA0
 rw[Tryd.params6] at hA hval
 obtain⟨v0,vs0,d0,ds0,p0,q0,hargs,rfl,rfl,h0,r0⟩:=trodAll_cons hA
 obtain⟨v1,vs1,d1,ds1,p1,q1,rfl,rfl,rfl,h1,r1⟩:=trodAll_cons r0
 obtain⟨rfl,rfl,rfl⟩:=trodAll_nil r1
 obtain rfl:args = #[v0,v1]:=by cases args; simp_all
 obtain⟨rfl,rfl⟩:=trodVars_none hV
 have lt0:∀x∈p0,x.block<W.heap.size:=by obtain⟨m,hm⟩:=h0; exact DataW.trod_lt m _ _ _ hm
 obtain⟨x0,ok0,den0⟩:=ZvS (P:=Tryd.prog) (n:=8) (t:=27) (l:=ZrM.1) (ag:=ZrM.2) (by kernel_rfl) (hval 0 27 v0 rfl rfl) h0
 have lt1:∀x∈p1,x.block<W.heap.size:=by obtain⟨m,hm⟩:=h1; exact DataW.trod_lt m _ _ _ hm
 obtain⟨x1,ok1,den1⟩:=ZvS (P:=Tryd.prog) (n:=8) (t:=3) (l:=ZwA.1) (ag:=ZwA.2) (by kernel_rfl) (hval 1 3 v1 rfl rfl) h1
 obtain⟨H1,ev⟩:=Zr6 x0 ok0 x1 ok1
 have den:ZbJ All All All W [Zr1 ZrM.2 x0,Zr1 ZwA.2 x1] [v0,v1]:=⟨_,_,rfl,den0,⟨_,_,rfl,den1,rfl⟩⟩
 refine(Zu7 ZBi (ZvX hL) den ev).mono fun e W' ⟨he,bel⟩=>?_
 subst he
 exact⟨_,rfl,_,_,_,[],_,[],hW',trodAll_mk1 (shut_bool Tryd.underlying4 _),(trodAll_cons_mk (Below.trod Zt6 (by kernel_rfl) (of_decide_eq_true (by kernel_rfl)) h0 bel lt0) (trodAll_cons_mk (Below.trod Zt6 (by kernel_rfl) (of_decide_eq_true (by kernel_rfl)) h1 bel lt1) trodAll_mk0)),rfl,bel.frame _,fun h=>by cases h⟩
theorem over:Rows.lowTouchRow.holds Tryd.pinned (OpenSpec.ofChange Rows.lowTouchSpec):=
 OpenClaim.holds_of_wide 6 Tryd.f6 rfl rfl rfl rfl rfl rfl rfl ⟨rfl,rfl,rfl,rfl,rfl⟩ rfl rfl rfl rfl rfl (by kernel_rfl) Tryd.func6 (by kernel_rfl)
  (of_decide_eq_true (by kernel_rfl)) (by unfold Func.isWrapper; first | (rw[if_pos (by decide +kernel)]; kernel_rfl) | (rw[if_neg (by decide +kernel)]; exact⟨rfl,rfl⟩))
  (fun os started H enc _=>ZzL os started H enc)
theorem proved:Rows.LowTouchSaid:=over
theorem carded:Rows.LowTouchCardSaid:=
 Claim7.holds_tied_plain_at .later [] [.data, .data] true (true, "d907b5d9381713682315e2e2b6cdc9b83e8277611de7aab9efce85a6aaa9d615") false
  proved (fun _ h=>by cases h) (by kernel_rfl) (fun _ h=>by cases h) lowTouch_row_tie rfl ⟨rfl,rfl⟩ (by kernel_rfl) rfl
  (fun f fn hf hfn=>by
   obtain rfl : f = 6 := Option.some.inj ((show Tryd.prog.funcNamed "trefoil/trefoillaw07.LowTouch" = some 6 by kernel_rfl).symm.trans hf) |>.symm
   obtain rfl:fn=Tryd.f6:=(Option.some.inj (Tryd.func6.symm.trans hfn)).symm
   exact⟨by kernel_rfl,fun j t ht=>by
    rw[Tryd.params6] at ht
    have hm:t∈[27,3]:=by simpa using Array.mem_of_getElem? ht
    have hall:([27,3].all fun u=>!Tryd.prog.wantsStandIn u)=true:=by kernel_rfl
    exact(show Tryd.prog.wantsStandIn t=false by simpa using List.all_eq_true.1 hall t hm)⟩)
  (by kernel_rfl)
end Go.Proofs.YtljgncbdagmeeaaDoor.LawLowTouch
namespace Go.Proofs.YtljgncbdagmeeaaDoor
theorem lowTouch_holds:Rows.LowTouchCardSaid:=LawLowTouch.carded
#print axioms lowTouch_holds
end Go.Proofs.YtljgncbdagmeeaaDoor
