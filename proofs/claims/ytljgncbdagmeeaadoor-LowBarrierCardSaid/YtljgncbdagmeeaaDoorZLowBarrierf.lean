/- LowBarrier: part 6 of 6 of the proof: the row and the card of the law, out of what the evaluator says of it; without conditions. -/
import Derived.Test.YtljgncbdagmeeaaDoorZLowBarriere
import Derived.KernelRfl
import Derived.Test.YtljgncbdagmeeaaDoorRows
import Derived.Test.YtljgncbdagmeeaaDoorCards
import Derived.Test.YtljgncbdagmeeaaDoorTie
import Derived.WalkKit
import Derived.ProofKit
import Derived.OpenShut
import Derived.ShutString
import Derived.ChangeOld
import Derived.Below
import Derived.SizedLaws
import Derived.Handed
import Derived.LaidMore
import Derived.Stop.Joined
import Derived.ChangeShapes
import Derived.Carry
import Derived.SevenTiedAt
set_option maxRecDepth 100000
set_option maxHeartbeats 40000000
namespace Go.Proofs.YtljgncbdagmeeaaDoor
open Go Go.Proofs.YtljgncbdagmeeaaDoorE
set_option linter.unusedVariables false
set_option linter.unusedSimpArgs false
def ZhQ (b:Int) (c:Int) (m1_0:(List Int)) (m2_0:(List Zr)) (m3_0:(List Zi)) (m4_0:(List (Int×Int))) (m5_0:(List (Int×Int))) (m6_0:(List (Zk×Int))):Unit→V×Zn
  | r=>((.d (D.tup [])),[(.cells [(.sl 1 1),(.sl 7 2),(.sl 3 2),(.mp 4),(.mp 5),(.mp 6)]),(.arr 1 (List.map Ze m1_0)),.dead,(.arr 2 (List.map Zbr m3_0)),(.mp (mpD Ze Ze m4_0)),(.mp (mpD Ze Ze m5_0)),(.mp (mpD Zs Ze m6_0)),(.arr 2 (List.map ZF (m2_0++[(Zr.mk b c)])))])
theorem Zbd {b:Int} {c:Int} {m1_0:(List Int)} {m2_0:(List Zr)} {m3_0:(List Zi)} {m4_0:(List (Int×Int))} {m5_0:(List (Int×Int))} {m6_0:(List (Zk×Int))}:∀r,(ZW b c m2_0)=some r→evW ctx 43 [(.ptr 0 0),(.d (Ze b)),(.d (Ze c))] [(.cells [(.sl 1 1),(.sl 2 2),(.sl 3 2),(.mp 4),(.mp 5),(.mp 6)]),(.arr 1 (List.map Ze m1_0)),(.arr 2 (List.map ZF m2_0)),(.arr 2 (List.map Zbr m3_0)),(.mp (mpD Ze Ze m4_0)),(.mp (mpD Ze Ze m5_0)),(.mp (mpD Zs Ze m6_0))]=some ((ZhQ b c m1_0 m2_0 m3_0 m4_0 m5_0 m6_0) r):=by
 show Z5 _ (fun r rhs=>rhs=some ((ZhQ b c m1_0 m2_0 m3_0 m4_0 m5_0 m6_0) r)) _
 unfold ZW
 rw[Zei ctx 43 ZzK _ _ rfl rfl]
 conv=>arg 3; whnf
 refine ZbC rfl ?_
 conv=>arg 3; whnf
 refine Zg (Zju ZF m2_0 1) ?_ ?_
 ·conv=>arg 3; whnf
  refine Zo (Zjq ZF m2_0 [(Zr.mk b c)]) ?_
  conv=>arg 3; whnf
  exact Zh rfl
 ·exact ZbG
def ZhP (t0:Bool) (t1:Bool) (t2:Bool) (t3:Bool) (b:Zu) (c:Int) (m1_0:(List Int)) (m2_0:(List Zr)) (m3_0:(List Zi)) (m4_0:(List (Int×Int))) (m5_0:(List (Int×Int))) (m6_0:(List (Zk×Int))):(((List (Int×Int))×(List (Zk×Int))×(List Int)×(List Zr)×(List Zi))⊕((List Int)⊕Unit))→V×Zn
  | (.inl r)=>((.d (D.tup [])),[(.cells [(.sl 7 1),(.sl 8 2),(.sl 9 2),(.mp 4),(.mp 5),(.mp 6)]),.dead,.dead,.dead,(.mp (mpD Ze Ze (Zx (fun ka kb:Int=>(ka==kb)) m4_0 c (m3_0.length:Int)))),(.mp (mpD Ze Ze r.1)),(.mp (mpD Zs Ze r.2.1)),(.arr 1 (List.map Ze r.2.2.1)),(.arr 2 (List.map ZF r.2.2.2.1)),(.arr 2 (List.map Zbr r.2.2.2.2))])
  | (.inr (.inl r))=>((.d (D.tup [])),[(.cells [(.sl 7 1),(.sl 2 2),(.sl 8 2),(.mp 4),(.mp 5),(.mp 6)]),.dead,(.arr 2 (List.map ZF m2_0)),.dead,(.mp (mpD Ze Ze (Zx (fun ka kb:Int=>(ka==kb)) m4_0 c (m3_0.length:Int)))),(.mp (mpD Ze Ze (Zx (fun ka kb:Int=>(ka==kb)) m5_0 c (w64 ((List.length (m3_0++[(Zi.mk c 0)]):Int)-1))))),(.mp (mpD Zs Ze m6_0)),(.arr 1 (List.map Ze r)),(.arr 2 (List.map Zbr (m3_0++[(Zi.mk c 0)])))])
  | (.inr (.inr r))=>((.d (D.tup [])),[(.cells [(.sl 1 1),(.sl 2 2),(.sl 3 2),(.mp 4),(.mp 5),(.mp 6)]),(.arr 1 (List.map Ze m1_0)),(.arr 2 (List.map ZF m2_0)),(.arr 2 (List.map Zbr m3_0)),(.mp (mpD Ze Ze (Zx (fun ka kb:Int=>(ka==kb)) m4_0 c (m3_0.length:Int)))),(.mp (mpD Ze Ze m5_0)),(.mp (mpD Zs Ze m6_0))])
def Zhc (t0:Bool) (t1:Bool) (t2:Bool) (t3:Bool) (b:Zu) (c:Int) (m3_0:(List Zi)) (m4_0:(List (Int×Int))) (x0:(List Int)):((List (Int×Int))×(List (Zk×Int))×(List Int)×(List Zr)×(List Zi))→Ex×List V×Zn
  | r=>(.exit 0,[],[(.cells [(.sl 7 1),(.sl 8 2),(.sl 9 2),(.mp 4),(.mp 5),(.mp 6)]),.dead,.dead,.dead,(.mp (mpD Ze Ze (Zx (fun ka kb:Int=>(ka==kb)) m4_0 c (m3_0.length:Int)))),(.mp (mpD Ze Ze r.1)),(.mp (mpD Zs Ze r.2.1)),(.arr 1 (List.map Ze r.2.2.1)),(.arr 2 (List.map ZF r.2.2.2.1)),(.arr 2 (List.map Zbr r.2.2.2.2))])
theorem ZdI {t0:Bool} {t1:Bool} {t2:Bool} {t3:Bool} {b:Zu} {c:Int} {m3_0:(List Zi)} {m4_0:(List (Int×Int))} {x0:(List Int)}:∀(s14:Int×Int×(List (Int×Int))×(List (Zk×Int))×(List Int)×(List Zr)×(List Zi)) (r:((List (Int×Int))×(List (Zk×Int))×(List Int)×(List Zr)×(List Zi))),lp (ZG b c x0) s14=some r→lpW ctx 7 [0,2,4,6,7,26,27] [] Zpo [(.ptr 0 0),(.d (Ze c)),(.ptr 7 0),(.d (Ze s14.1)),(.d (D.list true (List.map Ze x0))),(.d (Ze (w64 ((x0.length:Int)+1)))),(.d (Ze s14.2.1))] [(.cells [(.sl 8 1),(.sl 9 2),(.sl 10 2),(.mp 4),(.mp 5),(.mp 6)]),.dead,.dead,.dead,(.mp (mpD Ze Ze (Zx (fun ka kb:Int=>(ka==kb)) m4_0 c (m3_0.length:Int)))),(.mp (mpD Ze Ze s14.2.2.1)),(.mp (mpD Zs Ze s14.2.2.2.1)),(.cells (dV t0 t1 t2 t3 b)),(.arr 1 (List.map Ze s14.2.2.2.2.1)),(.arr 2 (List.map ZF s14.2.2.2.2.2.1)),(.arr 2 (List.map Zbr s14.2.2.2.2.2.2))]=some ((Zhc t0 t1 t2 t3 b c m3_0 m4_0 x0) r):=by
 refine Za6 (Zhc t0 t1 t2 t3 b c m3_0 m4_0 x0) ?_
 intro s14 rcl ih
 show Z5 _ _ (lpW _ _ _ _ _ _ _)
 unfold ZG
 rw[Za7]
 conv=>arg 3; whnf
 refine Zg rfl ?_ ?_
 ·conv=>arg 3; whnf
  refine Zj rfl rfl fun x15 hx15=>?_
  conv=>arg 3; whnf
  refine Zo (Zak _ _) ?_
  conv=>arg 3; whnf
  refine Zg rfl ?_ ?_
  ·conv=>arg 3; whnf
   refine Zj rfl rfl fun x16 hx16=>?_
   conv=>arg 3; whnf
   refine Zj rfl rfl fun x17 hx17=>?_
   conv=>arg 3; whnf
   refine Zc _ Zbs fun x18 hx18=>?_
   conv=>arg 3; whnf
   refine Zf (ZeZ (f:=Ze) (g:=Ze) (fun ka kb:Int=>(ka==kb)) (fun _ _=>rfl) s14.2.2.1 c (w64 ((List.length (s14.2.2.2.2.2.2++[(Zi.mk c s14.2.1)]):Int)-1))) ?_
   conv=>arg 3; whnf
   refine Zg rfl ?_ ?_
   ·conv=>arg 3; whnf
    refine Zf (Zcu (f:=Ze) (g:=Ze) (fun ka kb:Int=>(ka==kb)) (fun _ _=>rfl) (Zx (fun ka kb:Int=>(ka==kb)) s14.2.2.1 c (w64 ((List.length (s14.2.2.2.2.2.2++[(Zi.mk c s14.2.1)]):Int)-1))) c 0) ?_
    conv=>arg 3; whnf
    refine Zf (Zcu (f:=Ze) (g:=Ze) (fun ka kb:Int=>(ka==kb)) (fun _ _=>rfl) (Zx (fun ka kb:Int=>(ka==kb)) s14.2.2.1 c (w64 ((List.length (s14.2.2.2.2.2.2++[(Zi.mk c s14.2.1)]):Int)-1))) c 0) ?_
    conv=>arg 3; whnf
    refine Zc _ Zbd fun x19 hx19=>?_
    conv=>arg 3; whnf
    refine Zj rfl rfl fun x20 hx20=>?_
    conv=>arg 3; whnf
    refine Zj rfl rfl fun x21 hx21=>?_
    conv=>arg 3; whnf
    refine Zf (Zcu (f:=Ze) (g:=Ze) (fun ka kb:Int=>(ka==kb)) (fun _ _=>rfl) (Zx (fun ka kb:Int=>(ka==kb)) s14.2.2.1 c (w64 ((List.length (s14.2.2.2.2.2.2++[(Zi.mk c s14.2.1)]):Int)-1))) c 0) ?_
    conv=>arg 3; whnf
    refine Zf (ZeZ (f:=Zs) (g:=Ze) (fun ka kb:Zk=>((ka.maker==kb.maker)&&((ka.user==kb.user)&&((ka.pos==kb.pos)&&true)))) (fun _ _=>rfl) s14.2.2.2.1 x21 (ZaL (fun ka kb:Int=>(ka==kb)) (Zx (fun ka kb:Int=>(ka==kb)) s14.2.2.1 c (w64 ((List.length (s14.2.2.2.2.2.2++[(Zi.mk c s14.2.1)]):Int)-1))) c 0)) ?_
    conv=>arg 3; whnf
    exact Zd (ih _)
   ·conv=>arg 3; whnf
    exact Zd (ih _)
  ·conv=>arg 3; whnf
   refine Zc _ Zbs fun x22 hx22=>?_
   conv=>arg 3; whnf
   refine Zf (ZeZ (f:=Ze) (g:=Ze) (fun ka kb:Int=>(ka==kb)) (fun _ _=>rfl) s14.2.2.1 c (w64 ((List.length (s14.2.2.2.2.2.2++[(Zi.mk c s14.2.1)]):Int)-1))) ?_
   conv=>arg 3; whnf
   refine Zg rfl ?_ ?_
   ·conv=>arg 3; whnf
    refine Zf (Zcu (f:=Ze) (g:=Ze) (fun ka kb:Int=>(ka==kb)) (fun _ _=>rfl) (Zx (fun ka kb:Int=>(ka==kb)) s14.2.2.1 c (w64 ((List.length (s14.2.2.2.2.2.2++[(Zi.mk c s14.2.1)]):Int)-1))) c 0) ?_
    conv=>arg 3; whnf
    refine Zf (Zcu (f:=Ze) (g:=Ze) (fun ka kb:Int=>(ka==kb)) (fun _ _=>rfl) (Zx (fun ka kb:Int=>(ka==kb)) s14.2.2.1 c (w64 ((List.length (s14.2.2.2.2.2.2++[(Zi.mk c s14.2.1)]):Int)-1))) c 0) ?_
    conv=>arg 3; whnf
    refine Zc _ Zbd fun x23 hx23=>?_
    conv=>arg 3; whnf
    refine Zj rfl rfl fun x24 hx24=>?_
    conv=>arg 3; whnf
    refine Zj rfl rfl fun x25 hx25=>?_
    conv=>arg 3; whnf
    refine Zf (Zcu (f:=Ze) (g:=Ze) (fun ka kb:Int=>(ka==kb)) (fun _ _=>rfl) (Zx (fun ka kb:Int=>(ka==kb)) s14.2.2.1 c (w64 ((List.length (s14.2.2.2.2.2.2++[(Zi.mk c s14.2.1)]):Int)-1))) c 0) ?_
    conv=>arg 3; whnf
    refine Zf (ZeZ (f:=Zs) (g:=Ze) (fun ka kb:Zk=>((ka.maker==kb.maker)&&((ka.user==kb.user)&&((ka.pos==kb.pos)&&true)))) (fun _ _=>rfl) s14.2.2.2.1 x25 (ZaL (fun ka kb:Int=>(ka==kb)) (Zx (fun ka kb:Int=>(ka==kb)) s14.2.2.1 c (w64 ((List.length (s14.2.2.2.2.2.2++[(Zi.mk c s14.2.1)]):Int)-1))) c 0)) ?_
    conv=>arg 3; whnf
    exact Zd (ih _)
   ·conv=>arg 3; whnf
    exact Zd (ih _)
 ·conv=>arg 3; whnf
  exact Zh rfl
def ZgF (t0:Bool) (t1:Bool) (t2:Bool) (t3:Bool) (b:Zu) (c:Int) (m1_0:(List Int)) (m2_0:(List Zr)) (m3_0:(List Zi)) (m4_0:(List (Int×Int))) (m5_0:(List (Int×Int))) (m6_0:(List (Zk×Int))) (x0:(List Int)) (x4:Zk):(((List (Int×Int))×(List (Zk×Int))×(List Int)×(List Zr)×(List Zi))⊕Unit)→Ex×List V×Zn
  | (.inl r)=>(.exit 0,[],[(.cells [(.sl 7 1),(.sl 8 2),(.sl 9 2),(.mp 4),(.mp 5),(.mp 6)]),.dead,.dead,.dead,(.mp (mpD Ze Ze (Zx (fun ka kb:Int=>(ka==kb)) m4_0 c (m3_0.length:Int)))),(.mp (mpD Ze Ze r.1)),(.mp (mpD Zs Ze r.2.1)),(.arr 1 (List.map Ze r.2.2.1)),(.arr 2 (List.map ZF r.2.2.2.1)),(.arr 2 (List.map Zbr r.2.2.2.2))])
  | (.inr r)=>(.exit 0,[],[(.cells [(.sl 7 1),(.sl 2 2),(.sl 8 2),(.mp 4),(.mp 5),(.mp 6)]),.dead,(.arr 2 (List.map ZF m2_0)),.dead,(.mp (mpD Ze Ze (Zx (fun ka kb:Int=>(ka==kb)) m4_0 c (m3_0.length:Int)))),(.mp (mpD Ze Ze (Zx (fun ka kb:Int=>(ka==kb)) m5_0 c (w64 ((List.length (m3_0++[(Zi.mk c 0)]):Int)-1))))),(.mp (mpD Zs Ze m6_0)),(.arr 1 (List.map Ze (m1_0++[(w64 (x4.pos-0))]))),(.arr 2 (List.map Zbr (m3_0++[(Zi.mk c 0)])))])
theorem ZiF {t0:Bool} {t1:Bool} {t2:Bool} {t3:Bool} {b:Zu} {c:Int} {m1_0:(List Int)} {m2_0:(List Zr)} {m3_0:(List Zi)} {m4_0:(List (Int×Int))} {m5_0:(List (Int×Int))} {m6_0:(List (Zk×Int))} {x0:(List Int)} {x4:Zk}:∀(s6:Unit) (r:(((List (Int×Int))×(List (Zk×Int))×(List Int)×(List Zr)×(List Zi))⊕Unit)),lp (Zck b c m1_0 m2_0 m3_0 m5_0 m6_0 x0 x4) s6=some r→lpW ctx 7 [0,2,4,6,7,26,27] [] Zpo [(.ptr 0 0),(.d (Ze c)),(.ptr 7 0),(.d (Ze x4.pos)),(.d (D.list true (List.map Ze x0))),(.d (Ze (w64 ((x0.length:Int)+1)))),(.d (Ze 1))] [(.cells [(.sl 8 1),(.sl 2 2),(.sl 9 2),(.mp 4),(.mp 5),(.mp 6)]),.dead,(.arr 2 (List.map ZF m2_0)),.dead,(.mp (mpD Ze Ze (Zx (fun ka kb:Int=>(ka==kb)) m4_0 c (m3_0.length:Int)))),(.mp (mpD Ze Ze (Zx (fun ka kb:Int=>(ka==kb)) m5_0 c (w64 ((List.length (m3_0++[(Zi.mk c 0)]):Int)-1))))),(.mp (mpD Zs Ze m6_0)),(.cells (dV t0 t1 t2 t3 b)),(.arr 1 (List.map Ze (m1_0++[(w64 (x4.pos-0))]))),(.arr 2 (List.map Zbr (m3_0++[(Zi.mk c 0)])))]=some ((ZgF t0 t1 t2 t3 b c m1_0 m2_0 m3_0 m4_0 m5_0 m6_0 x0 x4) r):=by
 refine Za6 (ZgF t0 t1 t2 t3 b c m1_0 m2_0 m3_0 m4_0 m5_0 m6_0 x0 x4) ?_
 intro s6 rcl ih
 show Z5 _ _ (lpW _ _ _ _ _ _ _)
 unfold Zck
 rw[Za7]
 conv=>arg 3; whnf
 refine Zg rfl ?_ ?_
 ·conv=>arg 3; whnf
  refine Zj rfl rfl fun x7 hx7=>?_
  conv=>arg 3; whnf
  refine Zo (Zak _ _) ?_
  conv=>arg 3; whnf
  refine Zg rfl ?_ ?_
  ·conv=>arg 3; whnf
   refine Zj rfl rfl fun x8 hx8=>?_
   conv=>arg 3; whnf
   refine Zj rfl rfl fun x9 hx9=>?_
   conv=>arg 3; whnf
   refine Zc _ Zbs fun x10 hx10=>?_
   conv=>arg 3; whnf
   refine Zf (ZeZ (f:=Ze) (g:=Ze) (fun ka kb:Int=>(ka==kb)) (fun _ _=>rfl) (Zx (fun ka kb:Int=>(ka==kb)) m5_0 c (w64 ((List.length (m3_0++[(Zi.mk c 0)]):Int)-1))) c (w64 ((List.length ((m3_0++[(Zi.mk c 0)])++[(Zi.mk c 1)]):Int)-1))) ?_
   conv=>arg 3; whnf
   refine ZbC rfl ?_
   conv=>arg 3; whnf
   refine Zf (Zcu (f:=Ze) (g:=Ze) (fun ka kb:Int=>(ka==kb)) (fun _ _=>rfl) (Zx (fun ka kb:Int=>(ka==kb)) (Zx (fun ka kb:Int=>(ka==kb)) m5_0 c (w64 ((List.length (m3_0++[(Zi.mk c 0)]):Int)-1))) c (w64 ((List.length ((m3_0++[(Zi.mk c 0)])++[(Zi.mk c 1)]):Int)-1))) c 0) ?_
   conv=>arg 3; whnf
   refine Zf (Zcu (f:=Ze) (g:=Ze) (fun ka kb:Int=>(ka==kb)) (fun _ _=>rfl) (Zx (fun ka kb:Int=>(ka==kb)) (Zx (fun ka kb:Int=>(ka==kb)) m5_0 c (w64 ((List.length (m3_0++[(Zi.mk c 0)]):Int)-1))) c (w64 ((List.length ((m3_0++[(Zi.mk c 0)])++[(Zi.mk c 1)]):Int)-1))) c 0) ?_
   conv=>arg 3; whnf
   refine Zc _ Zbd fun x11 hx11=>?_
   conv=>arg 3; whnf
   refine Zj rfl rfl fun x12 hx12=>?_
   conv=>arg 3; whnf
   refine Zj rfl rfl fun x13 hx13=>?_
   conv=>arg 3; whnf
   refine Zf (Zcu (f:=Ze) (g:=Ze) (fun ka kb:Int=>(ka==kb)) (fun _ _=>rfl) (Zx (fun ka kb:Int=>(ka==kb)) (Zx (fun ka kb:Int=>(ka==kb)) m5_0 c (w64 ((List.length (m3_0++[(Zi.mk c 0)]):Int)-1))) c (w64 ((List.length ((m3_0++[(Zi.mk c 0)])++[(Zi.mk c 1)]):Int)-1))) c 0) ?_
   conv=>arg 3; whnf
   refine Zf (ZeZ (f:=Zs) (g:=Ze) (fun ka kb:Zk=>((ka.maker==kb.maker)&&((ka.user==kb.user)&&((ka.pos==kb.pos)&&true)))) (fun _ _=>rfl) m6_0 x13 (ZaL (fun ka kb:Int=>(ka==kb)) (Zx (fun ka kb:Int=>(ka==kb)) (Zx (fun ka kb:Int=>(ka==kb)) m5_0 c (w64 ((List.length (m3_0++[(Zi.mk c 0)]):Int)-1))) c (w64 ((List.length ((m3_0++[(Zi.mk c 0)])++[(Zi.mk c 1)]):Int)-1))) c 0)) ?_
   conv=>arg 3; whnf
   refine Zc _ (ZdI _) fun r26 hr26=>?_
   conv=>arg 3; whnf
   exact Zh rfl
  ·conv=>arg 3; whnf
   refine Zc _ Zbs fun x27 hx27=>?_
   conv=>arg 3; whnf
   refine Zf (ZeZ (f:=Ze) (g:=Ze) (fun ka kb:Int=>(ka==kb)) (fun _ _=>rfl) (Zx (fun ka kb:Int=>(ka==kb)) m5_0 c (w64 ((List.length (m3_0++[(Zi.mk c 0)]):Int)-1))) c (w64 ((List.length ((m3_0++[(Zi.mk c 0)])++[(Zi.mk c 1)]):Int)-1))) ?_
   conv=>arg 3; whnf
   refine ZbC rfl ?_
   conv=>arg 3; whnf
   refine Zf (Zcu (f:=Ze) (g:=Ze) (fun ka kb:Int=>(ka==kb)) (fun _ _=>rfl) (Zx (fun ka kb:Int=>(ka==kb)) (Zx (fun ka kb:Int=>(ka==kb)) m5_0 c (w64 ((List.length (m3_0++[(Zi.mk c 0)]):Int)-1))) c (w64 ((List.length ((m3_0++[(Zi.mk c 0)])++[(Zi.mk c 1)]):Int)-1))) c 0) ?_
   conv=>arg 3; whnf
   refine Zf (Zcu (f:=Ze) (g:=Ze) (fun ka kb:Int=>(ka==kb)) (fun _ _=>rfl) (Zx (fun ka kb:Int=>(ka==kb)) (Zx (fun ka kb:Int=>(ka==kb)) m5_0 c (w64 ((List.length (m3_0++[(Zi.mk c 0)]):Int)-1))) c (w64 ((List.length ((m3_0++[(Zi.mk c 0)])++[(Zi.mk c 1)]):Int)-1))) c 0) ?_
   conv=>arg 3; whnf
   refine Zc _ Zbd fun x28 hx28=>?_
   conv=>arg 3; whnf
   refine Zj rfl rfl fun x29 hx29=>?_
   conv=>arg 3; whnf
   refine Zj rfl rfl fun x30 hx30=>?_
   conv=>arg 3; whnf
   refine Zf (Zcu (f:=Ze) (g:=Ze) (fun ka kb:Int=>(ka==kb)) (fun _ _=>rfl) (Zx (fun ka kb:Int=>(ka==kb)) (Zx (fun ka kb:Int=>(ka==kb)) m5_0 c (w64 ((List.length (m3_0++[(Zi.mk c 0)]):Int)-1))) c (w64 ((List.length ((m3_0++[(Zi.mk c 0)])++[(Zi.mk c 1)]):Int)-1))) c 0) ?_
   conv=>arg 3; whnf
   refine Zf (ZeZ (f:=Zs) (g:=Ze) (fun ka kb:Zk=>((ka.maker==kb.maker)&&((ka.user==kb.user)&&((ka.pos==kb.pos)&&true)))) (fun _ _=>rfl) m6_0 x30 (ZaL (fun ka kb:Int=>(ka==kb)) (Zx (fun ka kb:Int=>(ka==kb)) (Zx (fun ka kb:Int=>(ka==kb)) m5_0 c (w64 ((List.length (m3_0++[(Zi.mk c 0)]):Int)-1))) c (w64 ((List.length ((m3_0++[(Zi.mk c 0)])++[(Zi.mk c 1)]):Int)-1))) c 0)) ?_
   conv=>arg 3; whnf
   refine Zc _ (ZdI _) fun r43 hr43=>?_
   conv=>arg 3; whnf
   exact Zh rfl
 ·conv=>arg 3; whnf
  exact Zh rfl
def ZgJ (t0:Bool) (t1:Bool) (t2:Bool) (t3:Bool) (b:Zu) (c:Int) (m1_0:(List Int)) (m2_0:(List Zr)) (m3_0:(List Zi)) (m4_0:(List (Int×Int))) (m5_0:(List (Int×Int))) (m6_0:(List (Zk×Int))) (x0:(List Int)) (x2:Zal):(((List (Int×Int))×(List (Zk×Int))×(List Int)×(List Zr)×(List Zi))⊕Unit)→Ex×List V×Zn
  | (.inl r)=>(.exit 0,[],[(.cells [(.sl 7 1),(.sl 8 2),(.sl 9 2),(.mp 4),(.mp 5),(.mp 6)]),.dead,.dead,.dead,(.mp (mpD Ze Ze (Zx (fun ka kb:Int=>(ka==kb)) m4_0 c (m3_0.length:Int)))),(.mp (mpD Ze Ze r.1)),(.mp (mpD Zs Ze r.2.1)),(.arr 1 (List.map Ze r.2.2.1)),(.arr 2 (List.map ZF r.2.2.2.1)),(.arr 2 (List.map Zbr r.2.2.2.2))])
  | (.inr r)=>(.exit 0,[],[(.cells [(.sl 7 1),(.sl 2 2),(.sl 8 2),(.mp 4),(.mp 5),(.mp 6)]),.dead,(.arr 2 (List.map ZF m2_0)),.dead,(.mp (mpD Ze Ze (Zx (fun ka kb:Int=>(ka==kb)) m4_0 c (m3_0.length:Int)))),(.mp (mpD Ze Ze (Zx (fun ka kb:Int=>(ka==kb)) m5_0 c (w64 ((List.length (m3_0++[(Zi.mk c 0)]):Int)-1))))),(.mp (mpD Zs Ze m6_0)),(.arr 1 (List.map Ze (m1_0++[(w64 (x2.work-0))]))),(.arr 2 (List.map Zbr (m3_0++[(Zi.mk c 0)])))])
theorem ZiM {t0:Bool} {t1:Bool} {t2:Bool} {t3:Bool} {b:Zu} {c:Int} {m1_0:(List Int)} {m2_0:(List Zr)} {m3_0:(List Zi)} {m4_0:(List (Int×Int))} {m5_0:(List (Int×Int))} {m6_0:(List (Zk×Int))} {x0:(List Int)} {x2:Zal}:∀(s46:Unit) (r:(((List (Int×Int))×(List (Zk×Int))×(List Int)×(List Zr)×(List Zi))⊕Unit)),lp (Zdd b c m1_0 m2_0 m3_0 m5_0 m6_0 x0 x2) s46=some r→lpW ctx 7 [0,2,4,6,7,26,27] [] Zpo [(.ptr 0 0),(.d (Ze c)),(.ptr 7 0),(.d (Ze x2.work)),(.d (D.list true (List.map Ze x0))),(.d (Ze (w64 ((x0.length:Int)+1)))),(.d (Ze 1))] [(.cells [(.sl 8 1),(.sl 2 2),(.sl 9 2),(.mp 4),(.mp 5),(.mp 6)]),.dead,(.arr 2 (List.map ZF m2_0)),.dead,(.mp (mpD Ze Ze (Zx (fun ka kb:Int=>(ka==kb)) m4_0 c (m3_0.length:Int)))),(.mp (mpD Ze Ze (Zx (fun ka kb:Int=>(ka==kb)) m5_0 c (w64 ((List.length (m3_0++[(Zi.mk c 0)]):Int)-1))))),(.mp (mpD Zs Ze m6_0)),(.cells (dV t0 t1 t2 t3 b)),(.arr 1 (List.map Ze (m1_0++[(w64 (x2.work-0))]))),(.arr 2 (List.map Zbr (m3_0++[(Zi.mk c 0)])))]=some ((ZgJ t0 t1 t2 t3 b c m1_0 m2_0 m3_0 m4_0 m5_0 m6_0 x0 x2) r):=by
 refine Za6 (ZgJ t0 t1 t2 t3 b c m1_0 m2_0 m3_0 m4_0 m5_0 m6_0 x0 x2) ?_
 intro s46 rcl ih
 show Z5 _ _ (lpW _ _ _ _ _ _ _)
 unfold Zdd
 rw[Za7]
 conv=>arg 3; whnf
 refine Zg rfl ?_ ?_
 ·conv=>arg 3; whnf
  refine Zj rfl rfl fun x47 hx47=>?_
  conv=>arg 3; whnf
  refine Zo (Zak _ _) ?_
  conv=>arg 3; whnf
  refine Zg rfl ?_ ?_
  ·conv=>arg 3; whnf
   refine Zj rfl rfl fun x48 hx48=>?_
   conv=>arg 3; whnf
   refine Zj rfl rfl fun x49 hx49=>?_
   conv=>arg 3; whnf
   refine Zc _ Zbs fun x50 hx50=>?_
   conv=>arg 3; whnf
   refine Zf (ZeZ (f:=Ze) (g:=Ze) (fun ka kb:Int=>(ka==kb)) (fun _ _=>rfl) (Zx (fun ka kb:Int=>(ka==kb)) m5_0 c (w64 ((List.length (m3_0++[(Zi.mk c 0)]):Int)-1))) c (w64 ((List.length ((m3_0++[(Zi.mk c 0)])++[(Zi.mk c 1)]):Int)-1))) ?_
   conv=>arg 3; whnf
   refine ZbC rfl ?_
   conv=>arg 3; whnf
   refine Zf (Zcu (f:=Ze) (g:=Ze) (fun ka kb:Int=>(ka==kb)) (fun _ _=>rfl) (Zx (fun ka kb:Int=>(ka==kb)) (Zx (fun ka kb:Int=>(ka==kb)) m5_0 c (w64 ((List.length (m3_0++[(Zi.mk c 0)]):Int)-1))) c (w64 ((List.length ((m3_0++[(Zi.mk c 0)])++[(Zi.mk c 1)]):Int)-1))) c 0) ?_
   conv=>arg 3; whnf
   refine Zf (Zcu (f:=Ze) (g:=Ze) (fun ka kb:Int=>(ka==kb)) (fun _ _=>rfl) (Zx (fun ka kb:Int=>(ka==kb)) (Zx (fun ka kb:Int=>(ka==kb)) m5_0 c (w64 ((List.length (m3_0++[(Zi.mk c 0)]):Int)-1))) c (w64 ((List.length ((m3_0++[(Zi.mk c 0)])++[(Zi.mk c 1)]):Int)-1))) c 0) ?_
   conv=>arg 3; whnf
   refine Zc _ Zbd fun x51 hx51=>?_
   conv=>arg 3; whnf
   refine Zj rfl rfl fun x52 hx52=>?_
   conv=>arg 3; whnf
   refine Zj rfl rfl fun x53 hx53=>?_
   conv=>arg 3; whnf
   refine Zf (Zcu (f:=Ze) (g:=Ze) (fun ka kb:Int=>(ka==kb)) (fun _ _=>rfl) (Zx (fun ka kb:Int=>(ka==kb)) (Zx (fun ka kb:Int=>(ka==kb)) m5_0 c (w64 ((List.length (m3_0++[(Zi.mk c 0)]):Int)-1))) c (w64 ((List.length ((m3_0++[(Zi.mk c 0)])++[(Zi.mk c 1)]):Int)-1))) c 0) ?_
   conv=>arg 3; whnf
   refine Zf (ZeZ (f:=Zs) (g:=Ze) (fun ka kb:Zk=>((ka.maker==kb.maker)&&((ka.user==kb.user)&&((ka.pos==kb.pos)&&true)))) (fun _ _=>rfl) m6_0 x53 (ZaL (fun ka kb:Int=>(ka==kb)) (Zx (fun ka kb:Int=>(ka==kb)) (Zx (fun ka kb:Int=>(ka==kb)) m5_0 c (w64 ((List.length (m3_0++[(Zi.mk c 0)]):Int)-1))) c (w64 ((List.length ((m3_0++[(Zi.mk c 0)])++[(Zi.mk c 1)]):Int)-1))) c 0)) ?_
   conv=>arg 3; whnf
   refine Zc _ (ZdI _) fun r66 hr66=>?_
   conv=>arg 3; whnf
   exact Zh rfl
  ·conv=>arg 3; whnf
   refine Zc _ Zbs fun x67 hx67=>?_
   conv=>arg 3; whnf
   refine Zf (ZeZ (f:=Ze) (g:=Ze) (fun ka kb:Int=>(ka==kb)) (fun _ _=>rfl) (Zx (fun ka kb:Int=>(ka==kb)) m5_0 c (w64 ((List.length (m3_0++[(Zi.mk c 0)]):Int)-1))) c (w64 ((List.length ((m3_0++[(Zi.mk c 0)])++[(Zi.mk c 1)]):Int)-1))) ?_
   conv=>arg 3; whnf
   refine ZbC rfl ?_
   conv=>arg 3; whnf
   refine Zf (Zcu (f:=Ze) (g:=Ze) (fun ka kb:Int=>(ka==kb)) (fun _ _=>rfl) (Zx (fun ka kb:Int=>(ka==kb)) (Zx (fun ka kb:Int=>(ka==kb)) m5_0 c (w64 ((List.length (m3_0++[(Zi.mk c 0)]):Int)-1))) c (w64 ((List.length ((m3_0++[(Zi.mk c 0)])++[(Zi.mk c 1)]):Int)-1))) c 0) ?_
   conv=>arg 3; whnf
   refine Zf (Zcu (f:=Ze) (g:=Ze) (fun ka kb:Int=>(ka==kb)) (fun _ _=>rfl) (Zx (fun ka kb:Int=>(ka==kb)) (Zx (fun ka kb:Int=>(ka==kb)) m5_0 c (w64 ((List.length (m3_0++[(Zi.mk c 0)]):Int)-1))) c (w64 ((List.length ((m3_0++[(Zi.mk c 0)])++[(Zi.mk c 1)]):Int)-1))) c 0) ?_
   conv=>arg 3; whnf
   refine Zc _ Zbd fun x68 hx68=>?_
   conv=>arg 3; whnf
   refine Zj rfl rfl fun x69 hx69=>?_
   conv=>arg 3; whnf
   refine Zj rfl rfl fun x70 hx70=>?_
   conv=>arg 3; whnf
   refine Zf (Zcu (f:=Ze) (g:=Ze) (fun ka kb:Int=>(ka==kb)) (fun _ _=>rfl) (Zx (fun ka kb:Int=>(ka==kb)) (Zx (fun ka kb:Int=>(ka==kb)) m5_0 c (w64 ((List.length (m3_0++[(Zi.mk c 0)]):Int)-1))) c (w64 ((List.length ((m3_0++[(Zi.mk c 0)])++[(Zi.mk c 1)]):Int)-1))) c 0) ?_
   conv=>arg 3; whnf
   refine Zf (ZeZ (f:=Zs) (g:=Ze) (fun ka kb:Zk=>((ka.maker==kb.maker)&&((ka.user==kb.user)&&((ka.pos==kb.pos)&&true)))) (fun _ _=>rfl) m6_0 x70 (ZaL (fun ka kb:Int=>(ka==kb)) (Zx (fun ka kb:Int=>(ka==kb)) (Zx (fun ka kb:Int=>(ka==kb)) m5_0 c (w64 ((List.length (m3_0++[(Zi.mk c 0)]):Int)-1))) c (w64 ((List.length ((m3_0++[(Zi.mk c 0)])++[(Zi.mk c 1)]):Int)-1))) c 0)) ?_
   conv=>arg 3; whnf
   refine Zc _ (ZdI _) fun r83 hr83=>?_
   conv=>arg 3; whnf
   exact Zh rfl
 ·conv=>arg 3; whnf
  exact Zh rfl
def Zgz (t0:Bool) (t1:Bool) (t2:Bool) (t3:Bool) (b:Zu) (c:Int) (m1_0:(List Int)) (m2_0:(List Zr)) (m3_0:(List Zi)) (m4_0:(List (Int×Int))) (m5_0:(List (Int×Int))) (m6_0:(List (Zk×Int))) (x0:(List Int)):(((List (Int×Int))×(List (Zk×Int))×(List Int)×(List Zr)×(List Zi))⊕((List Int)⊕Unit))→Ex×List V×Zn
  | (.inl r)=>(.exit 0,[],[(.cells [(.sl 7 1),(.sl 8 2),(.sl 9 2),(.mp 4),(.mp 5),(.mp 6)]),.dead,.dead,.dead,(.mp (mpD Ze Ze (Zx (fun ka kb:Int=>(ka==kb)) m4_0 c (m3_0.length:Int)))),(.mp (mpD Ze Ze r.1)),(.mp (mpD Zs Ze r.2.1)),(.arr 1 (List.map Ze r.2.2.1)),(.arr 2 (List.map ZF r.2.2.2.1)),(.arr 2 (List.map Zbr r.2.2.2.2))])
  | (.inr (.inl r))=>(.exit 0,[],[(.cells [(.sl 7 1),(.sl 2 2),(.sl 8 2),(.mp 4),(.mp 5),(.mp 6)]),.dead,(.arr 2 (List.map ZF m2_0)),.dead,(.mp (mpD Ze Ze (Zx (fun ka kb:Int=>(ka==kb)) m4_0 c (m3_0.length:Int)))),(.mp (mpD Ze Ze (Zx (fun ka kb:Int=>(ka==kb)) m5_0 c (w64 ((List.length (m3_0++[(Zi.mk c 0)]):Int)-1))))),(.mp (mpD Zs Ze m6_0)),(.arr 1 (List.map Ze r)),(.arr 2 (List.map Zbr (m3_0++[(Zi.mk c 0)])))])
  | (.inr (.inr r))=>(.exit 0,[],[(.cells [(.sl 1 1),(.sl 2 2),(.sl 3 2),(.mp 4),(.mp 5),(.mp 6)]),(.arr 1 (List.map Ze m1_0)),(.arr 2 (List.map ZF m2_0)),(.arr 2 (List.map Zbr m3_0)),(.mp (mpD Ze Ze (Zx (fun ka kb:Int=>(ka==kb)) m4_0 c (m3_0.length:Int)))),(.mp (mpD Ze Ze m5_0)),(.mp (mpD Zs Ze m6_0))])
theorem ZiN {t0:Bool} {t1:Bool} {t2:Bool} {t3:Bool} {b:Zu} {c:Int} {m1_0:(List Int)} {m2_0:(List Zr)} {m3_0:(List Zi)} {m4_0:(List (Int×Int))} {m5_0:(List (Int×Int))} {m6_0:(List (Zk×Int))} {x0:(List Int)}:∀(s1:Unit) (r:(((List (Int×Int))×(List (Zk×Int))×(List Int)×(List Zr)×(List Zi))⊕((List Int)⊕Unit))),lp (Zcl b c m1_0 m2_0 m3_0 m5_0 m6_0 x0) s1=some r→lpW ctx 7 [0,2,4,6,7,26,27] [] Zpo [(.ptr 0 0),(.d (Ze c)),(.ptr 7 0),(.d (Ze 0)),(.d (D.list true (List.map Ze x0))),(.d (Ze (w64 ((x0.length:Int)+1)))),(.d (Ze 0))] [(.cells [(.sl 1 1),(.sl 2 2),(.sl 3 2),(.mp 4),(.mp 5),(.mp 6)]),(.arr 1 (List.map Ze m1_0)),(.arr 2 (List.map ZF m2_0)),(.arr 2 (List.map Zbr m3_0)),(.mp (mpD Ze Ze (Zx (fun ka kb:Int=>(ka==kb)) m4_0 c (m3_0.length:Int)))),(.mp (mpD Ze Ze m5_0)),(.mp (mpD Zs Ze m6_0)),(.cells (dV t0 t1 t2 t3 b))]=some ((Zgz t0 t1 t2 t3 b c m1_0 m2_0 m3_0 m4_0 m5_0 m6_0 x0) r):=by
 refine Za6 (Zgz t0 t1 t2 t3 b c m1_0 m2_0 m3_0 m4_0 m5_0 m6_0 x0) ?_
 intro s1 rcl ih
 show Z5 _ _ (lpW _ _ _ _ _ _ _)
 unfold Zcl
 rw[Za7]
 conv=>arg 3; whnf
 refine Zg rfl ?_ ?_
 ·conv=>arg 3; whnf
  refine Zj rfl rfl fun x2 hx2=>?_
  conv=>arg 3; whnf
  refine Zo (Zak _ _) ?_
  conv=>arg 3; whnf
  refine Zg rfl ?_ ?_
  ·conv=>arg 3; whnf
   refine Zj rfl rfl fun x3 hx3=>?_
   conv=>arg 3; whnf
   refine Zj rfl rfl fun x4 hx4=>?_
   conv=>arg 3; whnf
   refine Zc _ Zbs fun x5 hx5=>?_
   conv=>arg 3; whnf
   refine Zf (ZeZ (f:=Ze) (g:=Ze) (fun ka kb:Int=>(ka==kb)) (fun _ _=>rfl) m5_0 c (w64 ((List.length (m3_0++[(Zi.mk c 0)]):Int)-1))) ?_
   conv=>arg 3; whnf
   refine ZQ rfl ?_
   conv=>arg 3; whnf
   refine Zc _ (ZiF _) fun r44 hr44=>?_
   clear hr44
   rcases r44 with r44 | r44
   ·conv=>arg 3; whnf
    exact Zh rfl
   ·conv=>arg 3; whnf
    exact Zh rfl
  ·conv=>arg 3; whnf
   refine Zc _ Zbs fun x45 hx45=>?_
   conv=>arg 3; whnf
   refine Zf (ZeZ (f:=Ze) (g:=Ze) (fun ka kb:Int=>(ka==kb)) (fun _ _=>rfl) m5_0 c (w64 ((List.length (m3_0++[(Zi.mk c 0)]):Int)-1))) ?_
   conv=>arg 3; whnf
   refine ZQ rfl ?_
   conv=>arg 3; whnf
   refine Zc _ (ZiM _) fun r84 hr84=>?_
   clear hr84
   rcases r84 with r84 | r84
   ·conv=>arg 3; whnf
    exact Zh rfl
   ·conv=>arg 3; whnf
    exact Zh rfl
 ·conv=>arg 3; whnf
  exact Zh rfl
theorem ZkE {t0:Bool} {t1:Bool} {t2:Bool} {t3:Bool} {b:Zu} {c:Int} {m1_0:(List Int)} {m2_0:(List Zr)} {m3_0:(List Zi)} {m4_0:(List (Int×Int))} {m5_0:(List (Int×Int))} {m6_0:(List (Zk×Int))}:∀r,(ZeB b c m1_0 m2_0 m3_0 m5_0 m6_0)=some r→evW ctx 42 [(.ptr 0 0),(.d (D.agg (dA t0 t1 t2 t3 b))),(.d (Ze c))] [(.cells [(.sl 1 1),(.sl 2 2),(.sl 3 2),(.mp 4),(.mp 5),(.mp 6)]),(.arr 1 (List.map Ze m1_0)),(.arr 2 (List.map ZF m2_0)),(.arr 2 (List.map Zbr m3_0)),(.mp (mpD Ze Ze m4_0)),(.mp (mpD Ze Ze m5_0)),(.mp (mpD Zs Ze m6_0))]=some ((ZhP t0 t1 t2 t3 b c m1_0 m2_0 m3_0 m4_0 m5_0 m6_0) r):=by
 show Z5 _ (fun r rhs=>rhs=some ((ZhP t0 t1 t2 t3 b c m1_0 m2_0 m3_0 m4_0 m5_0 m6_0) r)) _
 unfold ZeB
 rw[Zei ctx 42 ZAa _ _ rfl rfl]
 conv=>arg 3; whnf
 refine Zo (Zak _ _) ?_
 conv=>arg 3; whnf
 refine Zf (ZeZ (f:=Ze) (g:=Ze) (fun ka kb:Int=>(ka==kb)) (fun _ _=>rfl) m4_0 c (m3_0.length:Int)) ?_
 conv=>arg 3; whnf
 refine Zp _ Zm2 rfl fun x0 hx0=>?_
 conv=>arg 3; whnf
 refine Zo (Zak _ _) ?_
 conv=>arg 3; whnf
 refine Zc _ (ZiN _) fun r85 hr85=>?_
 clear hr85
 rcases r85 with r85 | (r85 | r85)
 ·conv=>arg 3; whnf
  exact Zh rfl
 ·conv=>arg 3; whnf
  exact Zh rfl
 ·conv=>arg 3; whnf
  exact Zh rfl
def ZkQ (r:Bool):D:=(D.bool r)
theorem Znr {a:Int}:∀r,(ZdY a)=some r→evD ctx 54 [(.d (Ze a))]=some (ZkQ r):=by
 show Z5 _ (fun r rhs=>rhs=some (ZkQ r)) _
 unfold ZdY
 rw[ZcN ctx 54 ZzE _ rfl rfl]
 conv=>arg 3; whnf
 refine Zg rfl ?_ ?_
 ·conv=>arg 3; whnf
  exact Zh rfl
 ·conv=>arg 3; whnf
  refine Zg rfl ?_ ?_
  ·conv=>arg 3; whnf
   exact Zh rfl
  ·conv=>arg 3; whnf
   exact Zh rfl
def Zdx (r:Int):D:=(Ze r)
def Zdb (t0:Bool) (a:(List Int)):(Int⊕Unit)→Ex×List V×Zn
  | (.inl r)=>(.ret,[(.d (Ze r))],[])
  | (.inr r)=>(.exit 0,[.bad],[])
theorem Zfq {t0:Bool} {a:(List Int)}:∀(s0:Int) (r:(Int⊕Unit)),lp (Za4 a (fun z0=>ZdY z0)) s0=some r→lpW ctx 0 [0,1,7,8] [4] Zrp [(.d (D.list t0 (List.map Ze a))),(.d (D.fn 54 [])),(.d (Ze (a.length:Int))),(.d (Ze s0))] []=some ((Zdb t0 a) r):=by
 refine Za6 (Zdb t0 a) ?_
 intro s0 rcl ih
 show Z5 _ _ (lpW _ _ _ _ _ _ _)
 unfold Za4
 rw[Za7]
 conv=>arg 3; whnf
 refine Zg rfl ?_ ?_
 ·conv=>arg 3; whnf
  refine Zj rfl rfl fun x1 hx1=>?_
  conv=>arg 3; whnf
  refine Zp _ Znr rfl fun x2 hx2=>?_
  conv=>arg 3; whnf
  refine Zg rfl ?_ ?_
  ·conv=>arg 3; whnf
   exact Zh rfl
  ·conv=>arg 3; whnf
   exact Zd (ih _)
 ·conv=>arg 3; whnf
  exact Zh rfl
theorem ZfW {t0:Bool} {a:(List Int)}:∀r,(ZbD a (fun z0=>ZdY z0))=some r→evD ctx 101 [(.d (D.list t0 (List.map Ze a))),(.d (D.fn 54 []))]=some (Zdx r):=by
 show Z5 _ (fun r rhs=>rhs=some (Zdx r)) _
 unfold ZbD
 rw[ZcN ctx 101 ZtL _ rfl rfl]
 conv=>arg 3; whnf
 refine Zo (Zak _ _) ?_
 conv=>arg 3; whnf
 refine Zc _ (Zfq _) fun r3 hr3=>?_
 clear hr3
 rcases r3 with r3 | r3
 ·conv=>arg 3; whnf
  exact Zh rfl
 ·conv=>arg 3; whnf
  exact Zh rfl
def Zde (r:Bool):D:=(D.bool r)
theorem Zft {t0:Bool} {a:(List Int)}:∀r,(ZaH a (fun z0=>ZdY z0))=some r→evD ctx 53 [(.d (D.list t0 (List.map Ze a))),(.d (D.fn 54 []))]=some (Zde r):=by
 show Z5 _ (fun r rhs=>rhs=some (Zde r)) _
 unfold ZaH
 rw[ZcN ctx 53 ZyL _ rfl rfl]
 conv=>arg 3; whnf
 refine Zp _ ZfW rfl fun x0 hx0=>?_
 conv=>arg 3; whnf
 refine Zg rfl ?_ ?_
 ·conv=>arg 3; whnf
  exact Zh rfl
 ·conv=>arg 3; whnf
  exact Zh rfl
def ZkS (r:Bool):D:=(D.bool r)
theorem Zj3 {t0:Bool} {t1:Bool} {a:Int} {b0:(List Int)} {b1:(List Zr)}:∀r,(Zgg a b0)=some r→evD ctx 55 [(.d (Ze a)),(.d (D.rptr [(D.list t0 (List.map Ze b0)),(D.list t1 (List.map ZF b1))]))]=some (ZkS r):=by
 show Z5 _ (fun r rhs=>rhs=some (ZkS r)) _
 unfold Zgg
 rw[ZcN ctx 55 Zzz _ rfl rfl]
 conv=>arg 3; whnf
 refine Zg rfl ?_ ?_
 ·conv=>arg 3; whnf
  refine Zo (Zak _ _) ?_
  conv=>arg 3; whnf
  refine Zg rfl ?_ ?_
  ·conv=>arg 3; whnf
   exact Zh rfl
  ·conv=>arg 3; whnf
   exact Zh rfl
 ·conv=>arg 3; whnf
  exact Zh rfl
def ZlQ (r:((List Int)×Bool)):D:=(D.tup [(D.list true (List.map Ze r.1)),(D.bool r.2)])
def Zki (t0:Bool) (t1:Bool) (a:Zb4) (s0:(List Int)×(List Bool)) (s1:Int):(Unit⊕Unit)→Ex×List V×Zn
  | (.inl r)=>(.exit 3,[(.ptr 0 0),(.sl 1 1),(.sl 2 1),(.d (Ze s1)),(.d (Ze (a.work.length:Int))),(.d (Ze s1))],[(.cells [(.d (D.list t0 (List.map Ze a.work))),(.d (D.list t1 (List.map ZF a.edges)))]),(.arr 1 (List.map Ze s0.1)),(.arr 1 (List.map D.bool s0.2))])
  | (.inr r)=>(.exit 4,[(.ptr 0 0),(.sl 1 1),(.sl 2 1),(.d (Ze s1)),(.d (Ze (a.work.length:Int))),(.d (Ze s1))],[(.cells [(.d (D.list t0 (List.map Ze a.work))),(.d (D.list t1 (List.map ZF a.edges)))]),(.arr 1 (List.map Ze s0.1)),(.arr 1 (List.map D.bool s0.2))])
theorem ZmT {t0:Bool} {t1:Bool} {a:Zb4} {s0:(List Int)×(List Bool)} {s1:Int}:∀(s3:Int) (r:(Unit⊕Unit)),lp (ZfV a s0 s1) s3=some r→lpW ctx 0 [1,4,5,6,21,22,30,31,32] [1,4,5,6,21,22] Zwc [(.ptr 0 0),(.sl 1 1),(.sl 2 1),(.d (Ze s1)),(.d (Ze (a.work.length:Int))),(.d (Ze s1)),(.d (D.list t1 (List.map ZF a.edges))),(.d (Ze (a.edges.length:Int))),(.d (Ze s3))] [(.cells [(.d (D.list t0 (List.map Ze a.work))),(.d (D.list t1 (List.map ZF a.edges)))]),(.arr 1 (List.map Ze s0.1)),(.arr 1 (List.map D.bool s0.2))]=some ((Zki t0 t1 a s0 s1) r):=by
 refine Za6 (Zki t0 t1 a s0 s1) ?_
 intro s3 rcl ih
 show Z5 _ _ (lpW _ _ _ _ _ _ _)
 unfold ZfV
 rw[Za7]
 conv=>arg 3; whnf
 refine Zg rfl ?_ ?_
 ·conv=>arg 3; whnf
  refine Zj rfl rfl fun x4 hx4=>?_
  conv=>arg 3; whnf
  refine Zg rfl ?_ ?_
  ·conv=>arg 3; whnf
   refine Zj rfl rfl fun x5 hx5=>?_
   conv=>arg 3; whnf
   refine Zf (Zl rfl hx5) ?_
   conv=>arg 3; whnf
   refine Zg rfl ?_ ?_
   ·conv=>arg 3; whnf
    exact Zd (ih _)
   ·conv=>arg 3; whnf
    exact Zh rfl
  ·conv=>arg 3; whnf
   exact Zd (ih _)
 ·conv=>arg 3; whnf
  exact Zh rfl
def Zkc (t0:Bool) (t1:Bool) (a:Zb4) (s0:(List Int)×(List Bool)):(((List Int)×(List Bool))⊕Unit)→Ex×List V×Zn
  | (.inl r)=>(.exit 1,[(.ptr 0 0),(.sl 1 1),(.sl 2 1)],[(.cells [(.d (D.list t0 (List.map Ze a.work))),(.d (D.list t1 (List.map ZF a.edges)))]),(.arr 1 (List.map Ze r.1)),(.arr 1 (List.map D.bool r.2))])
  | (.inr r)=>(.exit 2,[(.ptr 0 0),(.sl 1 1),(.sl 2 1)],[(.cells [(.d (D.list t0 (List.map Ze a.work))),(.d (D.list t1 (List.map ZF a.edges)))]),(.arr 1 (List.map Ze s0.1)),(.arr 1 (List.map D.bool s0.2))])
theorem Zm0 {t0:Bool} {t1:Bool} {a:Zb4} {s0:(List Int)×(List Bool)}:∀(s1:Int) (r:(((List Int)×(List Bool))⊕Unit)),lp (ZeT a s0) s1=some r→lpW ctx 0 [1,4,5,21,22] [1,4,5] ZwF [(.ptr 0 0),(.sl 1 1),(.sl 2 1),(.d (Ze (a.work.length:Int))),(.d (Ze s1))] [(.cells [(.d (D.list t0 (List.map Ze a.work))),(.d (D.list t1 (List.map ZF a.edges)))]),(.arr 1 (List.map Ze s0.1)),(.arr 1 (List.map D.bool s0.2))]=some ((Zkc t0 t1 a s0) r):=by
 refine Za6 (Zkc t0 t1 a s0) ?_
 intro s1 rcl ih
 show Z5 _ _ (lpW _ _ _ _ _ _ _)
 unfold ZeT
 rw[Za7]
 conv=>arg 3; whnf
 refine Zg rfl ?_ ?_
 ·conv=>arg 3; whnf
  refine Zj rfl rfl fun x2 hx2=>?_
  conv=>arg 3; whnf
  refine Zf (Zl rfl hx2) ?_
  conv=>arg 3; whnf
  refine Zg rfl ?_ ?_
  ·conv=>arg 3; whnf
   exact Zd (ih _)
  ·conv=>arg 3; whnf
   refine Zo (Zak _ _) ?_
   conv=>arg 3; whnf
   refine Zc _ (ZmT _) fun r6 hr6=>?_
   clear hr6
   rcases r6 with r6 | r6
   ·conv=>arg 3; whnf
    exact Zd (ih _)
   ·conv=>arg 3; whnf
    refine Zf (ZaE rfl hx2) ?_
    conv=>arg 3; whnf
    refine Zf (Zl rfl hx2) ?_
    conv=>arg 3; whnf
    refine Zo (Z3 D.bool s0.2 s1.toNat true) ?_
    conv=>arg 3; whnf
    refine ZbC rfl ?_
    conv=>arg 3; whnf
    refine Zg (Zju Ze s0.1 1) ?_ ?_
    ·conv=>arg 3; whnf
     refine Zo (Zjq Ze s0.1 [s1]) ?_
     conv=>arg 3; whnf
     exact Zh rfl
    ·exact ZbG
 ·conv=>arg 3; whnf
  exact Zh rfl
def ZjZ (t0:Bool) (t1:Bool) (a:Zb4):((List Int)⊕(List Int))→Ex×List V×Zn
  | (.inl r)=>(.ret,[(.nilsl 1),(.d (D.bool false)),(.sl 0 1)],[(.arr 1 (List.map Ze r))])
  | (.inr r)=>(.exit 0,[.bad,.bad,(.sl 0 1)],[(.arr 1 (List.map Ze r))])
theorem Znc {t0:Bool} {t1:Bool} {a:Zb4}:∀(s0:(List Int)×(List Bool)) (r:((List Int)⊕(List Int))),lp (ZfX a) s0=some r→lpW ctx 0 [1,4,5] [2,3,4] ZwS [(.ptr 0 0),(.sl 1 1),(.sl 2 1)] [(.cells [(.d (D.list t0 (List.map Ze a.work))),(.d (D.list t1 (List.map ZF a.edges)))]),(.arr 1 (List.map Ze s0.1)),(.arr 1 (List.map D.bool s0.2))]=some ((ZjZ t0 t1 a) r):=by
 refine Za6 (ZjZ t0 t1 a) ?_
 intro s0 rcl ih
 show Z5 _ _ (lpW _ _ _ _ _ _ _)
 unfold ZfX
 rw[Za7]
 conv=>arg 3; whnf
 refine Zo (Zak _ _) ?_
 conv=>arg 3; whnf
 refine Zo (Zak _ _) ?_
 conv=>arg 3; whnf
 refine Zg rfl ?_ ?_
 ·conv=>arg 3; whnf
  refine Zo (Zak _ _) ?_
  conv=>arg 3; whnf
  refine Zc _ (Zm0 _) fun r7 hr7=>?_
  clear hr7
  rcases r7 with r7 | r7
  ·conv=>arg 3; whnf
   exact Zd (ih _)
  ·conv=>arg 3; whnf
   exact Zh rfl
 ·conv=>arg 3; whnf
  exact Zh rfl
theorem Zk4 {t0:Bool} {t1:Bool} {a:Zb4}:∀r,(ZfZ a)=some r→evD ctx 57 [(.d (D.agg [(D.list t0 (List.map Ze a.work)),(D.list t1 (List.map ZF a.edges))]))]=some (ZlQ r):=by
 show Z5 _ (fun r rhs=>rhs=some (ZlQ r)) _
 unfold ZfZ
 rw[ZcN ctx 57 Zz0 _ rfl rfl]
 conv=>arg 3; whnf
 refine Zo (Zak _ _) ?_
 conv=>arg 3; whnf
 refine Zg rfl ?_ ?_
 ·conv=>arg 3; whnf
  refine Zo (Zyb D.bool (false:Bool) (a.work.length:Int)) ?_
  conv=>arg 3; whnf
  refine Zc _ (Znc _) fun r8 hr8=>?_
  clear hr8
  rcases r8 with r8 | r8
  ·conv=>arg 3; whnf
   exact Zh rfl
  ·conv=>arg 3; whnf
   exact Zh rfl
 ·exact ZbG
def ZlW (r:Int):D:=(Ze r)
def Zj4 (t0:Bool) (t1:Bool) (a:Zb4):(Unit⊕Unit)→Ex×List V×Zn
  | (.inl r)=>(.ret,[(.ptr 0 0),(.d (Ze 42))],[(.cells [(.d (D.list t0 (List.map Ze a.work))),(.d (D.list t1 (List.map ZF a.edges)))])])
  | (.inr r)=>(.exit 0,[(.ptr 0 0),.bad],[(.cells [(.d (D.list t0 (List.map Ze a.work))),(.d (D.list t1 (List.map ZF a.edges)))])])
theorem Znd {t0:Bool} {t1:Bool} {a:Zb4}:∀(s1:Int) (r:(Unit⊕Unit)),lp (Ze9 a) s1=some r→lpW ctx 0 [1,3,23,24,25] [1,2] ZwI [(.ptr 0 0),(.fn 55 [(.ptr 0 0)]),(.d (D.list t1 (List.map ZF a.edges))),(.d (Ze (a.edges.length:Int))),(.d (Ze s1))] [(.cells [(.d (D.list t0 (List.map Ze a.work))),(.d (D.list t1 (List.map ZF a.edges)))])]=some ((Zj4 t0 t1 a) r):=by
 refine Za6 (Zj4 t0 t1 a) ?_
 intro s1 rcl ih
 show Z5 _ _ (lpW _ _ _ _ _ _ _)
 unfold Ze9
 rw[Za7]
 conv=>arg 3; whnf
 refine Zg rfl ?_ ?_
 ·conv=>arg 3; whnf
  refine Zj rfl rfl fun x2 hx2=>?_
  conv=>arg 3; whnf
  refine Zp _ Zj3 rfl fun x3 hx3=>?_
  conv=>arg 3; whnf
  refine Zg rfl ?_ ?_
  ·conv=>arg 3; whnf
   refine Zp _ Zj3 rfl fun x4 hx4=>?_
   conv=>arg 3; whnf
   refine Zg rfl ?_ ?_
   ·conv=>arg 3; whnf
    refine Zg rfl ?_ ?_
    ·conv=>arg 3; whnf
     exact Zh rfl
    ·conv=>arg 3; whnf
     refine Zg rfl ?_ ?_
     ·conv=>arg 3; whnf
      refine Zg (Zwm ZF a.edges s1.toNat) ?_ ?_
      ·conv=>arg 3; whnf
       refine ZbC rfl ?_
       conv=>arg 3; whnf
       refine Zo (Zri ZF a.edges s1.toNat) ?_
       conv=>arg 3; whnf
       refine Zp _ Zfu rfl fun x5 hx5=>?_
       conv=>arg 3; whnf
       refine Zg rfl ?_ ?_
       ·conv=>arg 3; whnf
        exact Zh rfl
       ·conv=>arg 3; whnf
        exact Zd (ih _)
      ·exact ZbG
     ·exact ZbG
   ·conv=>arg 3; whnf
    exact Zh rfl
  ·conv=>arg 3; whnf
   exact Zh rfl
 ·conv=>arg 3; whnf
  exact Zh rfl
theorem Zle {t0:Bool} {t1:Bool} {a:Zb4}:∀r,(Zhu a)=some r→evD ctx 25 [(.d (D.agg [(D.list t0 (List.map Ze a.work)),(D.list t1 (List.map ZF a.edges))]))]=some (ZlW r):=by
 show Z5 _ (fun r rhs=>rhs=some (ZlW r)) _
 unfold Zhu
 rw[ZcN ctx 25 ZzV _ rfl rfl]
 conv=>arg 3; whnf
 refine Zo (Zak _ _) ?_
 conv=>arg 3; whnf
 refine Zg rfl ?_ ?_
 ·conv=>arg 3; whnf
  exact Zh rfl
 ·conv=>arg 3; whnf
  refine Zo (Zak _ _) ?_
  conv=>arg 3; whnf
  refine Zg rfl ?_ ?_
  ·conv=>arg 3; whnf
   exact Zh rfl
  ·conv=>arg 3; whnf
   refine Zp _ Zft rfl fun x0 hx0=>?_
   conv=>arg 3; whnf
   refine Zg rfl ?_ ?_
   ·conv=>arg 3; whnf
    exact Zh rfl
   ·conv=>arg 3; whnf
    refine Zo (Zak _ _) ?_
    conv=>arg 3; whnf
    refine Zc _ (Znd _) fun r6 hr6=>?_
    clear hr6
    rcases r6 with r6 | r6
    ·conv=>arg 3; whnf
     exact Zh rfl
    ·conv=>arg 3; whnf
     refine Zp _ Zk4 rfl fun x7 hx7=>?_
     conv=>arg 3; whnf
     refine Zg rfl ?_ ?_
     ·conv=>arg 3; whnf
      exact Zh rfl
     ·conv=>arg 3; whnf
      exact Zh rfl
def ZkK (r:(Zid×Int)):D:=(D.tup [(D.agg [(D.list true (List.map Ze r.1.dag.work)),(D.list true (List.map ZF r.1.dag.edges)),(D.list true (List.map Zbr r.1.pieces))]),(Ze r.2)])
def Zi3 (t0:Bool) (t1:Bool) (t2:Bool) (t3:Bool) (a:Zu):((List Int)×(List Zr)×(List Zi)×(List (Int×Int))×(List (Int×Int))×(List (Zk×Int)))→Ex×List V×Zn
  | r=>(.exit 0,[(.ptr 0 0),(.ptr 1 0),(.ptr 2 0)],[(.cells (dV t0 t1 t2 t3 a)),(.cells [(.sl 3 1),(.sl 4 2),(.sl 5 2)]),(.cells [(.sl 6 1),(.sl 7 2),(.sl 8 2),(.mp 9),(.mp 10),(.mp 11)]),(.arr 1 []),(.arr 2 []),(.arr 2 []),(.arr 1 (List.map Ze r.1)),(.arr 2 (List.map ZF r.2.1)),(.arr 2 (List.map Zbr r.2.2.1)),(.mp (mpD Ze Ze r.2.2.2.1)),(.mp (mpD Ze Ze r.2.2.2.2.1)),(.mp (mpD Zs Ze r.2.2.2.2.2))])
theorem ZlK {t0:Bool} {t1:Bool} {t2:Bool} {t3:Bool} {a:Zu}:∀(s1:Int×(List Int)×(List Zr)×(List Zi)×(List (Int×Int))×(List (Int×Int))×(List (Zk×Int))) (r:((List Int)×(List Zr)×(List Zi)×(List (Int×Int))×(List (Int×Int))×(List (Zk×Int)))),lp (Zdr a) s1=some r→lpW ctx 0 [1,2,5,31,32] [1,2,5] Zvr [(.ptr 0 0),(.ptr 1 0),(.ptr 2 0),(.d (Ze (a.parts.length:Int))),(.d (Ze s1.1))] [(.cells (dV t0 t1 t2 t3 a)),(.cells [(.sl 3 1),(.sl 4 2),(.sl 5 2)]),(.cells [(.sl 6 1),(.sl 7 2),(.sl 8 2),(.mp 9),(.mp 10),(.mp 11)]),(.arr 1 []),(.arr 2 []),(.arr 2 []),(.arr 1 (List.map Ze s1.2.1)),(.arr 2 (List.map ZF s1.2.2.1)),(.arr 2 (List.map Zbr s1.2.2.2.1)),(.mp (mpD Ze Ze s1.2.2.2.2.1)),(.mp (mpD Ze Ze s1.2.2.2.2.2.1)),(.mp (mpD Zs Ze s1.2.2.2.2.2.2))]=some ((Zi3 t0 t1 t2 t3 a) r):=by
 refine Za6 (Zi3 t0 t1 t2 t3 a) ?_
 intro s1 rcl ih
 show Z5 _ _ (lpW _ _ _ _ _ _ _)
 unfold Zdr
 rw[Za7]
 conv=>arg 3; whnf
 refine Zg rfl ?_ ?_
 ·conv=>arg 3; whnf
  refine Zc _ ZkE fun x2 hx2=>?_
  clear hx2
  rcases x2 with x2 | (x2 | x2)
  ·conv=>arg 3; whnf
   exact Zd (ih _)
  ·conv=>arg 3; whnf
   exact Zd (ih _)
  ·conv=>arg 3; whnf
   exact Zd (ih _)
 ·conv=>arg 3; whnf
  exact Zh rfl
def Zi2 (t0:Bool) (t1:Bool) (t2:Bool) (t3:Bool) (a:Zu) (r3:((List Int)×(List Zr)×(List Zi)×(List (Int×Int))×(List (Int×Int))×(List (Zk×Int)))):(List Zr)→Ex×List V×Zn
  | r=>(.exit 2,[(.ptr 0 0),(.ptr 1 0),(.ptr 2 0)],[(.cells (dV t0 t1 t2 t3 a)),(.cells [(.sl 3 1),(.sl 4 2),(.sl 5 2)]),(.cells [(.sl 6 1),(.sl 7 2),(.sl 8 2),(.mp 9),(.mp 10),(.mp 11)]),(.arr 1 []),(.arr 2 []),(.arr 2 []),(.arr 1 (List.map Ze r3.1)),(.arr 2 (List.map ZF r)),(.arr 2 (List.map Zbr r3.2.2.1)),(.mp (mpD Ze Ze r3.2.2.2.1)),(.mp (mpD Ze Ze r3.2.2.2.2.1)),(.mp (mpD Zs Ze r3.2.2.2.2.2))])
theorem ZlJ {t0:Bool} {t1:Bool} {t2:Bool} {t3:Bool} {a:Zu} {r3:((List Int)×(List Zr)×(List Zi)×(List (Int×Int))×(List (Int×Int))×(List (Zk×Int)))}:∀(s4:Int×(List Zr)) (r:(List Zr)),lp (ZdP a r3) s4=some r→lpW ctx 0 [1,2,5,41,42,43] [1,2,5] Zv9 [(.ptr 0 0),(.ptr 1 0),(.ptr 2 0),(.d (D.list t1 (List.map ZF a.edges))),(.d (Ze (a.edges.length:Int))),(.d (Ze s4.1))] [(.cells (dV t0 t1 t2 t3 a)),(.cells [(.sl 3 1),(.sl 4 2),(.sl 5 2)]),(.cells [(.sl 6 1),(.sl 7 2),(.sl 8 2),(.mp 9),(.mp 10),(.mp 11)]),(.arr 1 []),(.arr 2 []),(.arr 2 []),(.arr 1 (List.map Ze r3.1)),(.arr 2 (List.map ZF s4.2)),(.arr 2 (List.map Zbr r3.2.2.1)),(.mp (mpD Ze Ze r3.2.2.2.1)),(.mp (mpD Ze Ze r3.2.2.2.2.1)),(.mp (mpD Zs Ze r3.2.2.2.2.2))]=some ((Zi2 t0 t1 t2 t3 a r3) r):=by
 refine Za6 (Zi2 t0 t1 t2 t3 a r3) ?_
 intro s4 rcl ih
 show Z5 _ _ (lpW _ _ _ _ _ _ _)
 unfold ZdP
 rw[Za7]
 conv=>arg 3; whnf
 refine Zg rfl ?_ ?_
 ·conv=>arg 3; whnf
  refine Zj rfl rfl fun x5 hx5=>?_
  conv=>arg 3; whnf
  refine Zf (Zcu (f:=Ze) (g:=Ze) (fun ka kb:Int=>(ka==kb)) (fun _ _=>rfl) r3.2.2.2.2.1 x5.src 0) ?_
  conv=>arg 3; whnf
  refine Zf (Zcu (f:=Ze) (g:=Ze) (fun ka kb:Int=>(ka==kb)) (fun _ _=>rfl) r3.2.2.2.1 x5.dst 0) ?_
  conv=>arg 3; whnf
  refine Zc _ Zbd fun x6 hx6=>?_
  conv=>arg 3; whnf
  exact Zd (ih _)
 ·conv=>arg 3; whnf
  exact Zh rfl
def Zjc (t0:Bool) (t1:Bool) (t2:Bool) (t3:Bool) (a:Zu) (r3:((List Int)×(List Zr)×(List Zi)×(List (Int×Int))×(List (Int×Int))×(List (Zk×Int)))):(List Zr)→Ex×List V×Zn
  | r=>(.exit 4,[(.ptr 0 0),(.ptr 1 0),(.ptr 2 0)],[(.cells (dV t0 t1 t2 t3 a)),(.cells [(.sl 3 1),(.sl 4 2),(.sl 5 2)]),(.cells [(.sl 6 1),(.sl 7 2),(.sl 8 2),(.mp 9),(.mp 10),(.mp 11)]),(.arr 1 []),(.arr 2 []),(.arr 2 []),(.arr 1 (List.map Ze r3.1)),(.arr 2 (List.map ZF r)),(.arr 2 (List.map Zbr r3.2.2.1)),(.mp (mpD Ze Ze r3.2.2.2.1)),(.mp (mpD Ze Ze r3.2.2.2.2.1)),(.mp (mpD Zs Ze r3.2.2.2.2.2))])
theorem ZlH {t0:Bool} {t1:Bool} {t2:Bool} {t3:Bool} {a:Zu} {r3:((List Int)×(List Zr)×(List Zi)×(List (Int×Int))×(List (Int×Int))×(List (Zk×Int)))}:∀(s8:Int×(List Zr)) (r:(List Zr)),lp (ZdT a r3) s8=some r→lpW ctx 0 [1,2,5,65,66,67] [1,2,5] ZvM [(.ptr 0 0),(.ptr 1 0),(.ptr 2 0),(.d (D.list t2 (List.map Zs a.futures))),(.d (Ze (a.futures.length:Int))),(.d (Ze s8.1))] [(.cells (dV t0 t1 t2 t3 a)),(.cells [(.sl 3 1),(.sl 4 2),(.sl 5 2)]),(.cells [(.sl 6 1),(.sl 7 2),(.sl 8 2),(.mp 9),(.mp 10),(.mp 11)]),(.arr 1 []),(.arr 2 []),(.arr 2 []),(.arr 1 (List.map Ze r3.1)),(.arr 2 (List.map ZF s8.2)),(.arr 2 (List.map Zbr r3.2.2.1)),(.mp (mpD Ze Ze r3.2.2.2.1)),(.mp (mpD Ze Ze r3.2.2.2.2.1)),(.mp (mpD Zs Ze r3.2.2.2.2.2))]=some ((Zjc t0 t1 t2 t3 a r3) r):=by
 refine Za6 (Zjc t0 t1 t2 t3 a r3) ?_
 intro s8 rcl ih
 show Z5 _ _ (lpW _ _ _ _ _ _ _)
 unfold ZdT
 rw[Za7]
 conv=>arg 3; whnf
 refine Zg rfl ?_ ?_
 ·conv=>arg 3; whnf
  refine Zj rfl rfl fun x9 hx9=>?_
  conv=>arg 3; whnf
  refine Zf (Zcu (f:=Ze) (g:=Ze) (fun ka kb:Int=>(ka==kb)) (fun _ _=>rfl) r3.2.2.2.2.1 x9.maker 0) ?_
  conv=>arg 3; whnf
  refine Zf (Zcu (f:=Zs) (g:=Ze) (fun ka kb:Zk=>((ka.maker==kb.maker)&&((ka.user==kb.user)&&((ka.pos==kb.pos)&&true)))) (fun _ _=>rfl) r3.2.2.2.2.2 x9 0) ?_
  conv=>arg 3; whnf
  refine Zc _ Zbd fun x10 hx10=>?_
  conv=>arg 3; whnf
  exact Zd (ih _)
 ·conv=>arg 3; whnf
  exact Zh rfl
def Zjd (t3:Bool) (a:Zu) (r3:((List Int)×(List Zr)×(List Zi)×(List (Int×Int))×(List (Int×Int))×(List (Zk×Int)))) (s12:Int×(List Int)×(List Zr)×(List Zi)) (x13:Zt):(List Zr)→Ex×List V×Zn
  | r=>(.exit 8,[(.ptr 0 0),(.ptr 1 0),(.ptr 2 0),(.d (Ze (w64 ((List.length (s12.2.2.2++[(Zi.mk (-1) s12.1)]):Int)-1)))),(.d (D.list t3 (List.map ZA a.barriers))),(.d (Ze (a.barriers.length:Int))),(.d (Ze s12.1))],[(.cells [(.sl 3 1),(.sl 4 2),(.sl 5 2)]),(.cells [(.sl 6 1),(.sl 7 2),(.sl 8 2),(.mp 9),(.mp 10),(.mp 11)]),(.cells [(.d (D.list true (List.map Ze x13.ins))),(.d (D.list true (List.map Ze x13.outs)))]),(.arr 1 []),(.arr 2 []),(.arr 2 []),(.arr 1 (List.map Ze (s12.2.1++[1]))),(.arr 2 (List.map ZF r)),(.arr 2 (List.map Zbr (s12.2.2.2++[(Zi.mk (-1) s12.1)]))),(.mp (mpD Ze Ze r3.2.2.2.1)),(.mp (mpD Ze Ze r3.2.2.2.2.1)),(.mp (mpD Zs Ze r3.2.2.2.2.2))])
theorem ZlI {t3:Bool} {a:Zu} {r3:((List Int)×(List Zr)×(List Zi)×(List (Int×Int))×(List (Int×Int))×(List (Zk×Int)))} {s12:Int×(List Int)×(List Zr)×(List Zi)} {x13:Zt}:∀(s15:Int×(List Zr)) (r:(List Zr)),lp (ZeN r3 s12 x13) s15=some r→lpW ctx 0 [2,5,12,13,88,89,90,100,101,102] [2,5,12,13,88,89,90] Zxv [(.ptr 0 0),(.ptr 1 0),(.ptr 2 0),(.d (Ze (w64 ((List.length (s12.2.2.2++[(Zi.mk (-1) s12.1)]):Int)-1)))),(.d (D.list t3 (List.map ZA a.barriers))),(.d (Ze (a.barriers.length:Int))),(.d (Ze s12.1)),(.d (D.list true (List.map Ze x13.ins))),(.d (Ze (x13.ins.length:Int))),(.d (Ze s15.1))] [(.cells [(.sl 3 1),(.sl 4 2),(.sl 5 2)]),(.cells [(.sl 6 1),(.sl 7 2),(.sl 8 2),(.mp 9),(.mp 10),(.mp 11)]),(.cells [(.d (D.list true (List.map Ze x13.ins))),(.d (D.list true (List.map Ze x13.outs)))]),(.arr 1 []),(.arr 2 []),(.arr 2 []),(.arr 1 (List.map Ze (s12.2.1++[1]))),(.arr 2 (List.map ZF s15.2)),(.arr 2 (List.map Zbr (s12.2.2.2++[(Zi.mk (-1) s12.1)]))),(.mp (mpD Ze Ze r3.2.2.2.1)),(.mp (mpD Ze Ze r3.2.2.2.2.1)),(.mp (mpD Zs Ze r3.2.2.2.2.2))]=some ((Zjd t3 a r3 s12 x13) r):=by
 refine Za6 (Zjd t3 a r3 s12 x13) ?_
 intro s15 rcl ih
 show Z5 _ _ (lpW _ _ _ _ _ _ _)
 unfold ZeN
 rw[Za7]
 conv=>arg 3; whnf
 refine Zg rfl ?_ ?_
 ·conv=>arg 3; whnf
  refine Zj rfl rfl fun x16 hx16=>?_
  conv=>arg 3; whnf
  refine Zf (Zcu (f:=Ze) (g:=Ze) (fun ka kb:Int=>(ka==kb)) (fun _ _=>rfl) r3.2.2.2.2.1 x16 0) ?_
  conv=>arg 3; whnf
  refine Zc _ Zbd fun x17 hx17=>?_
  conv=>arg 3; whnf
  exact Zd (ih _)
 ·conv=>arg 3; whnf
  exact Zh rfl
def Zi9 (t3:Bool) (a:Zu) (r3:((List Int)×(List Zr)×(List Zi)×(List (Int×Int))×(List (Int×Int))×(List (Zk×Int)))) (s12:Int×(List Int)×(List Zr)×(List Zi)) (x13:Zt):(List Zr)→Ex×List V×Zn
  | r=>(.exit 10,[(.ptr 0 0),(.ptr 1 0),(.d (D.list t3 (List.map ZA a.barriers))),(.d (Ze (a.barriers.length:Int))),(.d (Ze s12.1))],[(.cells [(.sl 2 1),(.sl 3 2),(.sl 4 2)]),(.cells [(.sl 5 1),(.sl 6 2),(.sl 7 2),(.mp 8),(.mp 9),(.mp 10)]),(.arr 1 []),(.arr 2 []),(.arr 2 []),(.arr 1 (List.map Ze (s12.2.1++[1]))),(.arr 2 (List.map ZF r)),(.arr 2 (List.map Zbr (s12.2.2.2++[(Zi.mk (-1) s12.1)]))),(.mp (mpD Ze Ze r3.2.2.2.1)),(.mp (mpD Ze Ze r3.2.2.2.2.1)),(.mp (mpD Zs Ze r3.2.2.2.2.2))])
theorem ZlL {t3:Bool} {a:Zu} {r3:((List Int)×(List Zr)×(List Zi)×(List (Int×Int))×(List (Int×Int))×(List (Zk×Int)))} {s12:Int×(List Int)×(List Zr)×(List Zi)} {x13:Zt}:∀(s19:Int×(List Zr)) (r:(List Zr)),lp (ZeO r3 s12 x13) s19=some r→lpW ctx 0 [2,5,13,88,89,90,117,118,119] [2,5,88,89,90] Zv6 [(.ptr 0 0),(.ptr 1 0),(.d (Ze (w64 ((List.length (s12.2.2.2++[(Zi.mk (-1) s12.1)]):Int)-1)))),(.d (D.list t3 (List.map ZA a.barriers))),(.d (Ze (a.barriers.length:Int))),(.d (Ze s12.1)),(.d (D.list true (List.map Ze x13.outs))),(.d (Ze (x13.outs.length:Int))),(.d (Ze s19.1))] [(.cells [(.sl 2 1),(.sl 3 2),(.sl 4 2)]),(.cells [(.sl 5 1),(.sl 6 2),(.sl 7 2),(.mp 8),(.mp 9),(.mp 10)]),(.arr 1 []),(.arr 2 []),(.arr 2 []),(.arr 1 (List.map Ze (s12.2.1++[1]))),(.arr 2 (List.map ZF s19.2)),(.arr 2 (List.map Zbr (s12.2.2.2++[(Zi.mk (-1) s12.1)]))),(.mp (mpD Ze Ze r3.2.2.2.1)),(.mp (mpD Ze Ze r3.2.2.2.2.1)),(.mp (mpD Zs Ze r3.2.2.2.2.2))]=some ((Zi9 t3 a r3 s12 x13) r):=by
 refine Za6 (Zi9 t3 a r3 s12 x13) ?_
 intro s19 rcl ih
 show Z5 _ _ (lpW _ _ _ _ _ _ _)
 unfold ZeO
 rw[Za7]
 conv=>arg 3; whnf
 refine Zg rfl ?_ ?_
 ·conv=>arg 3; whnf
  refine Zj rfl rfl fun x20 hx20=>?_
  conv=>arg 3; whnf
  refine Zf (Zcu (f:=Ze) (g:=Ze) (fun ka kb:Int=>(ka==kb)) (fun _ _=>rfl) r3.2.2.2.1 x20 0) ?_
  conv=>arg 3; whnf
  refine Zc _ Zbd fun x21 hx21=>?_
  conv=>arg 3; whnf
  exact Zd (ih _)
 ·conv=>arg 3; whnf
  exact Zh rfl
def Zi7 (t3:Bool) (a:Zu) (r3:((List Int)×(List Zr)×(List Zi)×(List (Int×Int))×(List (Int×Int))×(List (Zk×Int)))):((List Int)×(List Zr)×(List Zi))→Ex×List V×Zn
  | r=>(.exit 6,[(.ptr 0 0),(.ptr 1 0)],[(.cells [(.sl 2 1),(.sl 3 2),(.sl 4 2)]),(.cells [(.sl 5 1),(.sl 6 2),(.sl 7 2),(.mp 8),(.mp 9),(.mp 10)]),(.arr 1 []),(.arr 2 []),(.arr 2 []),(.arr 1 (List.map Ze r.1)),(.arr 2 (List.map ZF r.2.1)),(.arr 2 (List.map Zbr r.2.2)),(.mp (mpD Ze Ze r3.2.2.2.1)),(.mp (mpD Ze Ze r3.2.2.2.2.1)),(.mp (mpD Zs Ze r3.2.2.2.2.2))])
theorem ZlM {t3:Bool} {a:Zu} {r3:((List Int)×(List Zr)×(List Zi)×(List (Int×Int))×(List (Int×Int))×(List (Zk×Int)))}:∀(s12:Int×(List Int)×(List Zr)×(List Zi)) (r:((List Int)×(List Zr)×(List Zi))),lp (ZdS a r3) s12=some r→lpW ctx 0 [2,5,88,89,90] [2,5] Zvq [(.ptr 0 0),(.ptr 1 0),(.d (D.list t3 (List.map ZA a.barriers))),(.d (Ze (a.barriers.length:Int))),(.d (Ze s12.1))] [(.cells [(.sl 2 1),(.sl 3 2),(.sl 4 2)]),(.cells [(.sl 5 1),(.sl 6 2),(.sl 7 2),(.mp 8),(.mp 9),(.mp 10)]),(.arr 1 []),(.arr 2 []),(.arr 2 []),(.arr 1 (List.map Ze s12.2.1)),(.arr 2 (List.map ZF s12.2.2.1)),(.arr 2 (List.map Zbr s12.2.2.2)),(.mp (mpD Ze Ze r3.2.2.2.1)),(.mp (mpD Ze Ze r3.2.2.2.2.1)),(.mp (mpD Zs Ze r3.2.2.2.2.2))]=some ((Zi7 t3 a r3) r):=by
 refine Za6 (Zi7 t3 a r3) ?_
 intro s12 rcl ih
 show Z5 _ _ (lpW _ _ _ _ _ _ _)
 unfold ZdS
 rw[Za7]
 conv=>arg 3; whnf
 refine Zg rfl ?_ ?_
 ·conv=>arg 3; whnf
  refine Zj rfl rfl fun x13 hx13=>?_
  conv=>arg 3; whnf
  refine Zc _ Zbs fun x14 hx14=>?_
  conv=>arg 3; whnf
  refine Zo (Zak _ _) ?_
  conv=>arg 3; whnf
  refine Zc _ (ZlI _) fun r18 hr18=>?_
  conv=>arg 3; whnf
  refine Zo (Zak _ _) ?_
  conv=>arg 3; whnf
  refine Zc _ (ZlL _) fun r22 hr22=>?_
  conv=>arg 3; whnf
  exact Zd (ih _)
 ·conv=>arg 3; whnf
  exact Zh rfl
theorem Znv {t0:Bool} {t1:Bool} {t2:Bool} {t3:Bool} {a:Zu}:∀r,(Zhb a)=some r→evD ctx 16 [(.d (D.agg (dA t0 t1 t2 t3 a)))]=some (ZkK r):=by
 show Z5 _ (fun r rhs=>rhs=some (ZkK r)) _
 unfold Zhb
 rw[ZcN ctx 16 Zz6 _ rfl rfl]
 conv=>arg 3; whnf
 refine Zp _ ZkM rfl fun x0 hx0=>?_
 conv=>arg 3; whnf
 refine Zg rfl ?_ ?_
 ·conv=>arg 3; whnf
  exact Zh rfl
 ·conv=>arg 3; whnf
  refine Zo (Zak _ _) ?_
  conv=>arg 3; whnf
  refine Zc _ (ZlK _) fun r3 hr3=>?_
  conv=>arg 3; whnf
  refine Zo (Zak _ _) ?_
  conv=>arg 3; whnf
  refine Zc _ (ZlJ _) fun r7 hr7=>?_
  conv=>arg 3; whnf
  refine Zo (Zak _ _) ?_
  conv=>arg 3; whnf
  refine Zc _ (ZlH _) fun r11 hr11=>?_
  conv=>arg 3; whnf
  refine Zo (Zak _ _) ?_
  conv=>arg 3; whnf
  refine Zc _ (ZlM _) fun r23 hr23=>?_
  conv=>arg 3; whnf
  refine Zp _ Zle rfl fun x24 hx24=>?_
  conv=>arg 3; whnf
  refine Zg rfl ?_ ?_
  ·conv=>arg 3; whnf
   exact Zh rfl
  ·conv=>arg 3; whnf
   exact Zh rfl
def Zlo (r:Int):D:=(Ze r)
theorem ZkJ {t0:Bool} {t1:Bool} {t2:Bool} {a:Zid} {b:Int}:∀r,(ZgU a b)=some r→evD ctx 23 [(.d (D.agg [(D.list t0 (List.map Ze a.dag.work)),(D.list t1 (List.map ZF a.dag.edges)),(D.list t2 (List.map Zbr a.pieces))])),(.d (Ze b))]=some (Zlo r):=by
 show Z5 _ (fun r rhs=>rhs=some (Zlo r)) _
 unfold ZgU
 rw[ZcN ctx 23 ZCe _ rfl rfl]
 conv=>arg 3; whnf
 refine Zxc (f:=Zbr) (g:=(fun x:Zi=>(x.part,x.step))) (l:=a.pieces) (fun _=>rfl) fun x0 hx0=>?_
 conv=>arg 3; whnf
 exact Zh rfl
def Zlq (r:Int):D:=(Ze r)
def ZjB (t2:Bool) (a:Zid) (b:Zi):Int→Ex×List V×Zn
  | r=>(.exit 0,[(.d (Ze r))],[])
theorem Zme {t2:Bool} {a:Zid} {b:Zi}:∀(s0:Int) (r:Int),lp (Zeo a b) s0=some r→lpW ctx 0 [3,5,9,10,11] [5] Zxm [(.ptr 0 0),(.d (Ze (-1))),(.d (D.list t2 (List.map Zbr a.pieces))),(.d (Ze (a.pieces.length:Int))),(.d (Ze s0))] [(.cells [(.d (Ze b.part)),(.d (Ze b.step))])]=some ((ZjB t2 a b) r):=by
 refine Za6 (ZjB t2 a b) ?_
 intro s0 rcl ih
 show Z5 _ _ (lpW _ _ _ _ _ _ _)
 unfold Zeo
 rw[Za7]
 conv=>arg 3; whnf
 refine Zg rfl ?_ ?_
 ·conv=>arg 3; whnf
  refine Zj rfl rfl fun x1 hx1=>?_
  conv=>arg 3; whnf
  refine Zg rfl ?_ ?_
  ·conv=>arg 3; whnf
   exact Zh rfl
  ·conv=>arg 3; whnf
   exact Zd (ih _)
 ·conv=>arg 3; whnf
  exact Zh rfl
theorem ZkN {t0:Bool} {t1:Bool} {t2:Bool} {a:Zid} {b:Zi}:∀r,(ZgN a b)=some r→evD ctx 21 [(.d (D.agg [(D.list t0 (List.map Ze a.dag.work)),(D.list t1 (List.map ZF a.dag.edges)),(D.list t2 (List.map Zbr a.pieces))])),(.d (D.agg [(Ze b.part),(Ze b.step)]))]=some (Zlq r):=by
 show Z5 _ (fun r rhs=>rhs=some (Zlq r)) _
 unfold ZgN
 rw[ZcN ctx 21 ZzW _ rfl rfl]
 conv=>arg 3; whnf
 refine Zo (Zak _ _) ?_
 conv=>arg 3; whnf
 refine Zc _ (Zme _) fun r2 hr2=>?_
 conv=>arg 3; whnf
 exact Zh rfl
def ZlX (r:(List Int)):D:=(D.list true (List.map Ze r))
theorem Zom {t0:Bool} {t1:Bool} {a:Zb4}:∀r,(Zie a)=some r→evD ctx 58 [(.d (D.agg [(D.list t0 (List.map Ze a.work)),(D.list t1 (List.map ZF a.edges))]))]=some (ZlX r):=by
 show Z5 _ (fun r rhs=>rhs=some (ZlX r)) _
 unfold Zie
 rw[ZcN ctx 58 Zzy _ rfl rfl]
 conv=>arg 3; whnf
 refine Zp _ Zle rfl fun x0 hx0=>?_
 conv=>arg 3; whnf
 refine Zg rfl ?_ ?_
 ·conv=>arg 3; whnf
  exact Zh rfl
 ·conv=>arg 3; whnf
  refine Zp _ Zk4 rfl fun x1 hx1=>?_
  conv=>arg 3; whnf
  refine Zg rfl ?_ ?_
  ·conv=>arg 3; whnf
   exact Zh rfl
  ·conv=>arg 3; whnf
   exact Zh rfl
def ZkP (r:(Int×Bool)):D:=(D.tup [(Ze r.1),(D.bool r.2)])
theorem Znp {a:Zr} {b0:Int}:∀r,(ZfA a b0)=some r→evD ctx 104 [(.d (D.agg [(Ze a.src),(Ze a.dst)])),(.d (D.rptr [(Ze b0)]))]=some (ZkP r):=by
 show Z5 _ (fun r rhs=>rhs=some (ZkP r)) _
 unfold ZfA
 rw[ZcN ctx 104 Zv1 _ rfl rfl]
 conv=>arg 3; whnf
 refine Zg rfl ?_ ?_
 ·conv=>arg 3; whnf
  exact Zh rfl
 ·conv=>arg 3; whnf
  exact Zh rfl
def Zjo (r:Bool):D:=(D.bool r)
theorem Zi0 {a:Int}:∀r,(Zga a)=some r→evD ctx 169 [(.d (Ze a))]=some (Zjo r):=by
 show Z5 _ (fun r rhs=>rhs=some (Zjo r)) _
 unfold Zga
 rw[ZcN ctx 169 Zwx _ rfl rfl]
 conv=>arg 3; whnf
 refine Zg rfl ?_ ?_
 ·conv=>arg 3; whnf
  exact Zh rfl
 ·conv=>arg 3; whnf
  exact Zh rfl
def Zj5 (r:Bool):D:=(D.bool r)
theorem ZZ {a:Int} {b:Int}:∀r,(Z7 a b)=some r→evD ctx 158 [(.d (Ze a)),(.d (Ze b))]=some (Zj5 r):=by
 show Z5 _ (fun r rhs=>rhs=some (Zj5 r)) _
 unfold Z7
 rw[ZcN ctx 158 Zwd _ rfl rfl]
 conv=>arg 3; whnf
 refine Zp _ Zi0 rfl fun x0 hx0=>?_
 conv=>arg 3; whnf
 refine Zg rfl ?_ ?_
 ·conv=>arg 3; whnf
  refine Zp _ Zi0 rfl fun x1 hx1=>?_
  conv=>arg 3; whnf
  refine Zg rfl ?_ ?_
  ·conv=>arg 3; whnf
   refine Zg rfl ?_ ?_
   ·conv=>arg 3; whnf
    exact Zh rfl
   ·conv=>arg 3; whnf
    exact Zh rfl
  ·conv=>arg 3; whnf
   exact Zh rfl
 ·conv=>arg 3; whnf
  refine Zg rfl ?_ ?_
  ·conv=>arg 3; whnf
   exact Zh rfl
  ·conv=>arg 3; whnf
   exact Zh rfl
def ZeJ (b:Int) (c:Int) (m0_0:(List Int)):(List Int)→V×Zn
  | r=>((.d (D.tup [])),[(.arr 1 (List.map Ze r))])
def Zd5 (b:Int) (c:Int) (s0:Int×(List Int)):(List Int)→Ex×List V×Zn
  | r=>(.exit 2,[(.sl 0 1),(.d (Ze b)),(.d (Ze c)),(.d (Ze s0.1))],[(.arr 1 (List.map Ze r))])
theorem Zgv {b:Int} {c:Int} {s0:Int×(List Int)}:∀(s1:Int×(List Int)) (r:(List Int)),lp (Zbo b) s1=some r→lpW ctx 1 [0,1,2,6,7] [0,1,2,6] Zul [(.sl 0 1),(.d (Ze b)),(.d (Ze c)),(.d (Ze s0.1)),(.d (Ze s1.1))] [(.arr 1 (List.map Ze s1.2))]=some ((Zd5 b c s0) r):=by
 refine Za6 (Zd5 b c s0) ?_
 intro s1 rcl ih
 show Z5 _ _ (lpW _ _ _ _ _ _ _)
 unfold Zbo
 rw[Za7]
 conv=>arg 3; whnf
 refine Zg rfl ?_ ?_
 ·conv=>arg 3; whnf
  refine Zj rfl rfl fun x2 hx2=>?_
  conv=>arg 3; whnf
  refine Zf (Zl rfl hx2) ?_
  conv=>arg 3; whnf
  refine Zj rfl rfl fun x3 hx3=>?_
  conv=>arg 3; whnf
  refine Zf (Zl rfl hx3) ?_
  conv=>arg 3; whnf
  refine Zp _ ZZ rfl fun x4 hx4=>?_
  conv=>arg 3; whnf
  refine Zg rfl ?_ ?_
  ·conv=>arg 3; whnf
   refine Zf (ZaE rfl hx3) ?_
   conv=>arg 3; whnf
   refine Zf (Zl rfl hx3) ?_
   conv=>arg 3; whnf
   refine Zf (ZaE rfl hx2) ?_
   conv=>arg 3; whnf
   refine Zf (Zl rfl hx2) ?_
   conv=>arg 3; whnf
   refine Zf (ZaE rfl hx2) ?_
   conv=>arg 3; whnf
   refine Zf (Zl rfl hx2) ?_
   conv=>arg 3; whnf
   refine Zo (Z3 Ze s1.2 s1.1.toNat x3) ?_
   conv=>arg 3; whnf
   refine Zj rfl rfl fun x5 hx5=>?_
   conv=>arg 3; whnf
   refine Zf (Zl rfl hx5) ?_
   conv=>arg 3; whnf
   refine Zo (Z3 Ze (List.set s1.2 s1.1.toNat x3) (w64 (s1.1-1)).toNat x2) ?_
   conv=>arg 3; whnf
   exact Zd (ih _)
  ·conv=>arg 3; whnf
   exact Zh rfl
 ·conv=>arg 3; whnf
  exact Zh rfl
def Zd3 (b:Int) (c:Int):(List Int)→Ex×List V×Zn
  | r=>(.exit 0,[],[(.arr 1 (List.map Ze r))])
theorem Zgx {b:Int} {c:Int}:∀(s0:Int×(List Int)) (r:(List Int)),lp (Zbn b c) s0=some r→lpW ctx 1 [0,1,2,6] [] ZtJ [(.sl 0 1),(.d (Ze b)),(.d (Ze c)),(.d (Ze s0.1))] [(.arr 1 (List.map Ze s0.2))]=some ((Zd3 b c) r):=by
 refine Za6 (Zd3 b c) ?_
 intro s0 rcl ih
 show Z5 _ _ (lpW _ _ _ _ _ _ _)
 unfold Zbn
 rw[Za7]
 conv=>arg 3; whnf
 refine Zg rfl ?_ ?_
 ·conv=>arg 3; whnf
  refine Zc _ (Zgv _) fun r6 hr6=>?_
  conv=>arg 3; whnf
  exact Zd (ih _)
 ·conv=>arg 3; whnf
  exact Zh rfl
theorem Zb2 {b:Int} {c:Int} {m0_0:(List Int)}:∀r,(Zat b c m0_0)=some r→evW ctx 152 [(.sl 0 1),(.d (Ze b)),(.d (Ze c))] [(.arr 1 (List.map Ze m0_0))]=some ((ZeJ b c m0_0) r):=by
 show Z5 _ (fun r rhs=>rhs=some ((ZeJ b c m0_0) r)) _
 unfold Zat
 rw[Zei ctx 152 Zwy _ _ rfl rfl]
 conv=>arg 3; whnf
 refine Zc _ (Zgx _) fun r7 hr7=>?_
 conv=>arg 3; whnf
 exact Zh rfl
def ZfR (b:Int) (c:Int) (d:Int) (m0_0:(List Int)):(List Int)→V×Zn
  | r=>((.d (D.tup [])),[(.arr 1 (List.map Ze r))])
def Zfb (c:Int) (d:Int):((List Int)⊕(List Int))→Ex×List V×Zn
  | (.inl r)=>(.exit 0,[],[(.arr 1 (List.map Ze r))])
  | (.inr r)=>(.ret,[],[(.arr 1 (List.map Ze r))])
theorem Zhi {c:Int} {d:Int}:∀(s0:Int×(List Int)) (r:((List Int)⊕(List Int))),lp (ZbW c d) s0=some r→lpW ctx 1 [0,2,3,8] [] Zur [(.sl 0 1),(.d (Ze c)),(.d (Ze d)),(.d (Ze s0.1))] [(.arr 1 (List.map Ze s0.2))]=some ((Zfb c d) r):=by
 refine Za6 (Zfb c d) ?_
 intro s0 rcl ih
 show Z5 _ _ (lpW _ _ _ _ _ _ _)
 unfold ZbW
 rw[Za7]
 conv=>arg 3; whnf
 refine Zg rfl ?_ ?_
 ·conv=>arg 3; whnf
  exact Zh rfl
 ·conv=>arg 3; whnf
  refine Zg rfl ?_ ?_
  ·conv=>arg 3; whnf
   refine Zj rfl rfl fun x1 hx1=>?_
   conv=>arg 3; whnf
   refine Zf (Zl rfl hx1) ?_
   conv=>arg 3; whnf
   refine Zj rfl rfl fun x2 hx2=>?_
   conv=>arg 3; whnf
   refine Zf (Zl rfl hx2) ?_
   conv=>arg 3; whnf
   refine Zp _ ZZ rfl fun x3 hx3=>?_
   conv=>arg 3; whnf
   refine Zg rfl ?_ ?_
   ·conv=>arg 3; whnf
    refine Zj rfl rfl fun x4 hx4=>?_
    conv=>arg 3; whnf
    refine Zf (Zl rfl hx4) ?_
    conv=>arg 3; whnf
    refine Zj rfl rfl fun x5 hx5=>?_
    conv=>arg 3; whnf
    refine Zf (Zl rfl hx5) ?_
    conv=>arg 3; whnf
    refine Zp _ ZZ rfl fun x6 hx6=>?_
    conv=>arg 3; whnf
    refine Zg rfl ?_ ?_
    ·conv=>arg 3; whnf
     refine Zf (ZaE rfl hx5) ?_
     conv=>arg 3; whnf
     refine Zf (Zl rfl hx5) ?_
     conv=>arg 3; whnf
     refine Zf (ZaE rfl hx4) ?_
     conv=>arg 3; whnf
     refine Zf (Zl rfl hx4) ?_
     conv=>arg 3; whnf
     refine Zf (ZaE rfl hx4) ?_
     conv=>arg 3; whnf
     refine Zf (Zl rfl hx4) ?_
     conv=>arg 3; whnf
     refine Zo (Z3 Ze s0.2 (w64 (d+s0.1)).toNat x5) ?_
     conv=>arg 3; whnf
     refine Zj rfl rfl fun x7 hx7=>?_
     conv=>arg 3; whnf
     refine Zf (Zl rfl hx7) ?_
     conv=>arg 3; whnf
     refine Zo (Z3 Ze (List.set s0.2 (w64 (d+s0.1)).toNat x5) (w64 (d+(w64 ((w64 ((w64 (2*s0.1))+1))+1)))).toNat x4) ?_
     conv=>arg 3; whnf
     exact Zd (ih _)
    ·conv=>arg 3; whnf
     exact Zh rfl
   ·conv=>arg 3; whnf
    refine Zj rfl rfl fun x8 hx8=>?_
    conv=>arg 3; whnf
    refine Zf (Zl rfl hx8) ?_
    conv=>arg 3; whnf
    refine Zf (ZaE rfl hx1) ?_
    conv=>arg 3; whnf
    refine Zf (Zl rfl hx1) ?_
    conv=>arg 3; whnf
    refine Zp _ ZZ rfl fun x9 hx9=>?_
    conv=>arg 3; whnf
    refine Zg rfl ?_ ?_
    ·conv=>arg 3; whnf
     refine Zf (ZaE rfl hx1) ?_
     conv=>arg 3; whnf
     refine Zf (Zl rfl hx1) ?_
     conv=>arg 3; whnf
     refine Zf (ZaE rfl hx8) ?_
     conv=>arg 3; whnf
     refine Zf (Zl rfl hx8) ?_
     conv=>arg 3; whnf
     refine Zf (ZaE rfl hx8) ?_
     conv=>arg 3; whnf
     refine Zf (Zl rfl hx8) ?_
     conv=>arg 3; whnf
     refine Zo (Z3 Ze s0.2 (w64 (d+s0.1)).toNat x1) ?_
     conv=>arg 3; whnf
     refine Zj rfl rfl fun x10 hx10=>?_
     conv=>arg 3; whnf
     refine Zf (Zl rfl hx10) ?_
     conv=>arg 3; whnf
     refine Zo (Z3 Ze (List.set s0.2 (w64 (d+s0.1)).toNat x1) (w64 (d+(w64 ((w64 (2*s0.1))+1)))).toNat x8) ?_
     conv=>arg 3; whnf
     exact Zd (ih _)
    ·conv=>arg 3; whnf
     exact Zh rfl
  ·conv=>arg 3; whnf
   refine Zj rfl rfl fun x11 hx11=>?_
   conv=>arg 3; whnf
   refine Zf (Zl rfl hx11) ?_
   conv=>arg 3; whnf
   refine Zj rfl rfl fun x12 hx12=>?_
   conv=>arg 3; whnf
   refine Zf (Zl rfl hx12) ?_
   conv=>arg 3; whnf
   refine Zp _ ZZ rfl fun x13 hx13=>?_
   conv=>arg 3; whnf
   refine Zg rfl ?_ ?_
   ·conv=>arg 3; whnf
    refine Zf (ZaE rfl hx12) ?_
    conv=>arg 3; whnf
    refine Zf (Zl rfl hx12) ?_
    conv=>arg 3; whnf
    refine Zf (ZaE rfl hx11) ?_
    conv=>arg 3; whnf
    refine Zf (Zl rfl hx11) ?_
    conv=>arg 3; whnf
    refine Zf (ZaE rfl hx11) ?_
    conv=>arg 3; whnf
    refine Zf (Zl rfl hx11) ?_
    conv=>arg 3; whnf
    refine Zo (Z3 Ze s0.2 (w64 (d+s0.1)).toNat x12) ?_
    conv=>arg 3; whnf
    refine Zj rfl rfl fun x14 hx14=>?_
    conv=>arg 3; whnf
    refine Zf (Zl rfl hx14) ?_
    conv=>arg 3; whnf
    refine Zo (Z3 Ze (List.set s0.2 (w64 (d+s0.1)).toNat x12) (w64 (d+(w64 ((w64 (2*s0.1))+1)))).toNat x11) ?_
    conv=>arg 3; whnf
    exact Zd (ih _)
   ·conv=>arg 3; whnf
    exact Zh rfl
theorem ZfI {b:Int} {c:Int} {d:Int} {m0_0:(List Int)}:∀r,(ZbF b c d m0_0)=some r→evW ctx 166 [(.sl 0 1),(.d (Ze b)),(.d (Ze c)),(.d (Ze d))] [(.arr 1 (List.map Ze m0_0))]=some ((ZfR b c d m0_0) r):=by
 show Z5 _ (fun r rhs=>rhs=some ((ZfR b c d m0_0) r)) _
 unfold ZbF
 rw[Zei ctx 166 ZvV _ _ rfl rfl]
 conv=>arg 3; whnf
 refine Zc _ (Zhi _) fun r15 hr15=>?_
 clear hr15
 rcases r15 with r15 | r15
 ·conv=>arg 3; whnf
  exact Zh rfl
 ·conv=>arg 3; whnf
  exact Zh rfl
def ZfY (b:Int) (c:Int) (m0_0:(List Int)):(List Int)→V×Zn
  | r=>((.d (D.tup [])),[(.arr 1 (List.map Ze r))])
def Zfd (b:Int) (c:Int):(List Int)→Ex×List V×Zn
  | r=>(.exit 0,[(.sl 0 1),(.d (Ze b)),(.d (Ze 0)),(.d (Ze (w64 (c-b))))],[(.arr 1 (List.map Ze r))])
theorem Zhm {b:Int} {c:Int}:∀(s0:Int×(List Int)) (r:(List Int)),lp (ZbT b c) s0=some r→lpW ctx 1 [0,6,7,8,9] [0,6,7,8] Ztq [(.sl 0 1),(.d (Ze b)),(.d (Ze 0)),(.d (Ze (w64 (c-b)))),(.d (Ze s0.1))] [(.arr 1 (List.map Ze s0.2))]=some ((Zfd b c) r):=by
 refine Za6 (Zfd b c) ?_
 intro s0 rcl ih
 show Z5 _ _ (lpW _ _ _ _ _ _ _)
 unfold ZbT
 rw[Za7]
 conv=>arg 3; whnf
 refine Zg rfl ?_ ?_
 ·conv=>arg 3; whnf
  refine Zc _ ZfI fun x1 hx1=>?_
  conv=>arg 3; whnf
  exact Zd (ih _)
 ·conv=>arg 3; whnf
  exact Zh rfl
def Zfe (b:Int):(List Int)→Ex×List V×Zn
  | r=>(.exit 2,[],[(.arr 1 (List.map Ze r))])
theorem Zhl {b:Int}:∀(s3:Int×(List Int)) (r:(List Int)),lp (ZbV b) s3=some r→lpW ctx 1 [0,6,7,10] [] Zt3 [(.sl 0 1),(.d (Ze b)),(.d (Ze 0)),(.d (Ze s3.1))] [(.arr 1 (List.map Ze s3.2))]=some ((Zfe b) r):=by
 refine Za6 (Zfe b) ?_
 intro s3 rcl ih
 show Z5 _ _ (lpW _ _ _ _ _ _ _)
 unfold ZbV
 rw[Za7]
 conv=>arg 3; whnf
 refine Zg rfl ?_ ?_
 ·conv=>arg 3; whnf
  refine Zj rfl rfl fun x4 hx4=>?_
  conv=>arg 3; whnf
  refine Zf (Zl rfl hx4) ?_
  conv=>arg 3; whnf
  refine Zj rfl rfl fun x5 hx5=>?_
  conv=>arg 3; whnf
  refine Zf (Zl rfl hx5) ?_
  conv=>arg 3; whnf
  refine Zf (ZaE rfl hx5) ?_
  conv=>arg 3; whnf
  refine Zf (Zl rfl hx5) ?_
  conv=>arg 3; whnf
  refine Zo (Z3 Ze s3.2 b.toNat x4) ?_
  conv=>arg 3; whnf
  refine Zj rfl rfl fun x6 hx6=>?_
  conv=>arg 3; whnf
  refine Zf (Zl rfl hx6) ?_
  conv=>arg 3; whnf
  refine Zo (Z3 Ze (List.set s3.2 b.toNat x4) (w64 (b+s3.1)).toNat x5) ?_
  conv=>arg 3; whnf
  refine Zc _ ZfI fun x7 hx7=>?_
  conv=>arg 3; whnf
  exact Zd (ih _)
 ·conv=>arg 3; whnf
  exact Zh rfl
theorem ZcB {b:Int} {c:Int} {m0_0:(List Int)}:∀r,(Za3 b c m0_0)=some r→evW ctx 153 [(.sl 0 1),(.d (Ze b)),(.d (Ze c))] [(.arr 1 (List.map Ze m0_0))]=some ((ZfY b c m0_0) r):=by
 show Z5 _ (fun r rhs=>rhs=some ((ZfY b c m0_0) r)) _
 unfold Za3
 rw[Zei ctx 153 Zv7 _ _ rfl rfl]
 conv=>arg 3; whnf
 refine ZQ rfl ?_
 conv=>arg 3; whnf
 refine Zc _ (Zhm _) fun r2 hr2=>?_
 conv=>arg 3; whnf
 refine Zc _ (Zhl _) fun r8 hr8=>?_
 conv=>arg 3; whnf
 exact Zh rfl
def Zf9 (b:Int) (c:Int) (m0_0:(List Int)) (m1_0:Int):(Int×Int×Int)→V×Zn
  | r=>((.d (D.tup [(Ze r.1),(Ze r.2.1)])),[(.arr 1 (List.map Ze m0_0)),(.cells [(.d (Ze r.2.2))])])
theorem Zd2 {b:Int} {c:Int} {m0_0:(List Int)} {m1_0:Int}:∀r,(Zbw b c m0_0 m1_0)=some r→evW ctx 171 [(.sl 0 1),(.d (Ze b)),(.d (Ze c)),(.ptr 1 0)] [(.arr 1 (List.map Ze m0_0)),(.cells [(.d (Ze m1_0))])]=some ((Zf9 b c m0_0 m1_0) r):=by
 show Z5 _ (fun r rhs=>rhs=some ((Zf9 b c m0_0 m1_0) r)) _
 unfold Zbw
 rw[Zei ctx 171 Zv2 _ _ rfl rfl]
 conv=>arg 3; whnf
 refine Zj rfl rfl fun x0 hx0=>?_
 conv=>arg 3; whnf
 refine Zf (Zl rfl hx0) ?_
 conv=>arg 3; whnf
 refine Zj rfl rfl fun x1 hx1=>?_
 conv=>arg 3; whnf
 refine Zf (Zl rfl hx1) ?_
 conv=>arg 3; whnf
 refine Zp _ ZZ rfl fun x2 hx2=>?_
 conv=>arg 3; whnf
 refine Zg rfl ?_ ?_
 ·conv=>arg 3; whnf
  exact Zh rfl
 ·conv=>arg 3; whnf
  exact Zh rfl
def Zge (b:Int) (c:Int) (d:Int) (m0_0:(List Int)) (m1_0:Int):(Int×Int)→V×Zn
  | r=>((.d (Ze r.1)),[(.arr 1 (List.map Ze m0_0)),(.cells [(.d (Ze r.2))])])
theorem Zd6 {b:Int} {c:Int} {d:Int} {m0_0:(List Int)} {m1_0:Int}:∀r,(Zbx b c d m0_0 m1_0)=some r→evW ctx 168 [(.sl 0 1),(.d (Ze b)),(.d (Ze c)),(.d (Ze d)),(.ptr 1 0)] [(.arr 1 (List.map Ze m0_0)),(.cells [(.d (Ze m1_0))])]=some ((Zge b c d m0_0 m1_0) r):=by
 show Z5 _ (fun r rhs=>rhs=some ((Zge b c d m0_0 m1_0) r)) _
 unfold Zbx
 rw[Zei ctx 168 Zxr _ _ rfl rfl]
 conv=>arg 3; whnf
 refine Zc _ Zd2 fun x0 hx0=>?_
 conv=>arg 3; whnf
 refine Zc _ Zd2 fun x1 hx1=>?_
 conv=>arg 3; whnf
 refine Zc _ Zd2 fun x2 hx2=>?_
 conv=>arg 3; whnf
 exact Zh rfl
def Zex (b:Int) (m0_0:(List Int)) (m1_0:Int):(Int×Int)→V×Zn
  | r=>((.d (Ze r.1)),[(.arr 1 (List.map Ze m0_0)),(.cells [(.d (Ze r.2))])])
theorem ZcS {b:Int} {m0_0:(List Int)} {m1_0:Int}:∀r,(ZaN b m0_0 m1_0)=some r→evW ctx 167 [(.sl 0 1),(.d (Ze b)),(.ptr 1 0)] [(.arr 1 (List.map Ze m0_0)),(.cells [(.d (Ze m1_0))])]=some ((Zex b m0_0 m1_0) r):=by
 show Z5 _ (fun r rhs=>rhs=some ((Zex b m0_0 m1_0) r)) _
 unfold ZaN
 rw[Zei ctx 167 Zvs _ _ rfl rfl]
 conv=>arg 3; whnf
 refine Zc _ Zd6 fun x0 hx0=>?_
 conv=>arg 3; whnf
 exact Zh rfl
def Zfc (b:Int) (c:Int) (m0_0:(List Int)):(Int×Int)→V×Zn
  | r=>((.d (D.tup [(Ze r.1),(Ze r.2)])),[(.arr 1 (List.map Ze m0_0))])
theorem Zca {b:Int} {c:Int} {m0_0:(List Int)}:∀r,(ZaI b c m0_0)=some r→evW ctx 155 [(.sl 0 1),(.d (Ze b)),(.d (Ze c))] [(.arr 1 (List.map Ze m0_0))]=some ((Zfc b c m0_0) r):=by
 show Z5 _ (fun r rhs=>rhs=some ((Zfc b c m0_0) r)) _
 unfold ZaI
 rw[Zei ctx 155 ZvS _ _ rfl rfl]
 conv=>arg 3; whnf
 refine ZQ rfl ?_
 conv=>arg 3; whnf
 refine ZQ rfl ?_
 conv=>arg 3; whnf
 refine ZQ rfl ?_
 conv=>arg 3; whnf
 refine Zg rfl ?_ ?_
 ·conv=>arg 3; whnf
  refine Zg rfl ?_ ?_
  ·conv=>arg 3; whnf
   refine Zc _ ZcS fun x0 hx0=>?_
   conv=>arg 3; whnf
   refine Zc _ ZcS fun x1 hx1=>?_
   conv=>arg 3; whnf
   refine Zc _ ZcS fun x2 hx2=>?_
   conv=>arg 3; whnf
   refine Zc _ Zd6 fun x3 hx3=>?_
   conv=>arg 3; whnf
   refine Zg rfl ?_ ?_
   ·conv=>arg 3; whnf
    exact Zh rfl
   ·conv=>arg 3; whnf
    refine Zg rfl ?_ ?_
    ·conv=>arg 3; whnf
     exact Zh rfl
    ·conv=>arg 3; whnf
     exact Zh rfl
  ·conv=>arg 3; whnf
   refine Zc _ Zd6 fun x4 hx4=>?_
   conv=>arg 3; whnf
   refine Zg rfl ?_ ?_
   ·conv=>arg 3; whnf
    exact Zh rfl
   ·conv=>arg 3; whnf
    refine Zg rfl ?_ ?_
    ·conv=>arg 3; whnf
     exact Zh rfl
    ·conv=>arg 3; whnf
     exact Zh rfl
 ·conv=>arg 3; whnf
  refine ZbC rfl ?_
  conv=>arg 3; whnf
  exact Zh rfl
def Ze5 (b:Int) (c:Int) (m0_0:(List Int)):(List Int)→V×Zn
  | r=>((.d (D.tup [])),[(.arr 1 (List.map Ze r))])
def Zej:(List Int)→Ex×List V×Zn
  | r=>(.exit 0,[],[(.arr 1 (List.map Ze r))])
theorem ZgC:∀(s0:Int×Int×(List Int)) (r:(List Int)),lp (Zbu) s0=some r→lpW ctx 1 [0,6,7] [] Ztr [(.sl 0 1),(.d (Ze s0.1)),(.d (Ze s0.2.1))] [(.arr 1 (List.map Ze s0.2.2))]=some (Zej r):=by
 refine Za6 Zej ?_
 intro s0 rcl ih
 show Z5 _ _ (lpW _ _ _ _ _ _ _)
 unfold Zbu
 rw[Za7]
 conv=>arg 3; whnf
 refine Zg rfl ?_ ?_
 ·conv=>arg 3; whnf
  refine Zj rfl rfl fun x1 hx1=>?_
  conv=>arg 3; whnf
  refine Zf (Zl rfl hx1) ?_
  conv=>arg 3; whnf
  refine Zj rfl rfl fun x2 hx2=>?_
  conv=>arg 3; whnf
  refine Zf (Zl rfl hx2) ?_
  conv=>arg 3; whnf
  refine Zf (ZaE rfl hx2) ?_
  conv=>arg 3; whnf
  refine Zf (Zl rfl hx2) ?_
  conv=>arg 3; whnf
  refine Zo (Z3 Ze s0.2.2 s0.1.toNat x1) ?_
  conv=>arg 3; whnf
  refine Zj rfl rfl fun x3 hx3=>?_
  conv=>arg 3; whnf
  refine Zf (Zl rfl hx3) ?_
  conv=>arg 3; whnf
  refine Zo (Z3 Ze (List.set s0.2.2 s0.1.toNat x1) s0.2.1.toNat x2) ?_
  conv=>arg 3; whnf
  exact Zd (ih _)
 ·conv=>arg 3; whnf
  exact Zh rfl
theorem Zb7 {b:Int} {c:Int} {m0_0:(List Int)}:∀r,(ZaA b c m0_0)=some r→evW ctx 156 [(.sl 0 1),(.d (Ze b)),(.d (Ze c))] [(.arr 1 (List.map Ze m0_0))]=some ((Ze5 b c m0_0) r):=by
 show Z5 _ (fun r rhs=>rhs=some ((Ze5 b c m0_0) r)) _
 unfold ZaA
 rw[Zei ctx 156 Zxb _ _ rfl rfl]
 conv=>arg 3; whnf
 refine Zc _ (ZgC _) fun r4 hr4=>?_
 conv=>arg 3; whnf
 exact Zh rfl
def ZdB (b:Int) (c:Int) (m0_0:(List Int)):((List Int)⊕(List Int))→V×Zn
  | (.inl r)=>((.d (D.bool true)),[(.arr 1 (List.map Ze r))])
  | (.inr r)=>((.d (D.bool false)),[(.arr 1 (List.map Ze r))])
def Zdm (b:Int) (c:Int) (s0:Int×Int×(List Int)):Int→Ex×List V×Zn
  | r=>(.exit 2,[(.sl 0 1),(.d (Ze b)),(.d (Ze c)),(.d (Ze r)),(.d (Ze s0.2.1))],[(.arr 1 (List.map Ze s0.2.2))])
theorem ZfG {b:Int} {c:Int} {s0:Int×Int×(List Int)}:∀(s1:Int) (r:Int),lp (ZaU c s0) s1=some r→lpW ctx 1 [0,1,2,7,8] [0,1,2,7,8] ZtN [(.sl 0 1),(.d (Ze b)),(.d (Ze c)),(.d (Ze s1)),(.d (Ze s0.2.1))] [(.arr 1 (List.map Ze s0.2.2))]=some ((Zdm b c s0) r):=by
 refine Za6 (Zdm b c s0) ?_
 intro s1 rcl ih
 show Z5 _ _ (lpW _ _ _ _ _ _ _)
 unfold ZaU
 rw[Za7]
 conv=>arg 3; whnf
 refine Zg rfl ?_ ?_
 ·conv=>arg 3; whnf
  refine Zj rfl rfl fun x2 hx2=>?_
  conv=>arg 3; whnf
  refine Zf (Zl rfl hx2) ?_
  conv=>arg 3; whnf
  refine Zj rfl rfl fun x3 hx3=>?_
  conv=>arg 3; whnf
  refine Zf (Zl rfl hx3) ?_
  conv=>arg 3; whnf
  refine Zp _ ZZ rfl fun x4 hx4=>?_
  conv=>arg 3; whnf
  refine Zg rfl ?_ ?_
  ·conv=>arg 3; whnf
   exact Zh rfl
  ·conv=>arg 3; whnf
   exact Zd (ih _)
 ·conv=>arg 3; whnf
  exact Zh rfl
def Zdl (b:Int) (c:Int) (s0:Int×Int×(List Int)) (r5:Int):(List Int)→Ex×List V×Zn
  | r=>(.exit 4,[(.sl 0 1),(.d (Ze b)),(.d (Ze c)),(.d (Ze r5)),(.d (Ze s0.2.1))],[(.arr 1 (List.map Ze r))])
theorem ZfH {b:Int} {c:Int} {s0:Int×Int×(List Int)} {r5:Int}:∀(s9:Int×(List Int)) (r:(List Int)),lp (ZaR) s9=some r→lpW ctx 1 [0,1,2,7,8,9] [0,1,2,7,8] Zuw [(.sl 0 1),(.d (Ze b)),(.d (Ze c)),(.d (Ze r5)),(.d (Ze s0.2.1)),(.d (Ze s9.1))] [(.arr 1 (List.map Ze s9.2))]=some ((Zdl b c s0 r5) r):=by
 refine Za6 (Zdl b c s0 r5) ?_
 intro s9 rcl ih
 show Z5 _ _ (lpW _ _ _ _ _ _ _)
 unfold ZaR
 rw[Za7]
 conv=>arg 3; whnf
 refine Zg rfl ?_ ?_
 ·conv=>arg 3; whnf
  refine Zj rfl rfl fun x10 hx10=>?_
  conv=>arg 3; whnf
  refine Zf (Zl rfl hx10) ?_
  conv=>arg 3; whnf
  refine Zj rfl rfl fun x11 hx11=>?_
  conv=>arg 3; whnf
  refine Zf (Zl rfl hx11) ?_
  conv=>arg 3; whnf
  refine Zp _ ZZ rfl fun x12 hx12=>?_
  conv=>arg 3; whnf
  refine Zg rfl ?_ ?_
  ·conv=>arg 3; whnf
   refine Zf (ZaE rfl hx11) ?_
   conv=>arg 3; whnf
   refine Zf (Zl rfl hx11) ?_
   conv=>arg 3; whnf
   refine Zf (ZaE rfl hx10) ?_
   conv=>arg 3; whnf
   refine Zf (Zl rfl hx10) ?_
   conv=>arg 3; whnf
   refine Zf (ZaE rfl hx10) ?_
   conv=>arg 3; whnf
   refine Zf (Zl rfl hx10) ?_
   conv=>arg 3; whnf
   refine Zo (Z3 Ze s9.2 s9.1.toNat x11) ?_
   conv=>arg 3; whnf
   refine Zj rfl rfl fun x13 hx13=>?_
   conv=>arg 3; whnf
   refine Zf (Zl rfl hx13) ?_
   conv=>arg 3; whnf
   refine Zo (Z3 Ze (List.set s9.2 s9.1.toNat x11) (w64 (s9.1-1)).toNat x10) ?_
   conv=>arg 3; whnf
   exact Zd (ih _)
  ·conv=>arg 3; whnf
   exact Zh rfl
 ·conv=>arg 3; whnf
  exact Zh rfl
def Zdj (b:Int) (c:Int) (s0:Int×Int×(List Int)) (r5:Int):(List Int)→Ex×List V×Zn
  | r=>(.exit 6,[(.sl 0 1),(.d (Ze b)),(.d (Ze c)),(.d (Ze r5)),(.d (Ze s0.2.1))],[(.arr 1 (List.map Ze r))])
theorem Zda {b:Int} {c:Int} {s0:Int×Int×(List Int)} {r5:Int}:∀(s15:Int×(List Int)) (r:(List Int)),lp (Zan c) s15=some r→lpW ctx 1 [0,1,2,7,8,10] [0,1,2,7,8] Zt0 [(.sl 0 1),(.d (Ze b)),(.d (Ze c)),(.d (Ze r5)),(.d (Ze s0.2.1)),(.d (Ze s15.1))] [(.arr 1 (List.map Ze s15.2))]=some ((Zdj b c s0 r5) r):=by
 refine Za6 (Zdj b c s0 r5) ?_
 intro s15 rcl ih
 show Z5 _ _ (lpW _ _ _ _ _ _ _)
 unfold Zan
 rw[Za7]
 conv=>arg 3; whnf
 refine Zg rfl ?_ ?_
 ·conv=>arg 3; whnf
  refine Zj rfl rfl fun x16 hx16=>?_
  conv=>arg 3; whnf
  refine Zf (Zl rfl hx16) ?_
  conv=>arg 3; whnf
  refine Zj rfl rfl fun x17 hx17=>?_
  conv=>arg 3; whnf
  refine Zf (Zl rfl hx17) ?_
  conv=>arg 3; whnf
  refine Zp _ ZZ rfl fun x18 hx18=>?_
  conv=>arg 3; whnf
  refine Zg rfl ?_ ?_
  ·conv=>arg 3; whnf
   refine Zf (ZaE rfl hx17) ?_
   conv=>arg 3; whnf
   refine Zf (Zl rfl hx17) ?_
   conv=>arg 3; whnf
   refine Zf (ZaE rfl hx16) ?_
   conv=>arg 3; whnf
   refine Zf (Zl rfl hx16) ?_
   conv=>arg 3; whnf
   refine Zf (ZaE rfl hx16) ?_
   conv=>arg 3; whnf
   refine Zf (Zl rfl hx16) ?_
   conv=>arg 3; whnf
   refine Zo (Z3 Ze s15.2 s15.1.toNat x17) ?_
   conv=>arg 3; whnf
   refine Zj rfl rfl fun x19 hx19=>?_
   conv=>arg 3; whnf
   refine Zf (Zl rfl hx19) ?_
   conv=>arg 3; whnf
   refine Zo (Z3 Ze (List.set s15.2 s15.1.toNat x17) (w64 (s15.1-1)).toNat x16) ?_
   conv=>arg 3; whnf
   exact Zd (ih _)
  ·conv=>arg 3; whnf
   exact Zh rfl
 ·conv=>arg 3; whnf
  exact Zh rfl
def Zdk (b:Int) (c:Int):((List Int)⊕((List Int)⊕(List Int)))→Ex×List V×Zn
  | (.inl r)=>(.ret,[(.d (D.bool true))],[(.arr 1 (List.map Ze r))])
  | (.inr (.inl r))=>(.ret,[(.d (D.bool false))],[(.arr 1 (List.map Ze r))])
  | (.inr (.inr r))=>(.exit 0,[.bad],[(.arr 1 (List.map Ze r))])
theorem Zfz {b:Int} {c:Int}:∀(s0:Int×Int×(List Int)) (r:((List Int)⊕((List Int)⊕(List Int)))),lp (ZaT b c) s0=some r→lpW ctx 1 [0,1,2,7,8] [6] Ztn [(.sl 0 1),(.d (Ze b)),(.d (Ze c)),(.d (Ze s0.1)),(.d (Ze s0.2.1))] [(.arr 1 (List.map Ze s0.2.2))]=some ((Zdk b c) r):=by
 refine Za6 (Zdk b c) ?_
 intro s0 rcl ih
 show Z5 _ _ (lpW _ _ _ _ _ _ _)
 unfold ZaT
 rw[Za7]
 conv=>arg 3; whnf
 refine Zg rfl ?_ ?_
 ·conv=>arg 3; whnf
  refine Zc _ (ZfG _) fun r5 hr5=>?_
  conv=>arg 3; whnf
  refine Zg rfl ?_ ?_
  ·conv=>arg 3; whnf
   exact Zh rfl
  ·conv=>arg 3; whnf
   refine Zg rfl ?_ ?_
   ·conv=>arg 3; whnf
    exact Zh rfl
   ·conv=>arg 3; whnf
    refine Zj rfl rfl fun x6 hx6=>?_
    conv=>arg 3; whnf
    refine Zf (Zl rfl hx6) ?_
    conv=>arg 3; whnf
    refine Zj rfl rfl fun x7 hx7=>?_
    conv=>arg 3; whnf
    refine Zf (Zl rfl hx7) ?_
    conv=>arg 3; whnf
    refine Zf (ZaE rfl hx7) ?_
    conv=>arg 3; whnf
    refine Zf (Zl rfl hx7) ?_
    conv=>arg 3; whnf
    refine Zo (Z3 Ze s0.2.2 r5.toNat x6) ?_
    conv=>arg 3; whnf
    refine Zj rfl rfl fun x8 hx8=>?_
    conv=>arg 3; whnf
    refine Zf (Zl rfl hx8) ?_
    conv=>arg 3; whnf
    refine Zo (Z3 Ze (List.set s0.2.2 r5.toNat x6) (w64 (r5-1)).toNat x7) ?_
    conv=>arg 3; whnf
    refine Zg rfl ?_ ?_
    ·conv=>arg 3; whnf
     refine Zc _ (ZfH _) fun r14 hr14=>?_
     conv=>arg 3; whnf
     refine Zg rfl ?_ ?_
     ·conv=>arg 3; whnf
      refine Zc _ (Zda _) fun r20 hr20=>?_
      conv=>arg 3; whnf
      exact Zd (ih _)
     ·conv=>arg 3; whnf
      exact Zd (ih _)
    ·conv=>arg 3; whnf
     refine Zg rfl ?_ ?_
     ·conv=>arg 3; whnf
      refine Zc _ (Zda _) fun r26 hr26=>?_
      conv=>arg 3; whnf
      exact Zd (ih _)
     ·conv=>arg 3; whnf
      exact Zd (ih _)
 ·conv=>arg 3; whnf
  exact Zh rfl
theorem Zdw {b:Int} {c:Int} {m0_0:(List Int)}:∀r,(ZaF b c m0_0)=some r→evW ctx 157 [(.sl 0 1),(.d (Ze b)),(.d (Ze c))] [(.arr 1 (List.map Ze m0_0))]=some ((ZdB b c m0_0) r):=by
 show Z5 _ (fun r rhs=>rhs=some ((ZdB b c m0_0) r)) _
 unfold ZaF
 rw[Zei ctx 157 Zxw _ _ rfl rfl]
 conv=>arg 3; whnf
 refine Zc _ (Zfz _) fun r27 hr27=>?_
 clear hr27
 rcases r27 with r27 | (r27 | r27)
 ·conv=>arg 3; whnf
  exact Zh rfl
 ·conv=>arg 3; whnf
  exact Zh rfl
 ·conv=>arg 3; whnf
  exact Zh rfl
def ZfK (b:Int) (c:Int) (d:Int) (m0_0:(List Int)):((Int×(List Int))⊕(Int×(List Int)))→V×Zn
  | (.inl r)=>((.d (D.tup [(Ze r.1),(D.bool true)])),[(.arr 1 (List.map Ze r.2))])
  | (.inr r)=>((.d (D.tup [(Ze r.1),(D.bool false)])),[(.arr 1 (List.map Ze r.2))])
def Ze3 (b:Int) (c:Int) (d:Int) (m0_0:(List Int)) (x0:Int) (x1:Int):Int→Ex×List V×Zn
  | r=>(.exit 0,[(.sl 0 1),(.d (Ze b)),(.d (Ze r)),(.d (Ze (w64 (c-1))))],[(.arr 1 (List.map Ze (List.set (List.set m0_0 b.toNat x0) d.toNat x1)))])
theorem Zg3 {b:Int} {c:Int} {d:Int} {m0_0:(List Int)} {x0:Int} {x1:Int}:∀(s3:Int) (r:Int),lp (ZbN b c d m0_0 x0 x1) s3=some r→lpW ctx 1 [0,1,10,11] [0,1,10,11] ZtW [(.sl 0 1),(.d (Ze b)),(.d (Ze s3)),(.d (Ze (w64 (c-1))))] [(.arr 1 (List.map Ze (List.set (List.set m0_0 b.toNat x0) d.toNat x1)))]=some ((Ze3 b c d m0_0 x0 x1) r):=by
 refine Za6 (Ze3 b c d m0_0 x0 x1) ?_
 intro s3 rcl ih
 show Z5 _ _ (lpW _ _ _ _ _ _ _)
 unfold ZbN
 rw[Za7]
 conv=>arg 3; whnf
 refine Zg rfl ?_ ?_
 ·conv=>arg 3; whnf
  refine Zj rfl rfl fun x4 hx4=>?_
  conv=>arg 3; whnf
  refine Zf (Zl rfl hx4) ?_
  conv=>arg 3; whnf
  refine Zj rfl rfl fun x5 hx5=>?_
  conv=>arg 3; whnf
  refine Zf (Zl rfl hx5) ?_
  conv=>arg 3; whnf
  refine Zp _ ZZ rfl fun x6 hx6=>?_
  conv=>arg 3; whnf
  refine Zg rfl ?_ ?_
  ·conv=>arg 3; whnf
   exact Zd (ih _)
  ·conv=>arg 3; whnf
   exact Zh rfl
 ·conv=>arg 3; whnf
  exact Zh rfl
def Ze4 (b:Int) (d:Int) (m0_0:(List Int)) (x0:Int) (x1:Int) (r7:Int):Int→Ex×List V×Zn
  | r=>(.exit 2,[(.sl 0 1),(.d (Ze b)),(.d (Ze r7)),(.d (Ze r))],[(.arr 1 (List.map Ze (List.set (List.set m0_0 b.toNat x0) d.toNat x1)))])
theorem Zg9 {b:Int} {d:Int} {m0_0:(List Int)} {x0:Int} {x1:Int} {r7:Int}:∀(s8:Int) (r:Int),lp (ZbH b d m0_0 x0 x1 r7) s8=some r→lpW ctx 1 [0,1,10,11] [0,1,10,11] Zuk [(.sl 0 1),(.d (Ze b)),(.d (Ze r7)),(.d (Ze s8))] [(.arr 1 (List.map Ze (List.set (List.set m0_0 b.toNat x0) d.toNat x1)))]=some ((Ze4 b d m0_0 x0 x1 r7) r):=by
 refine Za6 (Ze4 b d m0_0 x0 x1 r7) ?_
 intro s8 rcl ih
 show Z5 _ _ (lpW _ _ _ _ _ _ _)
 unfold ZbH
 rw[Za7]
 conv=>arg 3; whnf
 refine Zg rfl ?_ ?_
 ·conv=>arg 3; whnf
  refine Zj rfl rfl fun x9 hx9=>?_
  conv=>arg 3; whnf
  refine Zf (Zl rfl hx9) ?_
  conv=>arg 3; whnf
  refine Zj rfl rfl fun x10 hx10=>?_
  conv=>arg 3; whnf
  refine Zf (Zl rfl hx10) ?_
  conv=>arg 3; whnf
  refine Zp _ ZZ rfl fun x11 hx11=>?_
  conv=>arg 3; whnf
  refine Zg rfl ?_ ?_
  ·conv=>arg 3; whnf
   exact Zh rfl
  ·conv=>arg 3; whnf
   exact Zd (ih _)
 ·conv=>arg 3; whnf
  exact Zh rfl
def Ze0 (b:Int) (s19:Int×Int×(List Int)):Int→Ex×List V×Zn
  | r=>(.exit 6,[(.sl 0 1),(.d (Ze b)),(.d (Ze r)),(.d (Ze s19.2.1))],[(.arr 1 (List.map Ze s19.2.2))])
theorem Zg7 {b:Int} {s19:Int×Int×(List Int)}:∀(s20:Int) (r:Int),lp (ZbI b s19) s20=some r→lpW ctx 1 [0,1,10,11] [0,1,10,11] ZtT [(.sl 0 1),(.d (Ze b)),(.d (Ze s20)),(.d (Ze s19.2.1))] [(.arr 1 (List.map Ze s19.2.2))]=some ((Ze0 b s19) r):=by
 refine Za6 (Ze0 b s19) ?_
 intro s20 rcl ih
 show Z5 _ _ (lpW _ _ _ _ _ _ _)
 unfold ZbI
 rw[Za7]
 conv=>arg 3; whnf
 refine Zg rfl ?_ ?_
 ·conv=>arg 3; whnf
  refine Zj rfl rfl fun x21 hx21=>?_
  conv=>arg 3; whnf
  refine Zf (Zl rfl hx21) ?_
  conv=>arg 3; whnf
  refine Zj rfl rfl fun x22 hx22=>?_
  conv=>arg 3; whnf
  refine Zf (Zl rfl hx22) ?_
  conv=>arg 3; whnf
  refine Zp _ ZZ rfl fun x23 hx23=>?_
  conv=>arg 3; whnf
  refine Zg rfl ?_ ?_
  ·conv=>arg 3; whnf
   exact Zd (ih _)
  ·conv=>arg 3; whnf
   exact Zh rfl
 ·conv=>arg 3; whnf
  exact Zh rfl
def ZeX (b:Int) (s19:Int×Int×(List Int)) (r24:Int):Int→Ex×List V×Zn
  | r=>(.exit 8,[(.sl 0 1),(.d (Ze b)),(.d (Ze r24)),(.d (Ze r))],[(.arr 1 (List.map Ze s19.2.2))])
theorem Zg8 {b:Int} {s19:Int×Int×(List Int)} {r24:Int}:∀(s25:Int) (r:Int),lp (ZbK b s19 r24) s25=some r→lpW ctx 1 [0,1,10,11] [0,1,10,11] Zuj [(.sl 0 1),(.d (Ze b)),(.d (Ze r24)),(.d (Ze s25))] [(.arr 1 (List.map Ze s19.2.2))]=some ((ZeX b s19 r24) r):=by
 refine Za6 (ZeX b s19 r24) ?_
 intro s25 rcl ih
 show Z5 _ _ (lpW _ _ _ _ _ _ _)
 unfold ZbK
 rw[Za7]
 conv=>arg 3; whnf
 refine Zg rfl ?_ ?_
 ·conv=>arg 3; whnf
  refine Zj rfl rfl fun x26 hx26=>?_
  conv=>arg 3; whnf
  refine Zf (Zl rfl hx26) ?_
  conv=>arg 3; whnf
  refine Zj rfl rfl fun x27 hx27=>?_
  conv=>arg 3; whnf
  refine Zf (Zl rfl hx27) ?_
  conv=>arg 3; whnf
  refine Zp _ ZZ rfl fun x28 hx28=>?_
  conv=>arg 3; whnf
  refine Zg rfl ?_ ?_
  ·conv=>arg 3; whnf
   exact Zh rfl
  ·conv=>arg 3; whnf
   exact Zd (ih _)
 ·conv=>arg 3; whnf
  exact Zh rfl
def Ze1 (b:Int):(Int×(List Int))→Ex×List V×Zn
  | r=>(.exit 4,[(.sl 0 1),(.d (Ze b)),(.d (Ze r.1))],[(.arr 1 (List.map Ze r.2))])
theorem Zha {b:Int}:∀(s19:Int×Int×(List Int)) (r:(Int×(List Int))),lp (ZbL b) s19=some r→lpW ctx 1 [0,1,10,11] [0,1,11] ZtX [(.sl 0 1),(.d (Ze b)),(.d (Ze s19.1)),(.d (Ze s19.2.1))] [(.arr 1 (List.map Ze s19.2.2))]=some ((Ze1 b) r):=by
 refine Za6 (Ze1 b) ?_
 intro s19 rcl ih
 show Z5 _ _ (lpW _ _ _ _ _ _ _)
 unfold ZbL
 rw[Za7]
 conv=>arg 3; whnf
 refine Zc _ (Zg7 _) fun r24 hr24=>?_
 conv=>arg 3; whnf
 refine Zc _ (Zg8 _) fun r29 hr29=>?_
 conv=>arg 3; whnf
 refine Zg rfl ?_ ?_
 ·conv=>arg 3; whnf
  exact Zh rfl
 ·conv=>arg 3; whnf
  refine Zj rfl rfl fun x30 hx30=>?_
  conv=>arg 3; whnf
  refine Zf (Zl rfl hx30) ?_
  conv=>arg 3; whnf
  refine Zj rfl rfl fun x31 hx31=>?_
  conv=>arg 3; whnf
  refine Zf (Zl rfl hx31) ?_
  conv=>arg 3; whnf
  refine Zf (ZaE rfl hx31) ?_
  conv=>arg 3; whnf
  refine Zf (Zl rfl hx31) ?_
  conv=>arg 3; whnf
  refine Zo (Z3 Ze s19.2.2 r24.toNat x30) ?_
  conv=>arg 3; whnf
  refine Zj rfl rfl fun x32 hx32=>?_
  conv=>arg 3; whnf
  refine Zf (Zl rfl hx32) ?_
  conv=>arg 3; whnf
  refine Zo (Z3 Ze (List.set s19.2.2 r24.toNat x30) r29.toNat x31) ?_
  conv=>arg 3; whnf
  exact Zd (ih _)
theorem Zy {b:Int} {c:Int} {d:Int} {m0_0:(List Int)}:∀r,(Zv b c d m0_0)=some r→evW ctx 160 [(.sl 0 1),(.d (Ze b)),(.d (Ze c)),(.d (Ze d))] [(.arr 1 (List.map Ze m0_0))]=some ((ZfK b c d m0_0) r):=by
 show Z5 _ (fun r rhs=>rhs=some ((ZfK b c d m0_0) r)) _
 unfold Zv
 rw[Zei ctx 160 Zw8 _ _ rfl rfl]
 conv=>arg 3; whnf
 refine Zj rfl rfl fun x0 hx0=>?_
 conv=>arg 3; whnf
 refine Zf (Zl rfl hx0) ?_
 conv=>arg 3; whnf
 refine Zj rfl rfl fun x1 hx1=>?_
 conv=>arg 3; whnf
 refine Zf (Zl rfl hx1) ?_
 conv=>arg 3; whnf
 refine Zf (ZaE rfl hx1) ?_
 conv=>arg 3; whnf
 refine Zf (Zl rfl hx1) ?_
 conv=>arg 3; whnf
 refine Zo (Z3 Ze m0_0 b.toNat x0) ?_
 conv=>arg 3; whnf
 refine Zj rfl rfl fun x2 hx2=>?_
 conv=>arg 3; whnf
 refine Zf (Zl rfl hx2) ?_
 conv=>arg 3; whnf
 refine Zo (Z3 Ze (List.set m0_0 b.toNat x0) d.toNat x1) ?_
 conv=>arg 3; whnf
 refine Zc _ (Zg3 _) fun r7 hr7=>?_
 conv=>arg 3; whnf
 refine Zc _ (Zg9 _) fun r12 hr12=>?_
 conv=>arg 3; whnf
 refine Zg rfl ?_ ?_
 ·conv=>arg 3; whnf
  refine Zj rfl rfl fun x13 hx13=>?_
  conv=>arg 3; whnf
  refine Zf (Zl rfl hx13) ?_
  conv=>arg 3; whnf
  refine Zj rfl rfl fun x14 hx14=>?_
  conv=>arg 3; whnf
  refine Zf (Zl rfl hx14) ?_
  conv=>arg 3; whnf
  refine Zf (ZaE rfl hx14) ?_
  conv=>arg 3; whnf
  refine Zf (Zl rfl hx14) ?_
  conv=>arg 3; whnf
  refine Zo (Z3 Ze (List.set (List.set m0_0 b.toNat x0) d.toNat x1) r12.toNat x13) ?_
  conv=>arg 3; whnf
  refine Zj rfl rfl fun x15 hx15=>?_
  conv=>arg 3; whnf
  refine Zf (Zl rfl hx15) ?_
  conv=>arg 3; whnf
  refine Zo (Z3 Ze (List.set (List.set (List.set m0_0 b.toNat x0) d.toNat x1) r12.toNat x13) b.toNat x14) ?_
  conv=>arg 3; whnf
  exact Zh rfl
 ·conv=>arg 3; whnf
  refine Zj rfl rfl fun x16 hx16=>?_
  conv=>arg 3; whnf
  refine Zf (Zl rfl hx16) ?_
  conv=>arg 3; whnf
  refine Zj rfl rfl fun x17 hx17=>?_
  conv=>arg 3; whnf
  refine Zf (Zl rfl hx17) ?_
  conv=>arg 3; whnf
  refine Zf (ZaE rfl hx17) ?_
  conv=>arg 3; whnf
  refine Zf (Zl rfl hx17) ?_
  conv=>arg 3; whnf
  refine Zo (Z3 Ze (List.set (List.set m0_0 b.toNat x0) d.toNat x1) r7.toNat x16) ?_
  conv=>arg 3; whnf
  refine Zj rfl rfl fun x18 hx18=>?_
  conv=>arg 3; whnf
  refine Zf (Zl rfl hx18) ?_
  conv=>arg 3; whnf
  refine Zo (Z3 Ze (List.set (List.set (List.set m0_0 b.toNat x0) d.toNat x1) r7.toNat x16) r12.toNat x17) ?_
  conv=>arg 3; whnf
  refine Zc _ (Zha _) fun r33 hr33=>?_
  conv=>arg 3; whnf
  refine Zj rfl rfl fun x34 hx34=>?_
  conv=>arg 3; whnf
  refine Zf (Zl rfl hx34) ?_
  conv=>arg 3; whnf
  refine Zj rfl rfl fun x35 hx35=>?_
  conv=>arg 3; whnf
  refine Zf (Zl rfl hx35) ?_
  conv=>arg 3; whnf
  refine Zf (ZaE rfl hx35) ?_
  conv=>arg 3; whnf
  refine Zf (Zl rfl hx35) ?_
  conv=>arg 3; whnf
  refine Zo (Z3 Ze r33.2 r33.1.toNat x34) ?_
  conv=>arg 3; whnf
  refine Zj rfl rfl fun x36 hx36=>?_
  conv=>arg 3; whnf
  refine Zf (Zl rfl hx36) ?_
  conv=>arg 3; whnf
  refine Zo (Z3 Ze (List.set r33.2 r33.1.toNat x34) b.toNat x35) ?_
  conv=>arg 3; whnf
  exact Zh rfl
def ZeA (b:Int) (c:Int) (d:Int) (m0_0:(List Int)):(Int×(List Int))→V×Zn
  | r=>((.d (Ze r.1)),[(.arr 1 (List.map Ze r.2))])
def ZdW (b:Int) (s3:Int×Int×(List Int)):Int→Ex×List V×Zn
  | r=>(.exit 2,[(.sl 0 1),(.d (Ze b)),(.d (Ze r)),(.d (Ze s3.2.1))],[(.arr 1 (List.map Ze s3.2.2))])
theorem Zgl {b:Int} {s3:Int×Int×(List Int)}:∀(s4:Int) (r:Int),lp (Zbh b s3) s4=some r→lpW ctx 1 [0,1,9,10] [0,1,9,10] Zto [(.sl 0 1),(.d (Ze b)),(.d (Ze s4)),(.d (Ze s3.2.1))] [(.arr 1 (List.map Ze s3.2.2))]=some ((ZdW b s3) r):=by
 refine Za6 (ZdW b s3) ?_
 intro s4 rcl ih
 show Z5 _ _ (lpW _ _ _ _ _ _ _)
 unfold Zbh
 rw[Za7]
 conv=>arg 3; whnf
 refine Zg rfl ?_ ?_
 ·conv=>arg 3; whnf
  refine Zj rfl rfl fun x5 hx5=>?_
  conv=>arg 3; whnf
  refine Zf (Zl rfl hx5) ?_
  conv=>arg 3; whnf
  refine Zj rfl rfl fun x6 hx6=>?_
  conv=>arg 3; whnf
  refine Zf (Zl rfl hx6) ?_
  conv=>arg 3; whnf
  refine Zp _ ZZ rfl fun x7 hx7=>?_
  conv=>arg 3; whnf
  refine Zg rfl ?_ ?_
  ·conv=>arg 3; whnf
   exact Zh rfl
  ·conv=>arg 3; whnf
   exact Zd (ih _)
 ·conv=>arg 3; whnf
  exact Zh rfl
def ZdV (b:Int) (s3:Int×Int×(List Int)) (r8:Int):Int→Ex×List V×Zn
  | r=>(.exit 4,[(.sl 0 1),(.d (Ze b)),(.d (Ze r8)),(.d (Ze r))],[(.arr 1 (List.map Ze s3.2.2))])
theorem Zgn {b:Int} {s3:Int×Int×(List Int)} {r8:Int}:∀(s9:Int) (r:Int),lp (Zbi b s3 r8) s9=some r→lpW ctx 1 [0,1,9,10] [0,1,9,10] Zt4 [(.sl 0 1),(.d (Ze b)),(.d (Ze r8)),(.d (Ze s9))] [(.arr 1 (List.map Ze s3.2.2))]=some ((ZdV b s3 r8) r):=by
 refine Za6 (ZdV b s3 r8) ?_
 intro s9 rcl ih
 show Z5 _ _ (lpW _ _ _ _ _ _ _)
 unfold Zbi
 rw[Za7]
 conv=>arg 3; whnf
 refine Zg rfl ?_ ?_
 ·conv=>arg 3; whnf
  refine Zj rfl rfl fun x10 hx10=>?_
  conv=>arg 3; whnf
  refine Zf (Zl rfl hx10) ?_
  conv=>arg 3; whnf
  refine Zj rfl rfl fun x11 hx11=>?_
  conv=>arg 3; whnf
  refine Zf (Zl rfl hx11) ?_
  conv=>arg 3; whnf
  refine Zp _ ZZ rfl fun x12 hx12=>?_
  conv=>arg 3; whnf
  refine Zg rfl ?_ ?_
  ·conv=>arg 3; whnf
   exact Zd (ih _)
  ·conv=>arg 3; whnf
   exact Zh rfl
 ·conv=>arg 3; whnf
  exact Zh rfl
def ZdX (b:Int):(Int×(List Int))→Ex×List V×Zn
  | r=>(.exit 0,[(.d (Ze r.1))],[(.arr 1 (List.map Ze r.2))])
theorem Zgk {b:Int}:∀(s3:Int×Int×(List Int)) (r:(Int×(List Int))),lp (Zbj b) s3=some r→lpW ctx 1 [0,1,9,10] [9] ZtV [(.sl 0 1),(.d (Ze b)),(.d (Ze s3.1)),(.d (Ze s3.2.1))] [(.arr 1 (List.map Ze s3.2.2))]=some ((ZdX b) r):=by
 refine Za6 (ZdX b) ?_
 intro s3 rcl ih
 show Z5 _ _ (lpW _ _ _ _ _ _ _)
 unfold Zbj
 rw[Za7]
 conv=>arg 3; whnf
 refine Zc _ (Zgl _) fun r8 hr8=>?_
 conv=>arg 3; whnf
 refine Zc _ (Zgn _) fun r13 hr13=>?_
 conv=>arg 3; whnf
 refine Zg rfl ?_ ?_
 ·conv=>arg 3; whnf
  exact Zh rfl
 ·conv=>arg 3; whnf
  refine Zj rfl rfl fun x14 hx14=>?_
  conv=>arg 3; whnf
  refine Zf (Zl rfl hx14) ?_
  conv=>arg 3; whnf
  refine Zj rfl rfl fun x15 hx15=>?_
  conv=>arg 3; whnf
  refine Zf (Zl rfl hx15) ?_
  conv=>arg 3; whnf
  refine Zf (ZaE rfl hx15) ?_
  conv=>arg 3; whnf
  refine Zf (Zl rfl hx15) ?_
  conv=>arg 3; whnf
  refine Zo (Z3 Ze s3.2.2 r8.toNat x14) ?_
  conv=>arg 3; whnf
  refine Zj rfl rfl fun x16 hx16=>?_
  conv=>arg 3; whnf
  refine Zf (Zl rfl hx16) ?_
  conv=>arg 3; whnf
  refine Zo (Z3 Ze (List.set s3.2.2 r8.toNat x14) r13.toNat x15) ?_
  conv=>arg 3; whnf
  exact Zd (ih _)
theorem Z6 {b:Int} {c:Int} {d:Int} {m0_0:(List Int)}:∀r,(ZL b c d m0_0)=some r→evW ctx 159 [(.sl 0 1),(.d (Ze b)),(.d (Ze c)),(.d (Ze d))] [(.arr 1 (List.map Ze m0_0))]=some ((ZeA b c d m0_0) r):=by
 show Z5 _ (fun r rhs=>rhs=some ((ZeA b c d m0_0) r)) _
 unfold ZL
 rw[Zei ctx 159 ZxG _ _ rfl rfl]
 conv=>arg 3; whnf
 refine Zj rfl rfl fun x0 hx0=>?_
 conv=>arg 3; whnf
 refine Zf (Zl rfl hx0) ?_
 conv=>arg 3; whnf
 refine Zj rfl rfl fun x1 hx1=>?_
 conv=>arg 3; whnf
 refine Zf (Zl rfl hx1) ?_
 conv=>arg 3; whnf
 refine Zf (ZaE rfl hx1) ?_
 conv=>arg 3; whnf
 refine Zf (Zl rfl hx1) ?_
 conv=>arg 3; whnf
 refine Zo (Z3 Ze m0_0 b.toNat x0) ?_
 conv=>arg 3; whnf
 refine Zj rfl rfl fun x2 hx2=>?_
 conv=>arg 3; whnf
 refine Zf (Zl rfl hx2) ?_
 conv=>arg 3; whnf
 refine Zo (Z3 Ze (List.set m0_0 b.toNat x0) d.toNat x1) ?_
 conv=>arg 3; whnf
 refine Zc _ (Zgk _) fun r17 hr17=>?_
 conv=>arg 3; whnf
 exact Zh rfl
def ZeK (b:Int) (c:Int) (m0_0:(List Int)):(List Int)→V×Zn
  | r=>((.d (D.tup [])),[(.arr 1 (List.map Ze r))])
def Zd1 (b:Int) (c:Int) (x0:Int):(List Int)→Ex×List V×Zn
  | r=>(.exit 0,[],[(.arr 1 (List.map Ze r))])
theorem Zgu {b:Int} {c:Int} {x0:Int}:∀(s1:Int×(List Int)×Int) (r:(List Int)),lp (Zbp b c x0) s1=some r→lpW ctx 1 [0,1,6,7,8,9] [] Zui [(.sl 0 1),(.d (Ze b)),(.d (Ze (w64 (c-b)))),(.ptr 1 0),(.d (D.int .u64 x0)),(.d (Ze s1.1))] [(.arr 1 (List.map Ze s1.2.1)),(.cells [(.d (D.int .u64 s1.2.2))])]=some ((Zd1 b c x0) r):=by
 refine Za6 (Zd1 b c x0) ?_
 intro s1 rcl ih
 show Z5 _ _ (lpW _ _ _ _ _ _ _)
 unfold Zbp
 rw[Za7]
 conv=>arg 3; whnf
 refine ZQ rfl ?_
 conv=>arg 3; whnf
 refine Zg rfl ?_ ?_
 ·conv=>arg 3; whnf
  refine Zc _ ZgZ fun x2 hx2=>?_
  conv=>arg 3; whnf
  refine Zg rfl ?_ ?_
  ·conv=>arg 3; whnf
   refine Zj rfl rfl fun x3 hx3=>?_
   conv=>arg 3; whnf
   refine Zf (Zl rfl hx3) ?_
   conv=>arg 3; whnf
   refine Zj rfl rfl fun x4 hx4=>?_
   conv=>arg 3; whnf
   refine Zf (Zl rfl hx4) ?_
   conv=>arg 3; whnf
   refine Zf (ZaE rfl hx4) ?_
   conv=>arg 3; whnf
   refine Zf (Zl rfl hx4) ?_
   conv=>arg 3; whnf
   refine Zo (Z3 Ze s1.2.1 s1.1.toNat x3) ?_
   conv=>arg 3; whnf
   refine Zj rfl rfl fun x5 hx5=>?_
   conv=>arg 3; whnf
   refine Zf (Zl rfl hx5) ?_
   conv=>arg 3; whnf
   refine Zo (Z3 Ze (List.set s1.2.1 s1.1.toNat x3) (w64 (b+(w64 ((w64 (IntKind.u64.wrap (BitVec.ofInt IntKind.u64.bits (IntKind.u64.wrap (BitVec.ofInt IntKind.u64.bits (IntKind.u64.wrap (BitVec.ofInt IntKind.u64.bits (IntKind.u64.wrap (BitVec.ofInt IntKind.u64.bits s1.2.2 ^^^ BitVec.ofInt IntKind.u64.bits (IntKind.u64.wrap (s1.2.2*2 ^ 13))).toNat) ^^^ BitVec.ofInt IntKind.u64.bits (Int.fdiv (IntKind.u64.wrap (BitVec.ofInt IntKind.u64.bits s1.2.2 ^^^ BitVec.ofInt IntKind.u64.bits (IntKind.u64.wrap (s1.2.2*2 ^ 13))).toNat) (2 ^ 7))).toNat) ^^^ BitVec.ofInt IntKind.u64.bits (IntKind.u64.wrap ((IntKind.u64.wrap (BitVec.ofInt IntKind.u64.bits (IntKind.u64.wrap (BitVec.ofInt IntKind.u64.bits s1.2.2 ^^^ BitVec.ofInt IntKind.u64.bits (IntKind.u64.wrap (s1.2.2*2 ^ 13))).toNat) ^^^ BitVec.ofInt IntKind.u64.bits (Int.fdiv (IntKind.u64.wrap (BitVec.ofInt IntKind.u64.bits s1.2.2 ^^^ BitVec.ofInt IntKind.u64.bits (IntKind.u64.wrap (s1.2.2*2 ^ 13))).toNat) (2 ^ 7))).toNat)*2 ^ 17))).toNat) &&& BitVec.ofInt IntKind.u64.bits (IntKind.u64.wrap (x0-1))).toNat))-(w64 (c-b)))))).toNat x4) ?_
   conv=>arg 3; whnf
   exact Zd (ih _)
  ·conv=>arg 3; whnf
   refine Zj rfl rfl fun x6 hx6=>?_
   conv=>arg 3; whnf
   refine Zf (Zl rfl hx6) ?_
   conv=>arg 3; whnf
   refine Zj rfl rfl fun x7 hx7=>?_
   conv=>arg 3; whnf
   refine Zf (Zl rfl hx7) ?_
   conv=>arg 3; whnf
   refine Zf (ZaE rfl hx7) ?_
   conv=>arg 3; whnf
   refine Zf (Zl rfl hx7) ?_
   conv=>arg 3; whnf
   refine Zo (Z3 Ze s1.2.1 s1.1.toNat x6) ?_
   conv=>arg 3; whnf
   refine Zj rfl rfl fun x8 hx8=>?_
   conv=>arg 3; whnf
   refine Zf (Zl rfl hx8) ?_
   conv=>arg 3; whnf
   refine Zo (Z3 Ze (List.set s1.2.1 s1.1.toNat x6) (w64 (b+(w64 (IntKind.u64.wrap (BitVec.ofInt IntKind.u64.bits (IntKind.u64.wrap (BitVec.ofInt IntKind.u64.bits (IntKind.u64.wrap (BitVec.ofInt IntKind.u64.bits (IntKind.u64.wrap (BitVec.ofInt IntKind.u64.bits s1.2.2 ^^^ BitVec.ofInt IntKind.u64.bits (IntKind.u64.wrap (s1.2.2*2 ^ 13))).toNat) ^^^ BitVec.ofInt IntKind.u64.bits (Int.fdiv (IntKind.u64.wrap (BitVec.ofInt IntKind.u64.bits s1.2.2 ^^^ BitVec.ofInt IntKind.u64.bits (IntKind.u64.wrap (s1.2.2*2 ^ 13))).toNat) (2 ^ 7))).toNat) ^^^ BitVec.ofInt IntKind.u64.bits (IntKind.u64.wrap ((IntKind.u64.wrap (BitVec.ofInt IntKind.u64.bits (IntKind.u64.wrap (BitVec.ofInt IntKind.u64.bits s1.2.2 ^^^ BitVec.ofInt IntKind.u64.bits (IntKind.u64.wrap (s1.2.2*2 ^ 13))).toNat) ^^^ BitVec.ofInt IntKind.u64.bits (Int.fdiv (IntKind.u64.wrap (BitVec.ofInt IntKind.u64.bits s1.2.2 ^^^ BitVec.ofInt IntKind.u64.bits (IntKind.u64.wrap (s1.2.2*2 ^ 13))).toNat) (2 ^ 7))).toNat)*2 ^ 17))).toNat) &&& BitVec.ofInt IntKind.u64.bits (IntKind.u64.wrap (x0-1))).toNat)))).toNat x7) ?_
   conv=>arg 3; whnf
   exact Zd (ih _)
 ·conv=>arg 3; whnf
  exact Zh rfl
theorem Zey {b:Int} {c:Int} {m0_0:(List Int)}:∀r,(Zbe b c m0_0)=some r→evW ctx 154 [(.sl 0 1),(.d (Ze b)),(.d (Ze c))] [(.arr 1 (List.map Ze m0_0))]=some ((ZeK b c m0_0) r):=by
 show Z5 _ (fun r rhs=>rhs=some ((ZeK b c m0_0) r)) _
 unfold Zbe
 rw[Zei ctx 154 Zvx _ _ rfl rfl]
 conv=>arg 3; whnf
 refine Zg rfl ?_ ?_
 ·conv=>arg 3; whnf
  refine Zp _ ZgB rfl fun x0 hx0=>?_
  conv=>arg 3; whnf
  refine ZQ rfl ?_
  conv=>arg 3; whnf
  refine Zc _ (Zgu _) fun r9 hr9=>?_
  conv=>arg 3; whnf
  exact Zh rfl
 ·conv=>arg 3; whnf
  exact Zh rfl
def Zb (b:Int) (c:Int) (d:Int) (m0_0:(List Int)):(List Int)→V×Zn
  | r=>((.d (D.tup [])),[(.arr 1 (List.map Ze r))])
def Zfn (rc:Int→Int→Int→(List Int)→Option (List Int)):(List Int)→Ex×List V×Zn
  | r=>(.ret,[],[(.arr 1 (List.map Ze r))])
theorem Zhz {rc:Int→Int→Int→(List Int)→Option (List Int)} (hrc:∀(b:Int) (c:Int) (d:Int) (m0_0:(List Int)) (r:(List Int)),rc b c d m0_0=some r→evW ctx 140 [(.sl 0 1),(.d (Ze b)),(.d (Ze c)),(.d (Ze d))] [(.arr 1 (List.map Ze m0_0))]=some ((Zb b c d m0_0) r)):∀(s0:Int×Int×Int×Bool×Bool×(List Int)) (r:(List Int)),lp (Zb5 rc) s0=some r→lpW ctx 1 [0,1,2,3,8,9] [] ZtP [(.sl 0 1),(.d (Ze s0.1)),(.d (Ze s0.2.1)),(.d (Ze s0.2.2.1)),(.d (D.bool s0.2.2.2.1)),(.d (D.bool s0.2.2.2.2.1))] [(.arr 1 (List.map Ze s0.2.2.2.2.2))]=some ((Zfn rc) r):=by
 refine Za6 (Zfn rc) ?_
 intro s0 rcl ih
 show Z5 _ _ (lpW _ _ _ _ _ _ _)
 unfold Zb5
 rw[Za7]
 rcases hb:s0.2.2.2.1 with _ | _
 ·refine ZnA ?_
  rcases hb:s0.2.2.2.2.1 with _ | _
  ·refine ZnA ?_
   conv=>arg 3; whnf
   refine Zg rfl ?_ ?_
   ·conv=>arg 3; whnf
    refine Zc _ Zb2 fun x170 hx170=>?_
    conv=>arg 3; whnf
    exact Zh rfl
   ·conv=>arg 3; whnf
    refine Zg rfl ?_ ?_
    ·conv=>arg 3; whnf
     refine Zc _ ZcB fun x171 hx171=>?_
     conv=>arg 3; whnf
     exact Zh rfl
    ·conv=>arg 3; whnf
     refine Zc _ Zey fun x172 hx172=>?_
     conv=>arg 3; whnf
     refine Zc _ Zca fun x173 hx173=>?_
     conv=>arg 3; whnf
     refine Zg rfl ?_ ?_
     ·conv=>arg 3; whnf
      refine Zc _ Zb7 fun x174 hx174=>?_
      conv=>arg 3; whnf
      refine Zg rfl ?_ ?_
      ·conv=>arg 3; whnf
       refine Zj rfl rfl fun x175 hx175=>?_
       conv=>arg 3; whnf
       refine Zf (Zl rfl hx175) ?_
       conv=>arg 3; whnf
       refine Zj rfl rfl fun x176 hx176=>?_
       conv=>arg 3; whnf
       refine Zf (Zl rfl hx176) ?_
       conv=>arg 3; whnf
       refine Zp _ ZZ rfl fun x177 hx177=>?_
       conv=>arg 3; whnf
       refine Zg rfl ?_ ?_
       ·conv=>arg 3; whnf
        refine Zc _ Zy fun x178 hx178=>?_
        clear hx178
        rcases x178 with x178 | x178
        ·conv=>arg 3; whnf
         refine ZbC rfl ?_
         conv=>arg 3; whnf
         refine ZQ rfl ?_
         conv=>arg 3; whnf
         refine Zg rfl ?_ ?_
         ·conv=>arg 3; whnf
          refine Zg rfl ?_ ?_
          ·conv=>arg 3; whnf
           refine Zc (Zb s0.1 x178.1 (w64 (s0.2.2.1-1)) x178.2) (hrc s0.1 x178.1 (w64 (s0.2.2.1-1)) x178.2) fun x179 hx179=>?_
           conv=>arg 3; whnf
           exact Zd (ih _)
          ·conv=>arg 3; whnf
           refine Zc (Zb s0.1 x178.1 (w64 (s0.2.2.1-1)) x178.2) (hrc s0.1 x178.1 (w64 (s0.2.2.1-1)) x178.2) fun x180 hx180=>?_
           conv=>arg 3; whnf
           exact Zd (ih _)
         ·conv=>arg 3; whnf
          refine Zg rfl ?_ ?_
          ·conv=>arg 3; whnf
           refine Zc (Zb (w64 (x178.1+1)) s0.2.1 (w64 (s0.2.2.1-1)) x178.2) (hrc (w64 (x178.1+1)) s0.2.1 (w64 (s0.2.2.1-1)) x178.2) fun x181 hx181=>?_
           conv=>arg 3; whnf
           exact Zd (ih _)
          ·conv=>arg 3; whnf
           refine Zc (Zb (w64 (x178.1+1)) s0.2.1 (w64 (s0.2.2.1-1)) x178.2) (hrc (w64 (x178.1+1)) s0.2.1 (w64 (s0.2.2.1-1)) x178.2) fun x182 hx182=>?_
           conv=>arg 3; whnf
           exact Zd (ih _)
        ·conv=>arg 3; whnf
         refine ZQ rfl ?_
         conv=>arg 3; whnf
         refine ZQ rfl ?_
         conv=>arg 3; whnf
         refine Zg rfl ?_ ?_
         ·conv=>arg 3; whnf
          refine Zg rfl ?_ ?_
          ·conv=>arg 3; whnf
           refine Zc (Zb s0.1 x178.1 (w64 (s0.2.2.1-1)) x178.2) (hrc s0.1 x178.1 (w64 (s0.2.2.1-1)) x178.2) fun x183 hx183=>?_
           conv=>arg 3; whnf
           exact Zd (ih _)
          ·conv=>arg 3; whnf
           refine Zc (Zb s0.1 x178.1 (w64 (s0.2.2.1-1)) x178.2) (hrc s0.1 x178.1 (w64 (s0.2.2.1-1)) x178.2) fun x184 hx184=>?_
           conv=>arg 3; whnf
           exact Zd (ih _)
         ·conv=>arg 3; whnf
          refine Zg rfl ?_ ?_
          ·conv=>arg 3; whnf
           refine Zc (Zb (w64 (x178.1+1)) s0.2.1 (w64 (s0.2.2.1-1)) x178.2) (hrc (w64 (x178.1+1)) s0.2.1 (w64 (s0.2.2.1-1)) x178.2) fun x185 hx185=>?_
           conv=>arg 3; whnf
           exact Zd (ih _)
          ·conv=>arg 3; whnf
           refine Zc (Zb (w64 (x178.1+1)) s0.2.1 (w64 (s0.2.2.1-1)) x178.2) (hrc (w64 (x178.1+1)) s0.2.1 (w64 (s0.2.2.1-1)) x178.2) fun x186 hx186=>?_
           conv=>arg 3; whnf
           exact Zd (ih _)
       ·conv=>arg 3; whnf
        refine Zc _ Z6 fun x187 hx187=>?_
        conv=>arg 3; whnf
        exact Zd (ih _)
      ·conv=>arg 3; whnf
       refine Zc _ Zy fun x188 hx188=>?_
       clear hx188
       rcases x188 with x188 | x188
       ·conv=>arg 3; whnf
        refine ZbC rfl ?_
        conv=>arg 3; whnf
        refine ZQ rfl ?_
        conv=>arg 3; whnf
        refine Zg rfl ?_ ?_
        ·conv=>arg 3; whnf
         refine Zg rfl ?_ ?_
         ·conv=>arg 3; whnf
          refine Zc (Zb s0.1 x188.1 (w64 (s0.2.2.1-1)) x188.2) (hrc s0.1 x188.1 (w64 (s0.2.2.1-1)) x188.2) fun x189 hx189=>?_
          conv=>arg 3; whnf
          exact Zd (ih _)
         ·conv=>arg 3; whnf
          refine Zc (Zb s0.1 x188.1 (w64 (s0.2.2.1-1)) x188.2) (hrc s0.1 x188.1 (w64 (s0.2.2.1-1)) x188.2) fun x190 hx190=>?_
          conv=>arg 3; whnf
          exact Zd (ih _)
        ·conv=>arg 3; whnf
         refine Zg rfl ?_ ?_
         ·conv=>arg 3; whnf
          refine Zc (Zb (w64 (x188.1+1)) s0.2.1 (w64 (s0.2.2.1-1)) x188.2) (hrc (w64 (x188.1+1)) s0.2.1 (w64 (s0.2.2.1-1)) x188.2) fun x191 hx191=>?_
          conv=>arg 3; whnf
          exact Zd (ih _)
         ·conv=>arg 3; whnf
          refine Zc (Zb (w64 (x188.1+1)) s0.2.1 (w64 (s0.2.2.1-1)) x188.2) (hrc (w64 (x188.1+1)) s0.2.1 (w64 (s0.2.2.1-1)) x188.2) fun x192 hx192=>?_
          conv=>arg 3; whnf
          exact Zd (ih _)
       ·conv=>arg 3; whnf
        refine ZQ rfl ?_
        conv=>arg 3; whnf
        refine ZQ rfl ?_
        conv=>arg 3; whnf
        refine Zg rfl ?_ ?_
        ·conv=>arg 3; whnf
         refine Zg rfl ?_ ?_
         ·conv=>arg 3; whnf
          refine Zc (Zb s0.1 x188.1 (w64 (s0.2.2.1-1)) x188.2) (hrc s0.1 x188.1 (w64 (s0.2.2.1-1)) x188.2) fun x193 hx193=>?_
          conv=>arg 3; whnf
          exact Zd (ih _)
         ·conv=>arg 3; whnf
          refine Zc (Zb s0.1 x188.1 (w64 (s0.2.2.1-1)) x188.2) (hrc s0.1 x188.1 (w64 (s0.2.2.1-1)) x188.2) fun x194 hx194=>?_
          conv=>arg 3; whnf
          exact Zd (ih _)
        ·conv=>arg 3; whnf
         refine Zg rfl ?_ ?_
         ·conv=>arg 3; whnf
          refine Zc (Zb (w64 (x188.1+1)) s0.2.1 (w64 (s0.2.2.1-1)) x188.2) (hrc (w64 (x188.1+1)) s0.2.1 (w64 (s0.2.2.1-1)) x188.2) fun x195 hx195=>?_
          conv=>arg 3; whnf
          exact Zd (ih _)
         ·conv=>arg 3; whnf
          refine Zc (Zb (w64 (x188.1+1)) s0.2.1 (w64 (s0.2.2.1-1)) x188.2) (hrc (w64 (x188.1+1)) s0.2.1 (w64 (s0.2.2.1-1)) x188.2) fun x196 hx196=>?_
          conv=>arg 3; whnf
          exact Zd (ih _)
     ·conv=>arg 3; whnf
      refine Zg rfl ?_ ?_
      ·conv=>arg 3; whnf
       refine Zj rfl rfl fun x197 hx197=>?_
       conv=>arg 3; whnf
       refine Zf (Zl rfl hx197) ?_
       conv=>arg 3; whnf
       refine Zj rfl rfl fun x198 hx198=>?_
       conv=>arg 3; whnf
       refine Zf (Zl rfl hx198) ?_
       conv=>arg 3; whnf
       refine Zp _ ZZ rfl fun x199 hx199=>?_
       conv=>arg 3; whnf
       refine Zg rfl ?_ ?_
       ·conv=>arg 3; whnf
        refine Zc _ Zy fun x200 hx200=>?_
        clear hx200
        rcases x200 with x200 | x200
        ·conv=>arg 3; whnf
         refine ZbC rfl ?_
         conv=>arg 3; whnf
         refine ZQ rfl ?_
         conv=>arg 3; whnf
         refine Zg rfl ?_ ?_
         ·conv=>arg 3; whnf
          refine Zg rfl ?_ ?_
          ·conv=>arg 3; whnf
           refine Zc (Zb s0.1 x200.1 (w64 (s0.2.2.1-1)) x200.2) (hrc s0.1 x200.1 (w64 (s0.2.2.1-1)) x200.2) fun x201 hx201=>?_
           conv=>arg 3; whnf
           exact Zd (ih _)
          ·conv=>arg 3; whnf
           refine Zc (Zb s0.1 x200.1 (w64 (s0.2.2.1-1)) x200.2) (hrc s0.1 x200.1 (w64 (s0.2.2.1-1)) x200.2) fun x202 hx202=>?_
           conv=>arg 3; whnf
           exact Zd (ih _)
         ·conv=>arg 3; whnf
          refine Zg rfl ?_ ?_
          ·conv=>arg 3; whnf
           refine Zc (Zb (w64 (x200.1+1)) s0.2.1 (w64 (s0.2.2.1-1)) x200.2) (hrc (w64 (x200.1+1)) s0.2.1 (w64 (s0.2.2.1-1)) x200.2) fun x203 hx203=>?_
           conv=>arg 3; whnf
           exact Zd (ih _)
          ·conv=>arg 3; whnf
           refine Zc (Zb (w64 (x200.1+1)) s0.2.1 (w64 (s0.2.2.1-1)) x200.2) (hrc (w64 (x200.1+1)) s0.2.1 (w64 (s0.2.2.1-1)) x200.2) fun x204 hx204=>?_
           conv=>arg 3; whnf
           exact Zd (ih _)
        ·conv=>arg 3; whnf
         refine ZQ rfl ?_
         conv=>arg 3; whnf
         refine ZQ rfl ?_
         conv=>arg 3; whnf
         refine Zg rfl ?_ ?_
         ·conv=>arg 3; whnf
          refine Zg rfl ?_ ?_
          ·conv=>arg 3; whnf
           refine Zc (Zb s0.1 x200.1 (w64 (s0.2.2.1-1)) x200.2) (hrc s0.1 x200.1 (w64 (s0.2.2.1-1)) x200.2) fun x205 hx205=>?_
           conv=>arg 3; whnf
           exact Zd (ih _)
          ·conv=>arg 3; whnf
           refine Zc (Zb s0.1 x200.1 (w64 (s0.2.2.1-1)) x200.2) (hrc s0.1 x200.1 (w64 (s0.2.2.1-1)) x200.2) fun x206 hx206=>?_
           conv=>arg 3; whnf
           exact Zd (ih _)
         ·conv=>arg 3; whnf
          refine Zg rfl ?_ ?_
          ·conv=>arg 3; whnf
           refine Zc (Zb (w64 (x200.1+1)) s0.2.1 (w64 (s0.2.2.1-1)) x200.2) (hrc (w64 (x200.1+1)) s0.2.1 (w64 (s0.2.2.1-1)) x200.2) fun x207 hx207=>?_
           conv=>arg 3; whnf
           exact Zd (ih _)
          ·conv=>arg 3; whnf
           refine Zc (Zb (w64 (x200.1+1)) s0.2.1 (w64 (s0.2.2.1-1)) x200.2) (hrc (w64 (x200.1+1)) s0.2.1 (w64 (s0.2.2.1-1)) x200.2) fun x208 hx208=>?_
           conv=>arg 3; whnf
           exact Zd (ih _)
       ·conv=>arg 3; whnf
        refine Zc _ Z6 fun x209 hx209=>?_
        conv=>arg 3; whnf
        exact Zd (ih _)
      ·conv=>arg 3; whnf
       refine Zc _ Zy fun x210 hx210=>?_
       clear hx210
       rcases x210 with x210 | x210
       ·conv=>arg 3; whnf
        refine ZbC rfl ?_
        conv=>arg 3; whnf
        refine ZQ rfl ?_
        conv=>arg 3; whnf
        refine Zg rfl ?_ ?_
        ·conv=>arg 3; whnf
         refine Zg rfl ?_ ?_
         ·conv=>arg 3; whnf
          refine Zc (Zb s0.1 x210.1 (w64 (s0.2.2.1-1)) x210.2) (hrc s0.1 x210.1 (w64 (s0.2.2.1-1)) x210.2) fun x211 hx211=>?_
          conv=>arg 3; whnf
          exact Zd (ih _)
         ·conv=>arg 3; whnf
          refine Zc (Zb s0.1 x210.1 (w64 (s0.2.2.1-1)) x210.2) (hrc s0.1 x210.1 (w64 (s0.2.2.1-1)) x210.2) fun x212 hx212=>?_
          conv=>arg 3; whnf
          exact Zd (ih _)
        ·conv=>arg 3; whnf
         refine Zg rfl ?_ ?_
         ·conv=>arg 3; whnf
          refine Zc (Zb (w64 (x210.1+1)) s0.2.1 (w64 (s0.2.2.1-1)) x210.2) (hrc (w64 (x210.1+1)) s0.2.1 (w64 (s0.2.2.1-1)) x210.2) fun x213 hx213=>?_
          conv=>arg 3; whnf
          exact Zd (ih _)
         ·conv=>arg 3; whnf
          refine Zc (Zb (w64 (x210.1+1)) s0.2.1 (w64 (s0.2.2.1-1)) x210.2) (hrc (w64 (x210.1+1)) s0.2.1 (w64 (s0.2.2.1-1)) x210.2) fun x214 hx214=>?_
          conv=>arg 3; whnf
          exact Zd (ih _)
       ·conv=>arg 3; whnf
        refine ZQ rfl ?_
        conv=>arg 3; whnf
        refine ZQ rfl ?_
        conv=>arg 3; whnf
        refine Zg rfl ?_ ?_
        ·conv=>arg 3; whnf
         refine Zg rfl ?_ ?_
         ·conv=>arg 3; whnf
          refine Zc (Zb s0.1 x210.1 (w64 (s0.2.2.1-1)) x210.2) (hrc s0.1 x210.1 (w64 (s0.2.2.1-1)) x210.2) fun x215 hx215=>?_
          conv=>arg 3; whnf
          exact Zd (ih _)
         ·conv=>arg 3; whnf
          refine Zc (Zb s0.1 x210.1 (w64 (s0.2.2.1-1)) x210.2) (hrc s0.1 x210.1 (w64 (s0.2.2.1-1)) x210.2) fun x216 hx216=>?_
          conv=>arg 3; whnf
          exact Zd (ih _)
        ·conv=>arg 3; whnf
         refine Zg rfl ?_ ?_
         ·conv=>arg 3; whnf
          refine Zc (Zb (w64 (x210.1+1)) s0.2.1 (w64 (s0.2.2.1-1)) x210.2) (hrc (w64 (x210.1+1)) s0.2.1 (w64 (s0.2.2.1-1)) x210.2) fun x217 hx217=>?_
          conv=>arg 3; whnf
          exact Zd (ih _)
         ·conv=>arg 3; whnf
          refine Zc (Zb (w64 (x210.1+1)) s0.2.1 (w64 (s0.2.2.1-1)) x210.2) (hrc (w64 (x210.1+1)) s0.2.1 (w64 (s0.2.2.1-1)) x210.2) fun x218 hx218=>?_
          conv=>arg 3; whnf
          exact Zd (ih _)
  ·refine Znj ?_
   conv=>arg 3; whnf
   refine Zg rfl ?_ ?_
   ·conv=>arg 3; whnf
    refine Zc _ Zb2 fun x121 hx121=>?_
    conv=>arg 3; whnf
    exact Zh rfl
   ·conv=>arg 3; whnf
    refine Zg rfl ?_ ?_
    ·conv=>arg 3; whnf
     refine Zc _ ZcB fun x122 hx122=>?_
     conv=>arg 3; whnf
     exact Zh rfl
    ·conv=>arg 3; whnf
     refine Zc _ Zey fun x123 hx123=>?_
     conv=>arg 3; whnf
     refine Zc _ Zca fun x124 hx124=>?_
     conv=>arg 3; whnf
     refine Zg rfl ?_ ?_
     ·conv=>arg 3; whnf
      refine Zc _ Zb7 fun x125 hx125=>?_
      conv=>arg 3; whnf
      refine Zg rfl ?_ ?_
      ·conv=>arg 3; whnf
       refine Zj rfl rfl fun x126 hx126=>?_
       conv=>arg 3; whnf
       refine Zf (Zl rfl hx126) ?_
       conv=>arg 3; whnf
       refine Zj rfl rfl fun x127 hx127=>?_
       conv=>arg 3; whnf
       refine Zf (Zl rfl hx127) ?_
       conv=>arg 3; whnf
       refine Zp _ ZZ rfl fun x128 hx128=>?_
       conv=>arg 3; whnf
       refine Zg rfl ?_ ?_
       ·conv=>arg 3; whnf
        refine Zc _ Zy fun x129 hx129=>?_
        clear hx129
        rcases x129 with x129 | x129
        ·conv=>arg 3; whnf
         refine ZbC rfl ?_
         conv=>arg 3; whnf
         refine ZQ rfl ?_
         conv=>arg 3; whnf
         refine Zg rfl ?_ ?_
         ·conv=>arg 3; whnf
          refine Zg rfl ?_ ?_
          ·conv=>arg 3; whnf
           refine Zc (Zb s0.1 x129.1 (w64 (s0.2.2.1-1)) x129.2) (hrc s0.1 x129.1 (w64 (s0.2.2.1-1)) x129.2) fun x130 hx130=>?_
           conv=>arg 3; whnf
           exact Zd (ih _)
          ·conv=>arg 3; whnf
           refine Zc (Zb s0.1 x129.1 (w64 (s0.2.2.1-1)) x129.2) (hrc s0.1 x129.1 (w64 (s0.2.2.1-1)) x129.2) fun x131 hx131=>?_
           conv=>arg 3; whnf
           exact Zd (ih _)
         ·conv=>arg 3; whnf
          refine Zg rfl ?_ ?_
          ·conv=>arg 3; whnf
           refine Zc (Zb (w64 (x129.1+1)) s0.2.1 (w64 (s0.2.2.1-1)) x129.2) (hrc (w64 (x129.1+1)) s0.2.1 (w64 (s0.2.2.1-1)) x129.2) fun x132 hx132=>?_
           conv=>arg 3; whnf
           exact Zd (ih _)
          ·conv=>arg 3; whnf
           refine Zc (Zb (w64 (x129.1+1)) s0.2.1 (w64 (s0.2.2.1-1)) x129.2) (hrc (w64 (x129.1+1)) s0.2.1 (w64 (s0.2.2.1-1)) x129.2) fun x133 hx133=>?_
           conv=>arg 3; whnf
           exact Zd (ih _)
        ·conv=>arg 3; whnf
         refine ZQ rfl ?_
         conv=>arg 3; whnf
         refine ZQ rfl ?_
         conv=>arg 3; whnf
         refine Zg rfl ?_ ?_
         ·conv=>arg 3; whnf
          refine Zg rfl ?_ ?_
          ·conv=>arg 3; whnf
           refine Zc (Zb s0.1 x129.1 (w64 (s0.2.2.1-1)) x129.2) (hrc s0.1 x129.1 (w64 (s0.2.2.1-1)) x129.2) fun x134 hx134=>?_
           conv=>arg 3; whnf
           exact Zd (ih _)
          ·conv=>arg 3; whnf
           refine Zc (Zb s0.1 x129.1 (w64 (s0.2.2.1-1)) x129.2) (hrc s0.1 x129.1 (w64 (s0.2.2.1-1)) x129.2) fun x135 hx135=>?_
           conv=>arg 3; whnf
           exact Zd (ih _)
         ·conv=>arg 3; whnf
          refine Zg rfl ?_ ?_
          ·conv=>arg 3; whnf
           refine Zc (Zb (w64 (x129.1+1)) s0.2.1 (w64 (s0.2.2.1-1)) x129.2) (hrc (w64 (x129.1+1)) s0.2.1 (w64 (s0.2.2.1-1)) x129.2) fun x136 hx136=>?_
           conv=>arg 3; whnf
           exact Zd (ih _)
          ·conv=>arg 3; whnf
           refine Zc (Zb (w64 (x129.1+1)) s0.2.1 (w64 (s0.2.2.1-1)) x129.2) (hrc (w64 (x129.1+1)) s0.2.1 (w64 (s0.2.2.1-1)) x129.2) fun x137 hx137=>?_
           conv=>arg 3; whnf
           exact Zd (ih _)
       ·conv=>arg 3; whnf
        refine Zc _ Z6 fun x138 hx138=>?_
        conv=>arg 3; whnf
        exact Zd (ih _)
      ·conv=>arg 3; whnf
       refine Zc _ Zy fun x139 hx139=>?_
       clear hx139
       rcases x139 with x139 | x139
       ·conv=>arg 3; whnf
        refine ZbC rfl ?_
        conv=>arg 3; whnf
        refine ZQ rfl ?_
        conv=>arg 3; whnf
        refine Zg rfl ?_ ?_
        ·conv=>arg 3; whnf
         refine Zg rfl ?_ ?_
         ·conv=>arg 3; whnf
          refine Zc (Zb s0.1 x139.1 (w64 (s0.2.2.1-1)) x139.2) (hrc s0.1 x139.1 (w64 (s0.2.2.1-1)) x139.2) fun x140 hx140=>?_
          conv=>arg 3; whnf
          exact Zd (ih _)
         ·conv=>arg 3; whnf
          refine Zc (Zb s0.1 x139.1 (w64 (s0.2.2.1-1)) x139.2) (hrc s0.1 x139.1 (w64 (s0.2.2.1-1)) x139.2) fun x141 hx141=>?_
          conv=>arg 3; whnf
          exact Zd (ih _)
        ·conv=>arg 3; whnf
         refine Zg rfl ?_ ?_
         ·conv=>arg 3; whnf
          refine Zc (Zb (w64 (x139.1+1)) s0.2.1 (w64 (s0.2.2.1-1)) x139.2) (hrc (w64 (x139.1+1)) s0.2.1 (w64 (s0.2.2.1-1)) x139.2) fun x142 hx142=>?_
          conv=>arg 3; whnf
          exact Zd (ih _)
         ·conv=>arg 3; whnf
          refine Zc (Zb (w64 (x139.1+1)) s0.2.1 (w64 (s0.2.2.1-1)) x139.2) (hrc (w64 (x139.1+1)) s0.2.1 (w64 (s0.2.2.1-1)) x139.2) fun x143 hx143=>?_
          conv=>arg 3; whnf
          exact Zd (ih _)
       ·conv=>arg 3; whnf
        refine ZQ rfl ?_
        conv=>arg 3; whnf
        refine ZQ rfl ?_
        conv=>arg 3; whnf
        refine Zg rfl ?_ ?_
        ·conv=>arg 3; whnf
         refine Zg rfl ?_ ?_
         ·conv=>arg 3; whnf
          refine Zc (Zb s0.1 x139.1 (w64 (s0.2.2.1-1)) x139.2) (hrc s0.1 x139.1 (w64 (s0.2.2.1-1)) x139.2) fun x144 hx144=>?_
          conv=>arg 3; whnf
          exact Zd (ih _)
         ·conv=>arg 3; whnf
          refine Zc (Zb s0.1 x139.1 (w64 (s0.2.2.1-1)) x139.2) (hrc s0.1 x139.1 (w64 (s0.2.2.1-1)) x139.2) fun x145 hx145=>?_
          conv=>arg 3; whnf
          exact Zd (ih _)
        ·conv=>arg 3; whnf
         refine Zg rfl ?_ ?_
         ·conv=>arg 3; whnf
          refine Zc (Zb (w64 (x139.1+1)) s0.2.1 (w64 (s0.2.2.1-1)) x139.2) (hrc (w64 (x139.1+1)) s0.2.1 (w64 (s0.2.2.1-1)) x139.2) fun x146 hx146=>?_
          conv=>arg 3; whnf
          exact Zd (ih _)
         ·conv=>arg 3; whnf
          refine Zc (Zb (w64 (x139.1+1)) s0.2.1 (w64 (s0.2.2.1-1)) x139.2) (hrc (w64 (x139.1+1)) s0.2.1 (w64 (s0.2.2.1-1)) x139.2) fun x147 hx147=>?_
          conv=>arg 3; whnf
          exact Zd (ih _)
     ·conv=>arg 3; whnf
      refine Zg rfl ?_ ?_
      ·conv=>arg 3; whnf
       refine Zj rfl rfl fun x148 hx148=>?_
       conv=>arg 3; whnf
       refine Zf (Zl rfl hx148) ?_
       conv=>arg 3; whnf
       refine Zj rfl rfl fun x149 hx149=>?_
       conv=>arg 3; whnf
       refine Zf (Zl rfl hx149) ?_
       conv=>arg 3; whnf
       refine Zp _ ZZ rfl fun x150 hx150=>?_
       conv=>arg 3; whnf
       refine Zg rfl ?_ ?_
       ·conv=>arg 3; whnf
        refine Zc _ Zy fun x151 hx151=>?_
        clear hx151
        rcases x151 with x151 | x151
        ·conv=>arg 3; whnf
         refine ZbC rfl ?_
         conv=>arg 3; whnf
         refine ZQ rfl ?_
         conv=>arg 3; whnf
         refine Zg rfl ?_ ?_
         ·conv=>arg 3; whnf
          refine Zg rfl ?_ ?_
          ·conv=>arg 3; whnf
           refine Zc (Zb s0.1 x151.1 (w64 (s0.2.2.1-1)) x151.2) (hrc s0.1 x151.1 (w64 (s0.2.2.1-1)) x151.2) fun x152 hx152=>?_
           conv=>arg 3; whnf
           exact Zd (ih _)
          ·conv=>arg 3; whnf
           refine Zc (Zb s0.1 x151.1 (w64 (s0.2.2.1-1)) x151.2) (hrc s0.1 x151.1 (w64 (s0.2.2.1-1)) x151.2) fun x153 hx153=>?_
           conv=>arg 3; whnf
           exact Zd (ih _)
         ·conv=>arg 3; whnf
          refine Zg rfl ?_ ?_
          ·conv=>arg 3; whnf
           refine Zc (Zb (w64 (x151.1+1)) s0.2.1 (w64 (s0.2.2.1-1)) x151.2) (hrc (w64 (x151.1+1)) s0.2.1 (w64 (s0.2.2.1-1)) x151.2) fun x154 hx154=>?_
           conv=>arg 3; whnf
           exact Zd (ih _)
          ·conv=>arg 3; whnf
           refine Zc (Zb (w64 (x151.1+1)) s0.2.1 (w64 (s0.2.2.1-1)) x151.2) (hrc (w64 (x151.1+1)) s0.2.1 (w64 (s0.2.2.1-1)) x151.2) fun x155 hx155=>?_
           conv=>arg 3; whnf
           exact Zd (ih _)
        ·conv=>arg 3; whnf
         refine ZQ rfl ?_
         conv=>arg 3; whnf
         refine ZQ rfl ?_
         conv=>arg 3; whnf
         refine Zg rfl ?_ ?_
         ·conv=>arg 3; whnf
          refine Zg rfl ?_ ?_
          ·conv=>arg 3; whnf
           refine Zc (Zb s0.1 x151.1 (w64 (s0.2.2.1-1)) x151.2) (hrc s0.1 x151.1 (w64 (s0.2.2.1-1)) x151.2) fun x156 hx156=>?_
           conv=>arg 3; whnf
           exact Zd (ih _)
          ·conv=>arg 3; whnf
           refine Zc (Zb s0.1 x151.1 (w64 (s0.2.2.1-1)) x151.2) (hrc s0.1 x151.1 (w64 (s0.2.2.1-1)) x151.2) fun x157 hx157=>?_
           conv=>arg 3; whnf
           exact Zd (ih _)
         ·conv=>arg 3; whnf
          refine Zg rfl ?_ ?_
          ·conv=>arg 3; whnf
           refine Zc (Zb (w64 (x151.1+1)) s0.2.1 (w64 (s0.2.2.1-1)) x151.2) (hrc (w64 (x151.1+1)) s0.2.1 (w64 (s0.2.2.1-1)) x151.2) fun x158 hx158=>?_
           conv=>arg 3; whnf
           exact Zd (ih _)
          ·conv=>arg 3; whnf
           refine Zc (Zb (w64 (x151.1+1)) s0.2.1 (w64 (s0.2.2.1-1)) x151.2) (hrc (w64 (x151.1+1)) s0.2.1 (w64 (s0.2.2.1-1)) x151.2) fun x159 hx159=>?_
           conv=>arg 3; whnf
           exact Zd (ih _)
       ·conv=>arg 3; whnf
        refine Zc _ Z6 fun x160 hx160=>?_
        conv=>arg 3; whnf
        exact Zd (ih _)
      ·conv=>arg 3; whnf
       refine Zc _ Zy fun x161 hx161=>?_
       clear hx161
       rcases x161 with x161 | x161
       ·conv=>arg 3; whnf
        refine ZbC rfl ?_
        conv=>arg 3; whnf
        refine ZQ rfl ?_
        conv=>arg 3; whnf
        refine Zg rfl ?_ ?_
        ·conv=>arg 3; whnf
         refine Zg rfl ?_ ?_
         ·conv=>arg 3; whnf
          refine Zc (Zb s0.1 x161.1 (w64 (s0.2.2.1-1)) x161.2) (hrc s0.1 x161.1 (w64 (s0.2.2.1-1)) x161.2) fun x162 hx162=>?_
          conv=>arg 3; whnf
          exact Zd (ih _)
         ·conv=>arg 3; whnf
          refine Zc (Zb s0.1 x161.1 (w64 (s0.2.2.1-1)) x161.2) (hrc s0.1 x161.1 (w64 (s0.2.2.1-1)) x161.2) fun x163 hx163=>?_
          conv=>arg 3; whnf
          exact Zd (ih _)
        ·conv=>arg 3; whnf
         refine Zg rfl ?_ ?_
         ·conv=>arg 3; whnf
          refine Zc (Zb (w64 (x161.1+1)) s0.2.1 (w64 (s0.2.2.1-1)) x161.2) (hrc (w64 (x161.1+1)) s0.2.1 (w64 (s0.2.2.1-1)) x161.2) fun x164 hx164=>?_
          conv=>arg 3; whnf
          exact Zd (ih _)
         ·conv=>arg 3; whnf
          refine Zc (Zb (w64 (x161.1+1)) s0.2.1 (w64 (s0.2.2.1-1)) x161.2) (hrc (w64 (x161.1+1)) s0.2.1 (w64 (s0.2.2.1-1)) x161.2) fun x165 hx165=>?_
          conv=>arg 3; whnf
          exact Zd (ih _)
       ·conv=>arg 3; whnf
        refine ZQ rfl ?_
        conv=>arg 3; whnf
        refine ZQ rfl ?_
        conv=>arg 3; whnf
        refine Zg rfl ?_ ?_
        ·conv=>arg 3; whnf
         refine Zg rfl ?_ ?_
         ·conv=>arg 3; whnf
          refine Zc (Zb s0.1 x161.1 (w64 (s0.2.2.1-1)) x161.2) (hrc s0.1 x161.1 (w64 (s0.2.2.1-1)) x161.2) fun x166 hx166=>?_
          conv=>arg 3; whnf
          exact Zd (ih _)
         ·conv=>arg 3; whnf
          refine Zc (Zb s0.1 x161.1 (w64 (s0.2.2.1-1)) x161.2) (hrc s0.1 x161.1 (w64 (s0.2.2.1-1)) x161.2) fun x167 hx167=>?_
          conv=>arg 3; whnf
          exact Zd (ih _)
        ·conv=>arg 3; whnf
         refine Zg rfl ?_ ?_
         ·conv=>arg 3; whnf
          refine Zc (Zb (w64 (x161.1+1)) s0.2.1 (w64 (s0.2.2.1-1)) x161.2) (hrc (w64 (x161.1+1)) s0.2.1 (w64 (s0.2.2.1-1)) x161.2) fun x168 hx168=>?_
          conv=>arg 3; whnf
          exact Zd (ih _)
         ·conv=>arg 3; whnf
          refine Zc (Zb (w64 (x161.1+1)) s0.2.1 (w64 (s0.2.2.1-1)) x161.2) (hrc (w64 (x161.1+1)) s0.2.1 (w64 (s0.2.2.1-1)) x161.2) fun x169 hx169=>?_
          conv=>arg 3; whnf
          exact Zd (ih _)
 ·refine Znj ?_
  rcases hb:s0.2.2.2.2.1 with _ | _
  ·refine ZnA ?_
   conv=>arg 3; whnf
   refine Zg rfl ?_ ?_
   ·conv=>arg 3; whnf
    refine Zc _ Zb2 fun x73 hx73=>?_
    conv=>arg 3; whnf
    exact Zh rfl
   ·conv=>arg 3; whnf
    refine Zg rfl ?_ ?_
    ·conv=>arg 3; whnf
     refine Zc _ ZcB fun x74 hx74=>?_
     conv=>arg 3; whnf
     exact Zh rfl
    ·conv=>arg 3; whnf
     refine Zc _ Zca fun x75 hx75=>?_
     conv=>arg 3; whnf
     refine Zg rfl ?_ ?_
     ·conv=>arg 3; whnf
      refine Zc _ Zb7 fun x76 hx76=>?_
      conv=>arg 3; whnf
      refine Zg rfl ?_ ?_
      ·conv=>arg 3; whnf
       refine Zj rfl rfl fun x77 hx77=>?_
       conv=>arg 3; whnf
       refine Zf (Zl rfl hx77) ?_
       conv=>arg 3; whnf
       refine Zj rfl rfl fun x78 hx78=>?_
       conv=>arg 3; whnf
       refine Zf (Zl rfl hx78) ?_
       conv=>arg 3; whnf
       refine Zp _ ZZ rfl fun x79 hx79=>?_
       conv=>arg 3; whnf
       refine Zg rfl ?_ ?_
       ·conv=>arg 3; whnf
        refine Zc _ Zy fun x80 hx80=>?_
        clear hx80
        rcases x80 with x80 | x80
        ·conv=>arg 3; whnf
         refine ZbC rfl ?_
         conv=>arg 3; whnf
         refine ZQ rfl ?_
         conv=>arg 3; whnf
         refine Zg rfl ?_ ?_
         ·conv=>arg 3; whnf
          refine Zg rfl ?_ ?_
          ·conv=>arg 3; whnf
           refine Zc (Zb s0.1 x80.1 s0.2.2.1 x80.2) (hrc s0.1 x80.1 s0.2.2.1 x80.2) fun x81 hx81=>?_
           conv=>arg 3; whnf
           exact Zd (ih _)
          ·conv=>arg 3; whnf
           refine Zc (Zb s0.1 x80.1 s0.2.2.1 x80.2) (hrc s0.1 x80.1 s0.2.2.1 x80.2) fun x82 hx82=>?_
           conv=>arg 3; whnf
           exact Zd (ih _)
         ·conv=>arg 3; whnf
          refine Zg rfl ?_ ?_
          ·conv=>arg 3; whnf
           refine Zc (Zb (w64 (x80.1+1)) s0.2.1 s0.2.2.1 x80.2) (hrc (w64 (x80.1+1)) s0.2.1 s0.2.2.1 x80.2) fun x83 hx83=>?_
           conv=>arg 3; whnf
           exact Zd (ih _)
          ·conv=>arg 3; whnf
           refine Zc (Zb (w64 (x80.1+1)) s0.2.1 s0.2.2.1 x80.2) (hrc (w64 (x80.1+1)) s0.2.1 s0.2.2.1 x80.2) fun x84 hx84=>?_
           conv=>arg 3; whnf
           exact Zd (ih _)
        ·conv=>arg 3; whnf
         refine ZQ rfl ?_
         conv=>arg 3; whnf
         refine ZQ rfl ?_
         conv=>arg 3; whnf
         refine Zg rfl ?_ ?_
         ·conv=>arg 3; whnf
          refine Zg rfl ?_ ?_
          ·conv=>arg 3; whnf
           refine Zc (Zb s0.1 x80.1 s0.2.2.1 x80.2) (hrc s0.1 x80.1 s0.2.2.1 x80.2) fun x85 hx85=>?_
           conv=>arg 3; whnf
           exact Zd (ih _)
          ·conv=>arg 3; whnf
           refine Zc (Zb s0.1 x80.1 s0.2.2.1 x80.2) (hrc s0.1 x80.1 s0.2.2.1 x80.2) fun x86 hx86=>?_
           conv=>arg 3; whnf
           exact Zd (ih _)
         ·conv=>arg 3; whnf
          refine Zg rfl ?_ ?_
          ·conv=>arg 3; whnf
           refine Zc (Zb (w64 (x80.1+1)) s0.2.1 s0.2.2.1 x80.2) (hrc (w64 (x80.1+1)) s0.2.1 s0.2.2.1 x80.2) fun x87 hx87=>?_
           conv=>arg 3; whnf
           exact Zd (ih _)
          ·conv=>arg 3; whnf
           refine Zc (Zb (w64 (x80.1+1)) s0.2.1 s0.2.2.1 x80.2) (hrc (w64 (x80.1+1)) s0.2.1 s0.2.2.1 x80.2) fun x88 hx88=>?_
           conv=>arg 3; whnf
           exact Zd (ih _)
       ·conv=>arg 3; whnf
        refine Zc _ Z6 fun x89 hx89=>?_
        conv=>arg 3; whnf
        exact Zd (ih _)
      ·conv=>arg 3; whnf
       refine Zc _ Zy fun x90 hx90=>?_
       clear hx90
       rcases x90 with x90 | x90
       ·conv=>arg 3; whnf
        refine ZbC rfl ?_
        conv=>arg 3; whnf
        refine ZQ rfl ?_
        conv=>arg 3; whnf
        refine Zg rfl ?_ ?_
        ·conv=>arg 3; whnf
         refine Zg rfl ?_ ?_
         ·conv=>arg 3; whnf
          refine Zc (Zb s0.1 x90.1 s0.2.2.1 x90.2) (hrc s0.1 x90.1 s0.2.2.1 x90.2) fun x91 hx91=>?_
          conv=>arg 3; whnf
          exact Zd (ih _)
         ·conv=>arg 3; whnf
          refine Zc (Zb s0.1 x90.1 s0.2.2.1 x90.2) (hrc s0.1 x90.1 s0.2.2.1 x90.2) fun x92 hx92=>?_
          conv=>arg 3; whnf
          exact Zd (ih _)
        ·conv=>arg 3; whnf
         refine Zg rfl ?_ ?_
         ·conv=>arg 3; whnf
          refine Zc (Zb (w64 (x90.1+1)) s0.2.1 s0.2.2.1 x90.2) (hrc (w64 (x90.1+1)) s0.2.1 s0.2.2.1 x90.2) fun x93 hx93=>?_
          conv=>arg 3; whnf
          exact Zd (ih _)
         ·conv=>arg 3; whnf
          refine Zc (Zb (w64 (x90.1+1)) s0.2.1 s0.2.2.1 x90.2) (hrc (w64 (x90.1+1)) s0.2.1 s0.2.2.1 x90.2) fun x94 hx94=>?_
          conv=>arg 3; whnf
          exact Zd (ih _)
       ·conv=>arg 3; whnf
        refine ZQ rfl ?_
        conv=>arg 3; whnf
        refine ZQ rfl ?_
        conv=>arg 3; whnf
        refine Zg rfl ?_ ?_
        ·conv=>arg 3; whnf
         refine Zg rfl ?_ ?_
         ·conv=>arg 3; whnf
          refine Zc (Zb s0.1 x90.1 s0.2.2.1 x90.2) (hrc s0.1 x90.1 s0.2.2.1 x90.2) fun x95 hx95=>?_
          conv=>arg 3; whnf
          exact Zd (ih _)
         ·conv=>arg 3; whnf
          refine Zc (Zb s0.1 x90.1 s0.2.2.1 x90.2) (hrc s0.1 x90.1 s0.2.2.1 x90.2) fun x96 hx96=>?_
          conv=>arg 3; whnf
          exact Zd (ih _)
        ·conv=>arg 3; whnf
         refine Zg rfl ?_ ?_
         ·conv=>arg 3; whnf
          refine Zc (Zb (w64 (x90.1+1)) s0.2.1 s0.2.2.1 x90.2) (hrc (w64 (x90.1+1)) s0.2.1 s0.2.2.1 x90.2) fun x97 hx97=>?_
          conv=>arg 3; whnf
          exact Zd (ih _)
         ·conv=>arg 3; whnf
          refine Zc (Zb (w64 (x90.1+1)) s0.2.1 s0.2.2.1 x90.2) (hrc (w64 (x90.1+1)) s0.2.1 s0.2.2.1 x90.2) fun x98 hx98=>?_
          conv=>arg 3; whnf
          exact Zd (ih _)
     ·conv=>arg 3; whnf
      refine Zg rfl ?_ ?_
      ·conv=>arg 3; whnf
       refine Zj rfl rfl fun x99 hx99=>?_
       conv=>arg 3; whnf
       refine Zf (Zl rfl hx99) ?_
       conv=>arg 3; whnf
       refine Zj rfl rfl fun x100 hx100=>?_
       conv=>arg 3; whnf
       refine Zf (Zl rfl hx100) ?_
       conv=>arg 3; whnf
       refine Zp _ ZZ rfl fun x101 hx101=>?_
       conv=>arg 3; whnf
       refine Zg rfl ?_ ?_
       ·conv=>arg 3; whnf
        refine Zc _ Zy fun x102 hx102=>?_
        clear hx102
        rcases x102 with x102 | x102
        ·conv=>arg 3; whnf
         refine ZbC rfl ?_
         conv=>arg 3; whnf
         refine ZQ rfl ?_
         conv=>arg 3; whnf
         refine Zg rfl ?_ ?_
         ·conv=>arg 3; whnf
          refine Zg rfl ?_ ?_
          ·conv=>arg 3; whnf
           refine Zc (Zb s0.1 x102.1 s0.2.2.1 x102.2) (hrc s0.1 x102.1 s0.2.2.1 x102.2) fun x103 hx103=>?_
           conv=>arg 3; whnf
           exact Zd (ih _)
          ·conv=>arg 3; whnf
           refine Zc (Zb s0.1 x102.1 s0.2.2.1 x102.2) (hrc s0.1 x102.1 s0.2.2.1 x102.2) fun x104 hx104=>?_
           conv=>arg 3; whnf
           exact Zd (ih _)
         ·conv=>arg 3; whnf
          refine Zg rfl ?_ ?_
          ·conv=>arg 3; whnf
           refine Zc (Zb (w64 (x102.1+1)) s0.2.1 s0.2.2.1 x102.2) (hrc (w64 (x102.1+1)) s0.2.1 s0.2.2.1 x102.2) fun x105 hx105=>?_
           conv=>arg 3; whnf
           exact Zd (ih _)
          ·conv=>arg 3; whnf
           refine Zc (Zb (w64 (x102.1+1)) s0.2.1 s0.2.2.1 x102.2) (hrc (w64 (x102.1+1)) s0.2.1 s0.2.2.1 x102.2) fun x106 hx106=>?_
           conv=>arg 3; whnf
           exact Zd (ih _)
        ·conv=>arg 3; whnf
         refine ZQ rfl ?_
         conv=>arg 3; whnf
         refine ZQ rfl ?_
         conv=>arg 3; whnf
         refine Zg rfl ?_ ?_
         ·conv=>arg 3; whnf
          refine Zg rfl ?_ ?_
          ·conv=>arg 3; whnf
           refine Zc (Zb s0.1 x102.1 s0.2.2.1 x102.2) (hrc s0.1 x102.1 s0.2.2.1 x102.2) fun x107 hx107=>?_
           conv=>arg 3; whnf
           exact Zd (ih _)
          ·conv=>arg 3; whnf
           refine Zc (Zb s0.1 x102.1 s0.2.2.1 x102.2) (hrc s0.1 x102.1 s0.2.2.1 x102.2) fun x108 hx108=>?_
           conv=>arg 3; whnf
           exact Zd (ih _)
         ·conv=>arg 3; whnf
          refine Zg rfl ?_ ?_
          ·conv=>arg 3; whnf
           refine Zc (Zb (w64 (x102.1+1)) s0.2.1 s0.2.2.1 x102.2) (hrc (w64 (x102.1+1)) s0.2.1 s0.2.2.1 x102.2) fun x109 hx109=>?_
           conv=>arg 3; whnf
           exact Zd (ih _)
          ·conv=>arg 3; whnf
           refine Zc (Zb (w64 (x102.1+1)) s0.2.1 s0.2.2.1 x102.2) (hrc (w64 (x102.1+1)) s0.2.1 s0.2.2.1 x102.2) fun x110 hx110=>?_
           conv=>arg 3; whnf
           exact Zd (ih _)
       ·conv=>arg 3; whnf
        refine Zc _ Z6 fun x111 hx111=>?_
        conv=>arg 3; whnf
        exact Zd (ih _)
      ·conv=>arg 3; whnf
       refine Zc _ Zy fun x112 hx112=>?_
       clear hx112
       rcases x112 with x112 | x112
       ·conv=>arg 3; whnf
        refine ZbC rfl ?_
        conv=>arg 3; whnf
        refine ZQ rfl ?_
        conv=>arg 3; whnf
        refine Zg rfl ?_ ?_
        ·conv=>arg 3; whnf
         refine Zg rfl ?_ ?_
         ·conv=>arg 3; whnf
          refine Zc (Zb s0.1 x112.1 s0.2.2.1 x112.2) (hrc s0.1 x112.1 s0.2.2.1 x112.2) fun x113 hx113=>?_
          conv=>arg 3; whnf
          exact Zd (ih _)
         ·conv=>arg 3; whnf
          refine Zc (Zb s0.1 x112.1 s0.2.2.1 x112.2) (hrc s0.1 x112.1 s0.2.2.1 x112.2) fun x114 hx114=>?_
          conv=>arg 3; whnf
          exact Zd (ih _)
        ·conv=>arg 3; whnf
         refine Zg rfl ?_ ?_
         ·conv=>arg 3; whnf
          refine Zc (Zb (w64 (x112.1+1)) s0.2.1 s0.2.2.1 x112.2) (hrc (w64 (x112.1+1)) s0.2.1 s0.2.2.1 x112.2) fun x115 hx115=>?_
          conv=>arg 3; whnf
          exact Zd (ih _)
         ·conv=>arg 3; whnf
          refine Zc (Zb (w64 (x112.1+1)) s0.2.1 s0.2.2.1 x112.2) (hrc (w64 (x112.1+1)) s0.2.1 s0.2.2.1 x112.2) fun x116 hx116=>?_
          conv=>arg 3; whnf
          exact Zd (ih _)
       ·conv=>arg 3; whnf
        refine ZQ rfl ?_
        conv=>arg 3; whnf
        refine ZQ rfl ?_
        conv=>arg 3; whnf
        refine Zg rfl ?_ ?_
        ·conv=>arg 3; whnf
         refine Zg rfl ?_ ?_
         ·conv=>arg 3; whnf
          refine Zc (Zb s0.1 x112.1 s0.2.2.1 x112.2) (hrc s0.1 x112.1 s0.2.2.1 x112.2) fun x117 hx117=>?_
          conv=>arg 3; whnf
          exact Zd (ih _)
         ·conv=>arg 3; whnf
          refine Zc (Zb s0.1 x112.1 s0.2.2.1 x112.2) (hrc s0.1 x112.1 s0.2.2.1 x112.2) fun x118 hx118=>?_
          conv=>arg 3; whnf
          exact Zd (ih _)
        ·conv=>arg 3; whnf
         refine Zg rfl ?_ ?_
         ·conv=>arg 3; whnf
          refine Zc (Zb (w64 (x112.1+1)) s0.2.1 s0.2.2.1 x112.2) (hrc (w64 (x112.1+1)) s0.2.1 s0.2.2.1 x112.2) fun x119 hx119=>?_
          conv=>arg 3; whnf
          exact Zd (ih _)
         ·conv=>arg 3; whnf
          refine Zc (Zb (w64 (x112.1+1)) s0.2.1 s0.2.2.1 x112.2) (hrc (w64 (x112.1+1)) s0.2.1 s0.2.2.1 x112.2) fun x120 hx120=>?_
          conv=>arg 3; whnf
          exact Zd (ih _)
  ·refine Znj ?_
   conv=>arg 3; whnf
   refine Zg rfl ?_ ?_
   ·conv=>arg 3; whnf
    refine Zc _ Zb2 fun x1 hx1=>?_
    conv=>arg 3; whnf
    exact Zh rfl
   ·conv=>arg 3; whnf
    refine Zg rfl ?_ ?_
    ·conv=>arg 3; whnf
     refine Zc _ ZcB fun x2 hx2=>?_
     conv=>arg 3; whnf
     exact Zh rfl
    ·conv=>arg 3; whnf
     refine Zc _ Zca fun x3 hx3=>?_
     conv=>arg 3; whnf
     refine Zg rfl ?_ ?_
     ·conv=>arg 3; whnf
      refine Zc _ Zb7 fun x4 hx4=>?_
      conv=>arg 3; whnf
      refine ZbC rfl ?_
      conv=>arg 3; whnf
      refine Zc _ Zdw fun x5 hx5=>?_
      clear hx5
      rcases x5 with x5 | x5
      ·conv=>arg 3; whnf
       exact Zh rfl
      ·conv=>arg 3; whnf
       refine Zg rfl ?_ ?_
       ·conv=>arg 3; whnf
        refine Zj rfl rfl fun x6 hx6=>?_
        conv=>arg 3; whnf
        refine Zf (Zl rfl hx6) ?_
        conv=>arg 3; whnf
        refine Zj rfl rfl fun x7 hx7=>?_
        conv=>arg 3; whnf
        refine Zf (Zl rfl hx7) ?_
        conv=>arg 3; whnf
        refine Zp _ ZZ rfl fun x8 hx8=>?_
        conv=>arg 3; whnf
        refine Zg rfl ?_ ?_
        ·conv=>arg 3; whnf
         refine Zc _ Zy fun x9 hx9=>?_
         clear hx9
         rcases x9 with x9 | x9
         ·conv=>arg 3; whnf
          refine ZbC rfl ?_
          conv=>arg 3; whnf
          refine ZQ rfl ?_
          conv=>arg 3; whnf
          refine Zg rfl ?_ ?_
          ·conv=>arg 3; whnf
           refine Zg rfl ?_ ?_
           ·conv=>arg 3; whnf
            refine Zc (Zb s0.1 x9.1 s0.2.2.1 x9.2) (hrc s0.1 x9.1 s0.2.2.1 x9.2) fun x10 hx10=>?_
            conv=>arg 3; whnf
            exact Zd (ih _)
           ·conv=>arg 3; whnf
            refine Zc (Zb s0.1 x9.1 s0.2.2.1 x9.2) (hrc s0.1 x9.1 s0.2.2.1 x9.2) fun x11 hx11=>?_
            conv=>arg 3; whnf
            exact Zd (ih _)
          ·conv=>arg 3; whnf
           refine Zg rfl ?_ ?_
           ·conv=>arg 3; whnf
            refine Zc (Zb (w64 (x9.1+1)) s0.2.1 s0.2.2.1 x9.2) (hrc (w64 (x9.1+1)) s0.2.1 s0.2.2.1 x9.2) fun x12 hx12=>?_
            conv=>arg 3; whnf
            exact Zd (ih _)
           ·conv=>arg 3; whnf
            refine Zc (Zb (w64 (x9.1+1)) s0.2.1 s0.2.2.1 x9.2) (hrc (w64 (x9.1+1)) s0.2.1 s0.2.2.1 x9.2) fun x13 hx13=>?_
            conv=>arg 3; whnf
            exact Zd (ih _)
         ·conv=>arg 3; whnf
          refine ZQ rfl ?_
          conv=>arg 3; whnf
          refine ZQ rfl ?_
          conv=>arg 3; whnf
          refine Zg rfl ?_ ?_
          ·conv=>arg 3; whnf
           refine Zg rfl ?_ ?_
           ·conv=>arg 3; whnf
            refine Zc (Zb s0.1 x9.1 s0.2.2.1 x9.2) (hrc s0.1 x9.1 s0.2.2.1 x9.2) fun x14 hx14=>?_
            conv=>arg 3; whnf
            exact Zd (ih _)
           ·conv=>arg 3; whnf
            refine Zc (Zb s0.1 x9.1 s0.2.2.1 x9.2) (hrc s0.1 x9.1 s0.2.2.1 x9.2) fun x15 hx15=>?_
            conv=>arg 3; whnf
            exact Zd (ih _)
          ·conv=>arg 3; whnf
           refine Zg rfl ?_ ?_
           ·conv=>arg 3; whnf
            refine Zc (Zb (w64 (x9.1+1)) s0.2.1 s0.2.2.1 x9.2) (hrc (w64 (x9.1+1)) s0.2.1 s0.2.2.1 x9.2) fun x16 hx16=>?_
            conv=>arg 3; whnf
            exact Zd (ih _)
           ·conv=>arg 3; whnf
            refine Zc (Zb (w64 (x9.1+1)) s0.2.1 s0.2.2.1 x9.2) (hrc (w64 (x9.1+1)) s0.2.1 s0.2.2.1 x9.2) fun x17 hx17=>?_
            conv=>arg 3; whnf
            exact Zd (ih _)
        ·conv=>arg 3; whnf
         refine Zc _ Z6 fun x18 hx18=>?_
         conv=>arg 3; whnf
         exact Zd (ih _)
       ·conv=>arg 3; whnf
        refine Zc _ Zy fun x19 hx19=>?_
        clear hx19
        rcases x19 with x19 | x19
        ·conv=>arg 3; whnf
         refine ZbC rfl ?_
         conv=>arg 3; whnf
         refine ZQ rfl ?_
         conv=>arg 3; whnf
         refine Zg rfl ?_ ?_
         ·conv=>arg 3; whnf
          refine Zg rfl ?_ ?_
          ·conv=>arg 3; whnf
           refine Zc (Zb s0.1 x19.1 s0.2.2.1 x19.2) (hrc s0.1 x19.1 s0.2.2.1 x19.2) fun x20 hx20=>?_
           conv=>arg 3; whnf
           exact Zd (ih _)
          ·conv=>arg 3; whnf
           refine Zc (Zb s0.1 x19.1 s0.2.2.1 x19.2) (hrc s0.1 x19.1 s0.2.2.1 x19.2) fun x21 hx21=>?_
           conv=>arg 3; whnf
           exact Zd (ih _)
         ·conv=>arg 3; whnf
          refine Zg rfl ?_ ?_
          ·conv=>arg 3; whnf
           refine Zc (Zb (w64 (x19.1+1)) s0.2.1 s0.2.2.1 x19.2) (hrc (w64 (x19.1+1)) s0.2.1 s0.2.2.1 x19.2) fun x22 hx22=>?_
           conv=>arg 3; whnf
           exact Zd (ih _)
          ·conv=>arg 3; whnf
           refine Zc (Zb (w64 (x19.1+1)) s0.2.1 s0.2.2.1 x19.2) (hrc (w64 (x19.1+1)) s0.2.1 s0.2.2.1 x19.2) fun x23 hx23=>?_
           conv=>arg 3; whnf
           exact Zd (ih _)
        ·conv=>arg 3; whnf
         refine ZQ rfl ?_
         conv=>arg 3; whnf
         refine ZQ rfl ?_
         conv=>arg 3; whnf
         refine Zg rfl ?_ ?_
         ·conv=>arg 3; whnf
          refine Zg rfl ?_ ?_
          ·conv=>arg 3; whnf
           refine Zc (Zb s0.1 x19.1 s0.2.2.1 x19.2) (hrc s0.1 x19.1 s0.2.2.1 x19.2) fun x24 hx24=>?_
           conv=>arg 3; whnf
           exact Zd (ih _)
          ·conv=>arg 3; whnf
           refine Zc (Zb s0.1 x19.1 s0.2.2.1 x19.2) (hrc s0.1 x19.1 s0.2.2.1 x19.2) fun x25 hx25=>?_
           conv=>arg 3; whnf
           exact Zd (ih _)
         ·conv=>arg 3; whnf
          refine Zg rfl ?_ ?_
          ·conv=>arg 3; whnf
           refine Zc (Zb (w64 (x19.1+1)) s0.2.1 s0.2.2.1 x19.2) (hrc (w64 (x19.1+1)) s0.2.1 s0.2.2.1 x19.2) fun x26 hx26=>?_
           conv=>arg 3; whnf
           exact Zd (ih _)
          ·conv=>arg 3; whnf
           refine Zc (Zb (w64 (x19.1+1)) s0.2.1 s0.2.2.1 x19.2) (hrc (w64 (x19.1+1)) s0.2.1 s0.2.2.1 x19.2) fun x27 hx27=>?_
           conv=>arg 3; whnf
           exact Zd (ih _)
     ·conv=>arg 3; whnf
      refine Zg rfl ?_ ?_
      ·conv=>arg 3; whnf
       refine Zc _ Zdw fun x28 hx28=>?_
       clear hx28
       rcases x28 with x28 | x28
       ·conv=>arg 3; whnf
        exact Zh rfl
       ·conv=>arg 3; whnf
        refine Zg rfl ?_ ?_
        ·conv=>arg 3; whnf
         refine Zj rfl rfl fun x29 hx29=>?_
         conv=>arg 3; whnf
         refine Zf (Zl rfl hx29) ?_
         conv=>arg 3; whnf
         refine Zj rfl rfl fun x30 hx30=>?_
         conv=>arg 3; whnf
         refine Zf (Zl rfl hx30) ?_
         conv=>arg 3; whnf
         refine Zp _ ZZ rfl fun x31 hx31=>?_
         conv=>arg 3; whnf
         refine Zg rfl ?_ ?_
         ·conv=>arg 3; whnf
          refine Zc _ Zy fun x32 hx32=>?_
          clear hx32
          rcases x32 with x32 | x32
          ·conv=>arg 3; whnf
           refine ZbC rfl ?_
           conv=>arg 3; whnf
           refine ZQ rfl ?_
           conv=>arg 3; whnf
           refine Zg rfl ?_ ?_
           ·conv=>arg 3; whnf
            refine Zg rfl ?_ ?_
            ·conv=>arg 3; whnf
             refine Zc (Zb s0.1 x32.1 s0.2.2.1 x32.2) (hrc s0.1 x32.1 s0.2.2.1 x32.2) fun x33 hx33=>?_
             conv=>arg 3; whnf
             exact Zd (ih _)
            ·conv=>arg 3; whnf
             refine Zc (Zb s0.1 x32.1 s0.2.2.1 x32.2) (hrc s0.1 x32.1 s0.2.2.1 x32.2) fun x34 hx34=>?_
             conv=>arg 3; whnf
             exact Zd (ih _)
           ·conv=>arg 3; whnf
            refine Zg rfl ?_ ?_
            ·conv=>arg 3; whnf
             refine Zc (Zb (w64 (x32.1+1)) s0.2.1 s0.2.2.1 x32.2) (hrc (w64 (x32.1+1)) s0.2.1 s0.2.2.1 x32.2) fun x35 hx35=>?_
             conv=>arg 3; whnf
             exact Zd (ih _)
            ·conv=>arg 3; whnf
             refine Zc (Zb (w64 (x32.1+1)) s0.2.1 s0.2.2.1 x32.2) (hrc (w64 (x32.1+1)) s0.2.1 s0.2.2.1 x32.2) fun x36 hx36=>?_
             conv=>arg 3; whnf
             exact Zd (ih _)
          ·conv=>arg 3; whnf
           refine ZQ rfl ?_
           conv=>arg 3; whnf
           refine ZQ rfl ?_
           conv=>arg 3; whnf
           refine Zg rfl ?_ ?_
           ·conv=>arg 3; whnf
            refine Zg rfl ?_ ?_
            ·conv=>arg 3; whnf
             refine Zc (Zb s0.1 x32.1 s0.2.2.1 x32.2) (hrc s0.1 x32.1 s0.2.2.1 x32.2) fun x37 hx37=>?_
             conv=>arg 3; whnf
             exact Zd (ih _)
            ·conv=>arg 3; whnf
             refine Zc (Zb s0.1 x32.1 s0.2.2.1 x32.2) (hrc s0.1 x32.1 s0.2.2.1 x32.2) fun x38 hx38=>?_
             conv=>arg 3; whnf
             exact Zd (ih _)
           ·conv=>arg 3; whnf
            refine Zg rfl ?_ ?_
            ·conv=>arg 3; whnf
             refine Zc (Zb (w64 (x32.1+1)) s0.2.1 s0.2.2.1 x32.2) (hrc (w64 (x32.1+1)) s0.2.1 s0.2.2.1 x32.2) fun x39 hx39=>?_
             conv=>arg 3; whnf
             exact Zd (ih _)
            ·conv=>arg 3; whnf
             refine Zc (Zb (w64 (x32.1+1)) s0.2.1 s0.2.2.1 x32.2) (hrc (w64 (x32.1+1)) s0.2.1 s0.2.2.1 x32.2) fun x40 hx40=>?_
             conv=>arg 3; whnf
             exact Zd (ih _)
         ·conv=>arg 3; whnf
          refine Zc _ Z6 fun x41 hx41=>?_
          conv=>arg 3; whnf
          exact Zd (ih _)
        ·conv=>arg 3; whnf
         refine Zc _ Zy fun x42 hx42=>?_
         clear hx42
         rcases x42 with x42 | x42
         ·conv=>arg 3; whnf
          refine ZbC rfl ?_
          conv=>arg 3; whnf
          refine ZQ rfl ?_
          conv=>arg 3; whnf
          refine Zg rfl ?_ ?_
          ·conv=>arg 3; whnf
           refine Zg rfl ?_ ?_
           ·conv=>arg 3; whnf
            refine Zc (Zb s0.1 x42.1 s0.2.2.1 x42.2) (hrc s0.1 x42.1 s0.2.2.1 x42.2) fun x43 hx43=>?_
            conv=>arg 3; whnf
            exact Zd (ih _)
           ·conv=>arg 3; whnf
            refine Zc (Zb s0.1 x42.1 s0.2.2.1 x42.2) (hrc s0.1 x42.1 s0.2.2.1 x42.2) fun x44 hx44=>?_
            conv=>arg 3; whnf
            exact Zd (ih _)
          ·conv=>arg 3; whnf
           refine Zg rfl ?_ ?_
           ·conv=>arg 3; whnf
            refine Zc (Zb (w64 (x42.1+1)) s0.2.1 s0.2.2.1 x42.2) (hrc (w64 (x42.1+1)) s0.2.1 s0.2.2.1 x42.2) fun x45 hx45=>?_
            conv=>arg 3; whnf
            exact Zd (ih _)
           ·conv=>arg 3; whnf
            refine Zc (Zb (w64 (x42.1+1)) s0.2.1 s0.2.2.1 x42.2) (hrc (w64 (x42.1+1)) s0.2.1 s0.2.2.1 x42.2) fun x46 hx46=>?_
            conv=>arg 3; whnf
            exact Zd (ih _)
         ·conv=>arg 3; whnf
          refine ZQ rfl ?_
          conv=>arg 3; whnf
          refine ZQ rfl ?_
          conv=>arg 3; whnf
          refine Zg rfl ?_ ?_
          ·conv=>arg 3; whnf
           refine Zg rfl ?_ ?_
           ·conv=>arg 3; whnf
            refine Zc (Zb s0.1 x42.1 s0.2.2.1 x42.2) (hrc s0.1 x42.1 s0.2.2.1 x42.2) fun x47 hx47=>?_
            conv=>arg 3; whnf
            exact Zd (ih _)
           ·conv=>arg 3; whnf
            refine Zc (Zb s0.1 x42.1 s0.2.2.1 x42.2) (hrc s0.1 x42.1 s0.2.2.1 x42.2) fun x48 hx48=>?_
            conv=>arg 3; whnf
            exact Zd (ih _)
          ·conv=>arg 3; whnf
           refine Zg rfl ?_ ?_
           ·conv=>arg 3; whnf
            refine Zc (Zb (w64 (x42.1+1)) s0.2.1 s0.2.2.1 x42.2) (hrc (w64 (x42.1+1)) s0.2.1 s0.2.2.1 x42.2) fun x49 hx49=>?_
            conv=>arg 3; whnf
            exact Zd (ih _)
           ·conv=>arg 3; whnf
            refine Zc (Zb (w64 (x42.1+1)) s0.2.1 s0.2.2.1 x42.2) (hrc (w64 (x42.1+1)) s0.2.1 s0.2.2.1 x42.2) fun x50 hx50=>?_
            conv=>arg 3; whnf
            exact Zd (ih _)
      ·conv=>arg 3; whnf
       refine Zg rfl ?_ ?_
       ·conv=>arg 3; whnf
        refine Zj rfl rfl fun x51 hx51=>?_
        conv=>arg 3; whnf
        refine Zf (Zl rfl hx51) ?_
        conv=>arg 3; whnf
        refine Zj rfl rfl fun x52 hx52=>?_
        conv=>arg 3; whnf
        refine Zf (Zl rfl hx52) ?_
        conv=>arg 3; whnf
        refine Zp _ ZZ rfl fun x53 hx53=>?_
        conv=>arg 3; whnf
        refine Zg rfl ?_ ?_
        ·conv=>arg 3; whnf
         refine Zc _ Zy fun x54 hx54=>?_
         clear hx54
         rcases x54 with x54 | x54
         ·conv=>arg 3; whnf
          refine ZbC rfl ?_
          conv=>arg 3; whnf
          refine ZQ rfl ?_
          conv=>arg 3; whnf
          refine Zg rfl ?_ ?_
          ·conv=>arg 3; whnf
           refine Zg rfl ?_ ?_
           ·conv=>arg 3; whnf
            refine Zc (Zb s0.1 x54.1 s0.2.2.1 x54.2) (hrc s0.1 x54.1 s0.2.2.1 x54.2) fun x55 hx55=>?_
            conv=>arg 3; whnf
            exact Zd (ih _)
           ·conv=>arg 3; whnf
            refine Zc (Zb s0.1 x54.1 s0.2.2.1 x54.2) (hrc s0.1 x54.1 s0.2.2.1 x54.2) fun x56 hx56=>?_
            conv=>arg 3; whnf
            exact Zd (ih _)
          ·conv=>arg 3; whnf
           refine Zg rfl ?_ ?_
           ·conv=>arg 3; whnf
            refine Zc (Zb (w64 (x54.1+1)) s0.2.1 s0.2.2.1 x54.2) (hrc (w64 (x54.1+1)) s0.2.1 s0.2.2.1 x54.2) fun x57 hx57=>?_
            conv=>arg 3; whnf
            exact Zd (ih _)
           ·conv=>arg 3; whnf
            refine Zc (Zb (w64 (x54.1+1)) s0.2.1 s0.2.2.1 x54.2) (hrc (w64 (x54.1+1)) s0.2.1 s0.2.2.1 x54.2) fun x58 hx58=>?_
            conv=>arg 3; whnf
            exact Zd (ih _)
         ·conv=>arg 3; whnf
          refine ZQ rfl ?_
          conv=>arg 3; whnf
          refine ZQ rfl ?_
          conv=>arg 3; whnf
          refine Zg rfl ?_ ?_
          ·conv=>arg 3; whnf
           refine Zg rfl ?_ ?_
           ·conv=>arg 3; whnf
            refine Zc (Zb s0.1 x54.1 s0.2.2.1 x54.2) (hrc s0.1 x54.1 s0.2.2.1 x54.2) fun x59 hx59=>?_
            conv=>arg 3; whnf
            exact Zd (ih _)
           ·conv=>arg 3; whnf
            refine Zc (Zb s0.1 x54.1 s0.2.2.1 x54.2) (hrc s0.1 x54.1 s0.2.2.1 x54.2) fun x60 hx60=>?_
            conv=>arg 3; whnf
            exact Zd (ih _)
          ·conv=>arg 3; whnf
           refine Zg rfl ?_ ?_
           ·conv=>arg 3; whnf
            refine Zc (Zb (w64 (x54.1+1)) s0.2.1 s0.2.2.1 x54.2) (hrc (w64 (x54.1+1)) s0.2.1 s0.2.2.1 x54.2) fun x61 hx61=>?_
            conv=>arg 3; whnf
            exact Zd (ih _)
           ·conv=>arg 3; whnf
            refine Zc (Zb (w64 (x54.1+1)) s0.2.1 s0.2.2.1 x54.2) (hrc (w64 (x54.1+1)) s0.2.1 s0.2.2.1 x54.2) fun x62 hx62=>?_
            conv=>arg 3; whnf
            exact Zd (ih _)
        ·conv=>arg 3; whnf
         refine Zc _ Z6 fun x63 hx63=>?_
         conv=>arg 3; whnf
         exact Zd (ih _)
       ·conv=>arg 3; whnf
        refine Zc _ Zy fun x64 hx64=>?_
        clear hx64
        rcases x64 with x64 | x64
        ·conv=>arg 3; whnf
         refine ZbC rfl ?_
         conv=>arg 3; whnf
         refine ZQ rfl ?_
         conv=>arg 3; whnf
         refine Zg rfl ?_ ?_
         ·conv=>arg 3; whnf
          refine Zg rfl ?_ ?_
          ·conv=>arg 3; whnf
           refine Zc (Zb s0.1 x64.1 s0.2.2.1 x64.2) (hrc s0.1 x64.1 s0.2.2.1 x64.2) fun x65 hx65=>?_
           conv=>arg 3; whnf
           exact Zd (ih _)
          ·conv=>arg 3; whnf
           refine Zc (Zb s0.1 x64.1 s0.2.2.1 x64.2) (hrc s0.1 x64.1 s0.2.2.1 x64.2) fun x66 hx66=>?_
           conv=>arg 3; whnf
           exact Zd (ih _)
         ·conv=>arg 3; whnf
          refine Zg rfl ?_ ?_
          ·conv=>arg 3; whnf
           refine Zc (Zb (w64 (x64.1+1)) s0.2.1 s0.2.2.1 x64.2) (hrc (w64 (x64.1+1)) s0.2.1 s0.2.2.1 x64.2) fun x67 hx67=>?_
           conv=>arg 3; whnf
           exact Zd (ih _)
          ·conv=>arg 3; whnf
           refine Zc (Zb (w64 (x64.1+1)) s0.2.1 s0.2.2.1 x64.2) (hrc (w64 (x64.1+1)) s0.2.1 s0.2.2.1 x64.2) fun x68 hx68=>?_
           conv=>arg 3; whnf
           exact Zd (ih _)
        ·conv=>arg 3; whnf
         refine ZQ rfl ?_
         conv=>arg 3; whnf
         refine ZQ rfl ?_
         conv=>arg 3; whnf
         refine Zg rfl ?_ ?_
         ·conv=>arg 3; whnf
          refine Zg rfl ?_ ?_
          ·conv=>arg 3; whnf
           refine Zc (Zb s0.1 x64.1 s0.2.2.1 x64.2) (hrc s0.1 x64.1 s0.2.2.1 x64.2) fun x69 hx69=>?_
           conv=>arg 3; whnf
           exact Zd (ih _)
          ·conv=>arg 3; whnf
           refine Zc (Zb s0.1 x64.1 s0.2.2.1 x64.2) (hrc s0.1 x64.1 s0.2.2.1 x64.2) fun x70 hx70=>?_
           conv=>arg 3; whnf
           exact Zd (ih _)
         ·conv=>arg 3; whnf
          refine Zg rfl ?_ ?_
          ·conv=>arg 3; whnf
           refine Zc (Zb (w64 (x64.1+1)) s0.2.1 s0.2.2.1 x64.2) (hrc (w64 (x64.1+1)) s0.2.1 s0.2.2.1 x64.2) fun x71 hx71=>?_
           conv=>arg 3; whnf
           exact Zd (ih _)
          ·conv=>arg 3; whnf
           refine Zc (Zb (w64 (x64.1+1)) s0.2.1 s0.2.2.1 x64.2) (hrc (w64 (x64.1+1)) s0.2.1 s0.2.2.1 x64.2) fun x72 hx72=>?_
           conv=>arg 3; whnf
           exact Zd (ih _)
theorem ZhH (rc:Int→Int→Int→(List Int)→Option (List Int)) (hrc:∀(b:Int) (c:Int) (d:Int) (m0_0:(List Int)) (r:(List Int)),rc b c d m0_0=some r→evW ctx 140 [(.sl 0 1),(.d (Ze b)),(.d (Ze c)),(.d (Ze d))] [(.arr 1 (List.map Ze m0_0))]=some ((Zb b c d m0_0) r)) (b:Int) (c:Int) (d:Int) (m0_0:(List Int)):∀r,(Zb9 rc b c d m0_0)=some r→evW ctx 140 [(.sl 0 1),(.d (Ze b)),(.d (Ze c)),(.d (Ze d))] [(.arr 1 (List.map Ze m0_0))]=some ((Zb b c d m0_0) r):=by
 show Z5 _ (fun r rhs=>rhs=some ((Zb b c d m0_0) r)) _
 unfold Zb9
 rw[Zei ctx 140 ZwT _ _ rfl rfl]
 conv=>arg 3; whnf
 refine Zc _ (Zhz hrc _) fun r219 hr219=>?_
 conv=>arg 3; whnf
 exact Zh rfl
theorem Zfp:∀(n:Nat) (b:Int) (c:Int) (d:Int) (m0_0:(List Int)) (r:(List Int)),Zbf n b c d m0_0=some r→evW ctx 140 [(.sl 0 1),(.d (Ze b)),(.d (Ze c)),(.d (Ze d))] [(.arr 1 (List.map Ze m0_0))]=some ((Zb b c d m0_0) r)
  | 0,b,c,d,m0_0,r,h=>by cases h
  | n+1,b,c,d,m0_0,r,h=>ZhH (Zbf n) (Zfp n) b c d m0_0 r h
theorem Zh6 {b:Int} {c:Int} {d:Int} {m0_0:(List Int)}:∀r,ZeF b c d m0_0=some r→evW ctx 140 [(.sl 0 1),(.d (Ze b)),(.d (Ze c)),(.d (Ze d))] [(.arr 1 (List.map Ze m0_0))]=some ((Zb b c d m0_0) r):=fun r h=>by
  obtain⟨n,hn⟩:=Zud h
  exact Zfp n b c d m0_0 r hn
def ZgY (m0_0:(List Int)):(List Int)→V×Zn
  | r=>((.d (D.tup [])),[(.arr 1 (List.map Ze r))])
theorem ZiZ {m0_0:(List Int)}:∀r,(Zcy m0_0)=some r→evW ctx 127 [(.sl 0 1)] [(.arr 1 (List.map Ze m0_0))]=some ((ZgY m0_0) r):=by
 show Z5 _ (fun r rhs=>rhs=some ((ZgY m0_0) r)) _
 unfold Zcy
 rw[Zei ctx 127 ZwQ _ _ rfl rfl]
 conv=>arg 3; whnf
 refine Zo (Zak _ _) ?_
 conv=>arg 3; whnf
 refine Zp _ Zhp rfl fun x0 hx0=>?_
 conv=>arg 3; whnf
 refine Zc _ Zh6 fun x1 hx1=>?_
 conv=>arg 3; whnf
 exact Zh rfl
def Zhe (r:(List Int)):D:=(D.list true (List.map Ze r))
def Zgq (t1:Bool) (a:Zb4) (b0:Int):(List Int)→Ex×List V×Zn
  | r=>(.exit 0,[(.sl 0 1)],[(.arr 1 (List.map Ze r))])
theorem Zit {t1:Bool} {a:Zb4} {b0:Int}:∀(s0:Int×(List Int)) (r:(List Int)),lp (ZgR a (fun z0=>ZfA z0 b0)) s0=some r→lpW ctx 0 [1,5,11,12,13] [5] ZtU [(.d (D.fn 104 [(D.rptr [(Ze b0)])])),(.sl 0 1),(.d (D.list t1 (List.map ZF a.edges))),(.d (Ze (a.edges.length:Int))),(.d (Ze s0.1))] [(.arr 1 (List.map Ze s0.2))]=some ((Zgq t1 a b0) r):=by
 refine Za6 (Zgq t1 a b0) ?_
 intro s0 rcl ih
 show Z5 _ _ (lpW _ _ _ _ _ _ _)
 unfold ZgR
 rw[Za7]
 conv=>arg 3; whnf
 refine Zg rfl ?_ ?_
 ·conv=>arg 3; whnf
  refine Zj rfl rfl fun x1 hx1=>?_
  conv=>arg 3; whnf
  refine Zp _ Znp rfl fun x2 hx2=>?_
  conv=>arg 3; whnf
  refine Zg rfl ?_ ?_
  ·conv=>arg 3; whnf
   refine ZbC rfl ?_
   conv=>arg 3; whnf
   refine Zg (Zju Ze s0.2 1) ?_ ?_
   ·conv=>arg 3; whnf
    refine Zo (Zjq Ze s0.2 [x2.1]) ?_
    conv=>arg 3; whnf
    exact Zd (ih _)
   ·exact ZbG
  ·conv=>arg 3; whnf
   exact Zd (ih _)
 ·conv=>arg 3; whnf
  exact Zh rfl
theorem Zjh {t0:Bool} {t1:Bool} {a:Zb4} {b0:Int}:∀r,(Zlr a (fun z0=>ZfA z0 b0))=some r→evD ctx 103 [(.d (D.agg [(D.list t0 (List.map Ze a.work)),(D.list t1 (List.map ZF a.edges))])),(.d (D.fn 104 [(D.rptr [(Ze b0)])]))]=some (Zhe r):=by
 show Z5 _ (fun r rhs=>rhs=some (Zhe r)) _
 unfold Zlr
 rw[ZcN ctx 103 Zwp _ rfl rfl]
 conv=>arg 3; whnf
 refine Zo (Zak _ _) ?_
 conv=>arg 3; whnf
 refine Zc _ (Zit _) fun r3 hr3=>?_
 conv=>arg 3; whnf
 refine Zc _ ZiZ fun x4 hx4=>?_
 conv=>arg 3; whnf
 exact Zh rfl
def ZlS (r:(List Int)):D:=(D.list true (List.map Ze r))
theorem Zop {t0:Bool} {t1:Bool} {a:Zb4} {b:Int}:∀r,(Zij a b)=some r→evD ctx 59 [(.d (D.agg [(D.list t0 (List.map Ze a.work)),(D.list t1 (List.map ZF a.edges))])),(.d (Ze b))]=some (ZlS r):=by
 show Z5 _ (fun r rhs=>rhs=some (ZlS r)) _
 unfold Zij
 rw[ZcN ctx 59 Zzk _ rfl rfl]
 conv=>arg 3; whnf
 refine Zp _ Zjh rfl fun x0 hx0=>?_
 conv=>arg 3; whnf
 exact Zh rfl
def Zld (r:Bool):D:=(D.bool r)
def Zjp (t0:Bool) (t1:Bool) (a:Zb4) (c:Int) (x0:(List Int)) (s1:Int×(List Int)) (x2:Int) (x3:(List Int)):(Unit⊕(List Int))→Ex×List V×Zn
  | (.inl r)=>(.ret,[(.d (Ze c)),(.ptr 0 0),(.d (D.bool true)),(.sl 1 1),(.d (D.list true (List.map Ze x0))),(.d (Ze (x0.length:Int))),(.d (Ze s1.1))],[(.cells [(.d (D.list t0 (List.map Ze a.work))),(.d (D.list t1 (List.map ZF a.edges)))]),(.arr 1 (List.map Ze s1.2))])
  | (.inr r)=>(.exit 2,[(.d (Ze c)),(.ptr 0 0),.bad,(.sl 1 1),(.d (D.list true (List.map Ze x0))),(.d (Ze (x0.length:Int))),(.d (Ze s1.1))],[(.cells [(.d (D.list t0 (List.map Ze a.work))),(.d (D.list t1 (List.map ZF a.edges)))]),(.arr 1 (List.map Ze r))])
theorem Zmg {t0:Bool} {t1:Bool} {a:Zb4} {c:Int} {x0:(List Int)} {s1:Int×(List Int)} {x2:Int} {x3:(List Int)}:∀(s4:Int) (r:(Unit⊕(List Int))),lp (Zfm c s1 x2 x3) s4=some r→lpW ctx 0 [2,3,7,9,15,16,17,23,24,25] [2,3,6,7,15,16,17] ZwM [(.d (Ze c)),(.ptr 0 0),(.sl 1 1),(.d (Ze x2)),(.d (D.list true (List.map Ze x0))),(.d (Ze (x0.length:Int))),(.d (Ze s1.1)),(.d (D.list true (List.map Ze x3))),(.d (Ze (x3.length:Int))),(.d (Ze s4))] [(.cells [(.d (D.list t0 (List.map Ze a.work))),(.d (D.list t1 (List.map ZF a.edges)))]),(.arr 1 (List.map Ze s1.2))]=some ((Zjp t0 t1 a c x0 s1 x2 x3) r):=by
 refine Za6 (Zjp t0 t1 a c x0 s1 x2 x3) ?_
 intro s4 rcl ih
 show Z5 _ _ (lpW _ _ _ _ _ _ _)
 unfold Zfm
 rw[Za7]
 conv=>arg 3; whnf
 refine Zg rfl ?_ ?_
 ·conv=>arg 3; whnf
  refine Zj rfl rfl fun x5 hx5=>?_
  conv=>arg 3; whnf
  refine Zp _ ZfS rfl fun x6 hx6=>?_
  conv=>arg 3; whnf
  refine Zg rfl ?_ ?_
  ·conv=>arg 3; whnf
   refine Zg rfl ?_ ?_
   ·conv=>arg 3; whnf
    exact Zh rfl
   ·conv=>arg 3; whnf
    refine ZbC rfl ?_
    conv=>arg 3; whnf
    refine Zg (Zju Ze s1.2 1) ?_ ?_
    ·conv=>arg 3; whnf
     refine Zo (Zjq Ze s1.2 [x2]) ?_
     conv=>arg 3; whnf
     exact Zh rfl
    ·exact ZbG
  ·conv=>arg 3; whnf
   exact Zd (ih _)
 ·conv=>arg 3; whnf
  exact Zh rfl
def Zjw (t0:Bool) (t1:Bool) (a:Zb4) (c:Int) (x0:(List Int)):(Unit⊕Unit)→Ex×List V×Zn
  | (.inl r)=>(.ret,[(.d (D.bool true))],[])
  | (.inr r)=>(.exit 0,[.bad],[])
theorem Zmc {t0:Bool} {t1:Bool} {a:Zb4} {c:Int} {x0:(List Int)}:∀(s1:Int×(List Int)) (r:(Unit⊕Unit)),lp (Zeu a c x0) s1=some r→lpW ctx 0 [2,3,7,15,16,17] [6] Zxf [(.d (Ze c)),(.ptr 0 0),(.sl 1 1),(.d (D.list true (List.map Ze x0))),(.d (Ze (x0.length:Int))),(.d (Ze s1.1))] [(.cells [(.d (D.list t0 (List.map Ze a.work))),(.d (D.list t1 (List.map ZF a.edges)))]),(.arr 1 (List.map Ze s1.2))]=some ((Zjw t0 t1 a c x0) r):=by
 refine Za6 (Zjw t0 t1 a c x0) ?_
 intro s1 rcl ih
 show Z5 _ _ (lpW _ _ _ _ _ _ _)
 unfold Zeu
 rw[Za7]
 conv=>arg 3; whnf
 refine Zg rfl ?_ ?_
 ·conv=>arg 3; whnf
  refine Zj rfl rfl fun x2 hx2=>?_
  conv=>arg 3; whnf
  refine Zp _ Zop rfl fun x3 hx3=>?_
  conv=>arg 3; whnf
  refine Zo (Zak _ _) ?_
  conv=>arg 3; whnf
  refine Zc _ (Zmg _) fun r7 hr7=>?_
  clear hr7
  rcases r7 with r7 | r7
  ·conv=>arg 3; whnf
   exact Zh rfl
  ·conv=>arg 3; whnf
   exact Zd (ih _)
 ·conv=>arg 3; whnf
  exact Zh rfl
theorem ZkO {t0:Bool} {t1:Bool} {a:Zb4} {b:Int} {c:Int}:∀r,(ZgQ a b c)=some r→evD ctx 27 [(.d (D.agg [(D.list t0 (List.map Ze a.work)),(D.list t1 (List.map ZF a.edges))])),(.d (Ze b)),(.d (Ze c))]=some (Zld r):=by
 show Z5 _ (fun r rhs=>rhs=some (Zld r)) _
 unfold ZgQ
 rw[ZcN ctx 27 Zzf _ rfl rfl]
 conv=>arg 3; whnf
 refine Zp _ Zom rfl fun x0 hx0=>?_
 conv=>arg 3; whnf
 refine Zo (Zak _ _) ?_
 conv=>arg 3; whnf
 refine Zc _ (Zmc _) fun r8 hr8=>?_
 clear hr8
 rcases r8 with r8 | r8
 ·conv=>arg 3; whnf
  exact Zh rfl
 ·conv=>arg 3; whnf
  exact Zh rfl
def Zig (r:Bool):D:=(D.bool r)
def Zhs (t0:Bool) (t1:Bool) (t2:Bool) (t3:Bool) (a:Zu) (x3:(Zid×Int)) (s4:Int) (x5:Zt) (s6:Int):(Unit⊕Unit)→Ex×List V×Zn
  | (.inl r)=>(.ret,[(.ptr 0 0),(.d (D.bool false)),(.ptr 1 0),(.d (Ze s4)),(.ptr 2 0),(.d (Ze s6))],[(.cells (dV t0 t1 t2 t3 a)),(.cells [(.d (D.list true (List.map Ze x3.1.dag.work))),(.d (D.list true (List.map ZF x3.1.dag.edges))),(.d (D.list true (List.map Zbr x3.1.pieces)))]),(.cells [(.d (D.list true (List.map Ze x5.ins))),(.d (D.list true (List.map Ze x5.outs)))])])
  | (.inr r)=>(.exit 4,[(.ptr 0 0),.bad,(.ptr 1 0),(.d (Ze s4)),(.ptr 2 0),(.d (Ze s6))],[(.cells (dV t0 t1 t2 t3 a)),(.cells [(.d (D.list true (List.map Ze x3.1.dag.work))),(.d (D.list true (List.map ZF x3.1.dag.edges))),(.d (D.list true (List.map Zbr x3.1.pieces)))]),(.cells [(.d (D.list true (List.map Ze x5.ins))),(.d (D.list true (List.map Ze x5.outs)))])])
theorem ZjQ {t0:Bool} {t1:Bool} {t2:Bool} {t3:Bool} {a:Zu} {x3:(Zid×Int)} {s4:Int} {x5:Zt} {s6:Int}:∀(s7:Int) (r:(Unit⊕Unit)),lp (Zc3 x3 x5 s6) s7=some r→lpW ctx 0 [1,3,5,6,7,8] [1,2,3,5,6,7] ZyW [(.ptr 0 0),(.ptr 1 0),(.d (Ze s4)),(.ptr 2 0),(.d (Ze s6)),(.d (Ze s7))] [(.cells (dV t0 t1 t2 t3 a)),(.cells [(.d (D.list true (List.map Ze x3.1.dag.work))),(.d (D.list true (List.map ZF x3.1.dag.edges))),(.d (D.list true (List.map Zbr x3.1.pieces)))]),(.cells [(.d (D.list true (List.map Ze x5.ins))),(.d (D.list true (List.map Ze x5.outs)))])]=some ((Zhs t0 t1 t2 t3 a x3 s4 x5 s6) r):=by
 refine Za6 (Zhs t0 t1 t2 t3 a x3 s4 x5 s6) ?_
 intro s7 rcl ih
 show Z5 _ _ (lpW _ _ _ _ _ _ _)
 unfold Zc3
 rw[Za7]
 conv=>arg 3; whnf
 refine Zo (Zak _ _) ?_
 conv=>arg 3; whnf
 refine Zg rfl ?_ ?_
 ·conv=>arg 3; whnf
  refine Zj rfl rfl fun x8 hx8=>?_
  conv=>arg 3; whnf
  refine Zp _ ZkJ rfl fun x9 hx9=>?_
  conv=>arg 3; whnf
  refine Zj rfl rfl fun x10 hx10=>?_
  conv=>arg 3; whnf
  refine Zp _ ZkN rfl fun x11 hx11=>?_
  conv=>arg 3; whnf
  refine Zp _ ZkO rfl fun x12 hx12=>?_
  conv=>arg 3; whnf
  refine Zg rfl ?_ ?_
  ·conv=>arg 3; whnf
   exact Zd (ih _)
  ·conv=>arg 3; whnf
   exact Zh rfl
 ·conv=>arg 3; whnf
  exact Zh rfl
def Zhx (t0:Bool) (t1:Bool) (t2:Bool) (t3:Bool) (a:Zu) (x3:(Zid×Int)) (s4:Int) (x5:Zt):(Unit⊕Unit)→Ex×List V×Zn
  | (.inl r)=>(.ret,[(.ptr 0 0),(.d (D.bool false)),(.ptr 1 0),(.d (Ze s4))],[(.cells (dV t0 t1 t2 t3 a)),(.cells [(.d (D.list true (List.map Ze x3.1.dag.work))),(.d (D.list true (List.map ZF x3.1.dag.edges))),(.d (D.list true (List.map Zbr x3.1.pieces)))])])
  | (.inr r)=>(.exit 2,[(.ptr 0 0),.bad,(.ptr 1 0),(.d (Ze s4))],[(.cells (dV t0 t1 t2 t3 a)),(.cells [(.d (D.list true (List.map Ze x3.1.dag.work))),(.d (D.list true (List.map ZF x3.1.dag.edges))),(.d (D.list true (List.map Zbr x3.1.pieces)))])])
theorem ZjK {t0:Bool} {t1:Bool} {t2:Bool} {t3:Bool} {a:Zu} {x3:(Zid×Int)} {s4:Int} {x5:Zt}:∀(s6:Int) (r:(Unit⊕Unit)),lp (Zc2 x3 x5) s6=some r→lpW ctx 0 [1,3,5,6,7] [1,2,3,5] Zy4 [(.ptr 0 0),(.ptr 1 0),(.d (Ze s4)),(.ptr 2 0),(.d (Ze s6))] [(.cells (dV t0 t1 t2 t3 a)),(.cells [(.d (D.list true (List.map Ze x3.1.dag.work))),(.d (D.list true (List.map ZF x3.1.dag.edges))),(.d (D.list true (List.map Zbr x3.1.pieces)))]),(.cells [(.d (D.list true (List.map Ze x5.ins))),(.d (D.list true (List.map Ze x5.outs)))])]=some ((Zhx t0 t1 t2 t3 a x3 s4 x5) r):=by
 refine Za6 (Zhx t0 t1 t2 t3 a x3 s4 x5) ?_
 intro s6 rcl ih
 show Z5 _ _ (lpW _ _ _ _ _ _ _)
 unfold Zc2
 rw[Za7]
 conv=>arg 3; whnf
 refine Zo (Zak _ _) ?_
 conv=>arg 3; whnf
 refine Zg rfl ?_ ?_
 ·conv=>arg 3; whnf
  refine Zc _ (ZjQ _) fun r13 hr13=>?_
  clear hr13
  rcases r13 with r13 | r13
  ·conv=>arg 3; whnf
   exact Zh rfl
  ·conv=>arg 3; whnf
   exact Zd (ih _)
 ·conv=>arg 3; whnf
  exact Zh rfl
def Zhr (t0:Bool) (t1:Bool) (t2:Bool) (t3:Bool) (a:Zu) (x3:(Zid×Int)):(Unit⊕Unit)→Ex×List V×Zn
  | (.inl r)=>(.ret,[(.ptr 0 0),(.d (D.bool false)),(.ptr 1 0)],[(.cells (dV t0 t1 t2 t3 a)),(.cells [(.d (D.list true (List.map Ze x3.1.dag.work))),(.d (D.list true (List.map ZF x3.1.dag.edges))),(.d (D.list true (List.map Zbr x3.1.pieces)))])])
  | (.inr r)=>(.exit 0,[(.ptr 0 0),.bad,(.ptr 1 0)],[(.cells (dV t0 t1 t2 t3 a)),(.cells [(.d (D.list true (List.map Ze x3.1.dag.work))),(.d (D.list true (List.map ZF x3.1.dag.edges))),(.d (D.list true (List.map Zbr x3.1.pieces)))])])
theorem ZjI {t0:Bool} {t1:Bool} {t2:Bool} {t3:Bool} {a:Zu} {x3:(Zid×Int)}:∀(s4:Int) (r:(Unit⊕Unit)),lp (Zc5 a x3) s4=some r→lpW ctx 0 [1,3,5] [1,2,3] ZyP [(.ptr 0 0),(.ptr 1 0),(.d (Ze s4))] [(.cells (dV t0 t1 t2 t3 a)),(.cells [(.d (D.list true (List.map Ze x3.1.dag.work))),(.d (D.list true (List.map ZF x3.1.dag.edges))),(.d (D.list true (List.map Zbr x3.1.pieces)))])]=some ((Zhr t0 t1 t2 t3 a x3) r):=by
 refine Za6 (Zhr t0 t1 t2 t3 a x3) ?_
 intro s4 rcl ih
 show Z5 _ _ (lpW _ _ _ _ _ _ _)
 unfold Zc5
 rw[Za7]
 conv=>arg 3; whnf
 refine Zo (Zak _ _) ?_
 conv=>arg 3; whnf
 refine Zg rfl ?_ ?_
 ·conv=>arg 3; whnf
  refine Zj rfl rfl fun x5 hx5=>?_
  conv=>arg 3; whnf
  refine Zc _ (ZjK _) fun r14 hr14=>?_
  clear hr14
  rcases r14 with r14 | r14
  ·conv=>arg 3; whnf
   exact Zh rfl
  ·conv=>arg 3; whnf
   exact Zd (ih _)
 ·conv=>arg 3; whnf
  exact Zh rfl
def Zhv (t0:Bool) (t1:Bool) (t2:Bool) (t3:Bool) (a:Zu) (x3:(Zid×Int)):(Unit⊕Unit)→Ex×List V×Zn
  | (.inl r)=>(.ret,[(.d (D.bool false))],[])
  | (.inr r)=>(.exit 6,[.bad],[])
theorem ZjR {t0:Bool} {t1:Bool} {t2:Bool} {t3:Bool} {a:Zu} {x3:(Zid×Int)}:∀(s16:Int) (r:(Unit⊕Unit)),lp (Zc4 a x3) s16=some r→lpW ctx 0 [1,3,9] [2] Zzc [(.ptr 0 0),(.ptr 1 0),(.d (Ze s16))] [(.cells (dV t0 t1 t2 t3 a)),(.cells [(.d (D.list true (List.map Ze x3.1.dag.work))),(.d (D.list true (List.map ZF x3.1.dag.edges))),(.d (D.list true (List.map Zbr x3.1.pieces)))])]=some ((Zhv t0 t1 t2 t3 a x3) r):=by
 refine Za6 (Zhv t0 t1 t2 t3 a x3) ?_
 intro s16 rcl ih
 show Z5 _ _ (lpW _ _ _ _ _ _ _)
 unfold Zc4
 rw[Za7]
 conv=>arg 3; whnf
 refine Zo (Zak _ _) ?_
 conv=>arg 3; whnf
 refine Zg rfl ?_ ?_
 ·conv=>arg 3; whnf
  refine Zj rfl rfl fun x17 hx17=>?_
  conv=>arg 3; whnf
  refine Zp _ ZkJ rfl fun x18 hx18=>?_
  conv=>arg 3; whnf
  refine Zf (ZaE rfl hx17) ?_
  conv=>arg 3; whnf
  refine Zp _ ZkN rfl fun x19 hx19=>?_
  conv=>arg 3; whnf
  refine Zp _ ZkO rfl fun x20 hx20=>?_
  conv=>arg 3; whnf
  refine Zg rfl ?_ ?_
  ·conv=>arg 3; whnf
   exact Zd (ih _)
  ·conv=>arg 3; whnf
   exact Zh rfl
 ·conv=>arg 3; whnf
  exact Zh rfl
theorem ZkU {t0:Bool} {t1:Bool} {t2:Bool} {t3:Bool} {a:Zu}:∀r,(Zf7 a)=some r→evD ctx 7 [(.d (D.agg (dA t0 t1 t2 t3 a)))]=some (Zig r):=by
 show Z5 _ (fun r rhs=>rhs=some (Zig r)) _
 unfold Zf7
 rw[ZcN ctx 7 fn7 _ rfl rfl]
 conv=>arg 3; whnf
 refine Zp _ Zh5 rfl fun x0 hx0=>?_
 conv=>arg 3; whnf
 refine Zg rfl ?_ ?_
 ·conv=>arg 3; whnf
  refine Zp _ Zpn rfl fun x1 hx1=>?_
  conv=>arg 3; whnf
  refine Zg rfl ?_ ?_
  ·conv=>arg 3; whnf
   refine Zc _ ZoQ fun x2 hx2=>?_
   conv=>arg 3; whnf
   refine Zp _ Znv rfl fun x3 hx3=>?_
   conv=>arg 3; whnf
   refine Zg rfl ?_ ?_
   ·conv=>arg 3; whnf
    exact Zh rfl
   ·conv=>arg 3; whnf
    refine Zc _ (ZjI _) fun r15 hr15=>?_
    clear hr15
    rcases r15 with r15 | r15
    ·conv=>arg 3; whnf
     exact Zh rfl
    ·conv=>arg 3; whnf
     refine Zc _ (ZjR _) fun r21 hr21=>?_
     clear hr21
     rcases r21 with r21 | r21
     ·conv=>arg 3; whnf
      exact Zh rfl
     ·conv=>arg 3; whnf
      exact Zh rfl
  ·conv=>arg 3; whnf
   refine Zp _ Zh5 rfl fun x22 hx22=>?_
   conv=>arg 3; whnf
   refine Zg rfl ?_ ?_
   ·conv=>arg 3; whnf
    exact Zh rfl
   ·conv=>arg 3; whnf
    exact Zh rfl
 ·conv=>arg 3; whnf
  refine Zp _ Zh5 rfl fun x23 hx23=>?_
  conv=>arg 3; whnf
  refine Zg rfl ?_ ?_
  ·conv=>arg 3; whnf
   exact Zh rfl
  ·conv=>arg 3; whnf
   exact Zh rfl
end Go.Proofs.YtljgncbdagmeeaaDoor
namespace Go.Proofs.YtljgncbdagmeeaaDoor
open Go Go.Proofs.YtljgncbdagmeeaaDoorE
abbrev ZrO:List Lf×Bool:=([.int .i64,.int .i64,.sl true [.int .i64,.int .i64,.int .i64],.sl true [.int .i64,.int .i64],.sl true [.int .i64,.int .i64,.int .i64],.sl true [.sl false [.int .i64],.sl false [.int .i64]]],true)
end Go.Proofs.YtljgncbdagmeeaaDoor
namespace Go.Proofs.YtljgncbdagmeeaaDoor
open Go Go.Proofs.YtljgncbdagmeeaaDoorE
set_option linter.unusedVariables false
set_option linter.unusedSimpArgs false
theorem ZoZ (d:Zu):Zf7 d=some true:=by
 have aw:Zg4=some true:=rfl
 unfold Zf7
 simp only[aw,cond_true,ZAm,Option.bind_some]
 cases hf:few d with
 | false=>rfl
 | true=>
  have hz:=ZuB hf
  simp only[cond_true,ZCh d hz,Option.bind_some,show Zu.mk d.period d.deadline d.parts d.edges d.futures d.barriers=d from rfl,Zyd hz]
  rcases ZsU d with⟨h1,h2,h3⟩ | ⟨h1,h2⟩
  ·have g:=ZrM h2
   have hbl:=g.bl
   have hel:=g.el
   have l2:=Zf4 d.barriers (Zc5 d (Ze8 d,0)) (fun _ _=>false) (fun _ _=>.inl ()) (.inr ()) (fun i b hi hb=>by
    have hm:=List.mem_of_getElem? hb
    have hsz:=hz.i b hm
    have l1:=Zf4 b.ins (Zc2 (Ze8 d,0) b) (fun _ _=>false) (fun _ _=>.inl ()) (.inr ()) (fun k q hk hq=>by
     have hqi:=g.ins b hm q (List.mem_of_getElem? hq)
     have l0:=Zf4 b.outs (Zc3 (Ze8 d,0) b (k:Int)) (fun _ _=>false) (fun _ _=>.inl ()) (.inr ()) (fun m r hm2 hr=>by
      have hro:=g.outs b hm r (List.mem_of_getElem? hr)
      have w:Way (Ze8 d).dag (Zji d q) (Ziv d r):=
       (Way.one (Zqp hb (x:=⟨Zji d q,Zl4 d i⟩) (List.mem_append.2 (.inl (List.mem_map.2 ⟨q,List.mem_of_getElem? hq,rfl⟩))))).trans
        (Way.one (Zqp hb (x:=⟨Zl4 d i,Ziv d r⟩) (List.mem_append.2 (.inr (List.mem_map.2 ⟨r,List.mem_of_getElem? hr,rfl⟩)))))
      simp only[Zc3,Zgo hm2,cond_true,Zb0 hq,Zb0 hr,Option.bind_some,ZrI g hqi,Zse g hro,ZrK h3,ZsV w,ZaM hm2 (show b.outs.length<9223372036854775808 by omega),cond_false]) (by simp only[Zc3,Zho]; rfl)
     rw[ZdQ,ZhB] at l0
     have e0:(b.outs.any fun _=>false)=false:=by simp
     rw[e0] at l0
     simp only[Zc2,Zgo hk,cond_true,l0,cond_false,Option.bind_some,ZaM hk (show b.ins.length<9223372036854775808 by omega)]) (by simp only[Zc2,Zho]; rfl)
    rw[ZdQ,ZhB] at l1
    have e1:(b.ins.any fun _=>false)=false:=by simp
    rw[e1] at l1
    simp only[Zc5,Zgo hi,cond_true,Zb0 hb,Option.bind_some,l1,cond_false,ZaM hi (show d.barriers.length<9223372036854775808 by omega)]) (by simp only[Zc5,Zho]; rfl)
   rw[ZdQ,ZhB,show(d.barriers.any fun _=>false)=false by simp] at l2
   have l3:=Zf4 d.edges (Zc4 d (Ze8 d,0)) (fun _ _=>false) (fun _ _=>.inl ()) (.inr ()) (fun i e hi he=>by
    have hm:=List.mem_of_getElem? he
    simp only[Zc4,Zgo hi,cond_true,Zb0 he,Option.bind_some,ZrI g (g.src hm),Zse g (g.dst hm),ZrK h3,ZsV (Way.one (ZuG hm)),cond_false,ZaM hi (show d.edges.length<9223372036854775808 by omega)]) (by simp only[Zc4,Zho]; rfl)
   rw[ZdQ,ZhB,show(d.edges.any fun _=>false)=false by simp] at l3
   rw[h1]
   simp only[bne_self_eq_false,cond_false,l2,l3,Option.bind_some]
  ·have hne:((ZsL d).2 != 0)=true:=by rw[bne,beq_false_of_ne h2]; rfl
   rw[hne]
   rfl
theorem ZpJ (xs:List D) (h:ZiW ZrO.1 xs) :
  ∃H',evW ctx 7 (ZdO [Zya ZrO.2 xs]) []=some (.d (.bool true),H'):=by
 obtain⟨d,hd,_⟩:=ZxO h
 show ∃H',evW ctx 7 [.d (D.agg xs)] []=_
 rw[hd]
 exact ZxE (ZkU true (ZoZ d))
end Go.Proofs.YtljgncbdagmeeaaDoor
namespace Go.Proofs.YtljgncbdagmeeaaDoor.LawLowBarrier
open Go.ChangeShapes Go.WideShapes Go.ChangeAt Go.RowKit Go.Proofs.YtljgncbdagmeeaaDoorE
set_option linter.unusedVariables false
theorem own:ownKnob Tryd.prog.godebug=none:=by kernel_rfl
theorem Zyh:laidOutB Tryd.prog=true:=by kernel_rfl
def ZpD : List (String × DataW Unit) := [("math/bits.deBruijn32tab", Rows.laid_math_bits_deBruijn32tab), ("math/bits.deBruijn64tab", Rows.laid_math_bits_deBruijn64tab)]
theorem Zxh (os:Os) (args:Array Value):laidMetH Tryd.prog ZpD ((World.doorLaid Tryd.prog 19 os).forCall (fun _ _=>0) ⟨#[],args,[]⟩).memory:=
 laidMetH_of_parts3 (fuel:=8) (laidMet_of_run' 8 (by kernel_rfl) (by kernel_rfl)) (by kernel_rfl) (by kernel_rfl)
theorem ZvW {W:World} (h:laidMetH Tryd.prog ZpD W):GOK ZD R0 W:=by
 intro g l hg
 unfold ZD at hg
 split at hg
 ·cases hg
  exact Zpf (t := 170) (N := 32) (e := 5) (k := .u8) h (by kernel_rfl) (n := "math/bits.deBruijn32tab") (by rw [show DataW.agg (Zmm Zy3) = Rows.laid_math_bits_deBruijn32tab by kernel_rfl]; simp [ZpD]) (by kernel_rfl) (by kernel_rfl) (by kernel_rfl) (by kernel_rfl) (by kernel_rfl) (by kernel_rfl) (by decide)
 ·cases hg
  exact Zpf (t := 171) (N := 64) (e := 5) (k := .u8) h (by kernel_rfl) (n := "math/bits.deBruijn64tab") (by rw [show DataW.agg (Zmm ZyT) = Rows.laid_math_bits_deBruijn64tab by kernel_rfl]; simp [ZpD]) (by kernel_rfl) (by kernel_rfl) (by kernel_rfl) (by kernel_rfl) (by kernel_rfl) (by kernel_rfl) (by decide)
 ·cases hg
theorem ZzM (os:Os) (started:os.Started) (H:Type) (enc:TypeId×Value→H) :
  ReturnsInHanded {} Tryd.checked os 7 .any (fun w args=>(Rows.lowBarrierSpec.pre enc Tryd.prog Tryd.f7 [] false w args∧laidMetH Tryd.prog ZpD w)∧sizedMet enc Tryd.prog Tryd.f7 (OpenSpec.ofChange Rows.lowBarrierSpec) false w args) (Rows.lowBarrierSpec.post enc Tryd.prog Tryd.f7 false true false false):=by
 refine returnsInHanded_of_change_and (C:=Tryd.checked) (X:=fun w _=>laidMetH Tryd.prog ZpD w) (fun _ _ _ hh h=>h.of_heap hh) own started (by kernel_rfl) Tryd.func7
  (ChangeSpec.witness_shaped (enc:=enc) (C:=Tryd.checked) (os:=os) (X:=fun w _=>laidMetH Tryd.prog ZpD w) false (World.doorLaid Tryd.prog 19 os) #[.agg #[.int .i64 0,.int .i64 0,.slice none 0 0,.slice none 0 0,.slice none 0 0,.slice none 0 0]] 8 rfl (World.shaped_of_RefB (by kernel_rfl) (by kernel_rfl)) (by kernel_rfl) (by kernel_rfl) (by kernel_rfl) (Zxh os _)) ?_
 intro W base args ds gs before hval0 hW _ _ hL _
 have hval:∀(j:Nat) t v,Tryd.f7.params[j]? = some t→args[j]? = some v→Value.okWide Tryd.prog W .any base t v:=hval0
 have hW':=hW
 obtain⟨p,q,hA0,hV,rfl,hfz,hnd⟩:=hW
 have hA:DataW.TrodAll enc Tryd.prog W 0 (fun _=>true) true Tryd.f7.params.toList args.toList ds p:=hA0
 rw[Tryd.params7] at hA hval
 obtain⟨v0,vs0,d0,ds0,p0,q0,hargs,rfl,rfl,h0,r0⟩:=trodAll_cons hA
 obtain⟨rfl,rfl,rfl⟩:=trodAll_nil r0
 obtain rfl:args = #[v0]:=by cases args; simp_all
 obtain⟨rfl,rfl⟩:=trodVars_none hV
 have lt0:∀x∈p0,x.block<W.heap.size:=by obtain⟨m,hm⟩:=h0; exact DataW.trod_lt m _ _ _ hm
 obtain⟨x0,ok0,den0⟩:=Zzr (P:=Tryd.prog) (n:=8) (t:=27) (l:=ZrO.1) (ag:=ZrO.2) (by kernel_rfl) (hval 0 27 v0 rfl rfl) h0
 obtain⟨H1,ev⟩:=ZpJ x0 ok0
 have den:ZbJ All All All W [Zya ZrO.2 x0] [v0]:=⟨_,_,rfl,den0,rfl⟩
 refine(Zu7 ZBi (ZvW hL) den ev).mono fun e W' ⟨he,bel⟩=>?_
 subst he
 exact⟨_,rfl,_,_,_,[],_,[],hW',trodAll_mk1 (shut_bool Tryd.underlying4 _),(trodAll_cons_mk (Below.trod Zyh (by kernel_rfl) (of_decide_eq_true (by kernel_rfl)) h0 bel lt0) trodAll_mk0),rfl,bel.frame _,fun h=>by cases h⟩
theorem over:Rows.lowBarrierRow.holds Tryd.pinned (OpenSpec.ofChange Rows.lowBarrierSpec):=
 OpenClaim.holds_of_wide 7 Tryd.f7 rfl rfl rfl rfl rfl rfl rfl ⟨rfl,rfl,rfl,rfl,rfl⟩ rfl rfl rfl rfl rfl (by kernel_rfl) Tryd.func7 (by kernel_rfl)
  (of_decide_eq_true (by kernel_rfl)) (by unfold Func.isWrapper; first | (rw[if_pos (by decide +kernel)]; kernel_rfl) | (rw[if_neg (by decide +kernel)]; exact⟨rfl,rfl⟩))
  (fun os started H enc _=>ZzM os started H enc)
theorem proved:Rows.LowBarrierSaid:=over
theorem carded:Rows.LowBarrierCardSaid:=
 Claim7.holds_tied_plain_at .later [] [.data, .data] true (true, "d907b5d9381713682315e2e2b6cdc9b83e8277611de7aab9efce85a6aaa9d615") false
  proved (fun _ h=>by cases h) (by kernel_rfl) (fun _ h=>by cases h) lowBarrier_row_tie rfl ⟨rfl,rfl⟩ (by kernel_rfl) rfl
  (fun f fn hf hfn=>by
   obtain rfl : f = 7 := Option.some.inj ((show Tryd.prog.funcNamed "trefoil/trefoillaw07.LowBarrier" = some 7 by kernel_rfl).symm.trans hf) |>.symm
   obtain rfl:fn=Tryd.f7:=(Option.some.inj (Tryd.func7.symm.trans hfn)).symm
   exact⟨by kernel_rfl,fun j t ht=>by
    rw[Tryd.params7] at ht
    have hm:t∈[27]:=by simpa using Array.mem_of_getElem? ht
    have hall:([27].all fun u=>!Tryd.prog.wantsStandIn u)=true:=by kernel_rfl
    exact(show Tryd.prog.wantsStandIn t=false by simpa using List.all_eq_true.1 hall t hm)⟩)
  (by kernel_rfl)
end Go.Proofs.YtljgncbdagmeeaaDoor.LawLowBarrier
namespace Go.Proofs.YtljgncbdagmeeaaDoor
theorem lowBarrier_holds:Rows.LowBarrierCardSaid:=LawLowBarrier.carded
#print axioms lowBarrier_holds
end Go.Proofs.YtljgncbdagmeeaaDoor
