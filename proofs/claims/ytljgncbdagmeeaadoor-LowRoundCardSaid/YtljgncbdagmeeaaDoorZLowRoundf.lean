/- LowRound: part 6 of 6 of the proof: the row and the card of the law, out of what the evaluator says of it; without conditions. -/
import Derived.Test.YtljgncbdagmeeaaDoorZLowRounde
import Derived.KernelRfl
import Derived.Test.YtljgncbdagmeeaaDoorRows
import Derived.Test.YtljgncbdagmeeaaDoorCards
import Derived.Test.YtljgncbdagmeeaaDoorTie
import Derived.WalkKit
import Derived.ProofKit
import Derived.OpenShut
import Derived.ShutString
import Derived.ChangeOld
import Derived.Below
import Derived.SizedLaws
import Derived.Handed
import Derived.LaidMore
import Derived.Stop.Joined
import Derived.ChangeShapes
import Derived.Carry
import Derived.SevenTiedAt
set_option maxRecDepth 100000
set_option maxHeartbeats 40000000
namespace Go.Proofs.YtljgncbdagmeeaaDoor
open Go Go.Proofs.YtljgncbdagmeeaaDoorE
set_option linter.unusedVariables false
set_option linter.unusedSimpArgs false
def Zh1 (b:Int) (c:Int) (m1_0:(List Int)) (m2_0:(List Zo)) (m3_0:(List Zi)) (m4_0:(List (Int×Int))) (m5_0:(List (Int×Int))) (m6_0:(List (Zk×Int))):Unit→V×Zp
  | r=>((.d (D.tup [])),[(.cells [(.sl 1 1),(.sl 7 2),(.sl 3 2),(.mp 4),(.mp 5),(.mp 6)]),(.arr 1 (List.map Ze m1_0)),.dead,(.arr 2 (List.map Zca m3_0)),(.mp (mpD Ze Ze m4_0)),(.mp (mpD Ze Ze m5_0)),(.mp (mpD Zt Ze m6_0)),(.arr 2 (List.map ZI (m2_0++[(Zo.mk b c)])))])
theorem Zbb {b:Int}{c:Int}{m1_0:(List Int)}{m2_0:(List Zo)}{m3_0:(List Zi)}{m4_0:(List (Int×Int))}{m5_0:(List (Int×Int))}{m6_0:(List (Zk×Int))}:∀r,(ZX b c m2_0)=some r→evW ctx 43 [(.ptr 0 0),(.d (Ze b)),(.d (Ze c))] [(.cells [(.sl 1 1),(.sl 2 2),(.sl 3 2),(.mp 4),(.mp 5),(.mp 6)]),(.arr 1 (List.map Ze m1_0)),(.arr 2 (List.map ZI m2_0)),(.arr 2 (List.map Zca m3_0)),(.mp (mpD Ze Ze m4_0)),(.mp (mpD Ze Ze m5_0)),(.mp (mpD Zt Ze m6_0))]=some ((Zh1 b c m1_0 m2_0 m3_0 m4_0 m5_0 m6_0) r):=by
 show Z6 _ (fun r rhs=>rhs=some ((Zh1 b c m1_0 m2_0 m3_0 m4_0 m5_0 m6_0) r)) _
 unfold ZX
 rw[Zej ctx 43 ZAB _ _ rfl rfl]
 conv=>arg 3;whnf
 refine Zbx rfl ?_;conv=>arg 3;whnf
 refine Zg (ZiW ZI m2_0 1) ?_ ?_
 ·conv=>arg 3;whnf
  refine Zq (ZiU ZI m2_0 [(Zo.mk b c)]) ?_;conv=>arg 3;whnf
  exact Zh rfl
 ·exact ZbA
def Zh0 (t0:Bool) (t1:Bool) (t2:Bool) (t3:Bool) (b:Zn) (c:Int) (m1_0:(List Int)) (m2_0:(List Zo)) (m3_0:(List Zi)) (m4_0:(List (Int×Int))) (m5_0:(List (Int×Int))) (m6_0:(List (Zk×Int))):(((List (Int×Int))×(List (Zk×Int))×(List Int)×(List Zo)×(List Zi))⊕((List Int)⊕Unit))→V×Zp
  | (.inl r)=>((.d (D.tup [])),[(.cells [(.sl 7 1),(.sl 8 2),(.sl 9 2),(.mp 4),(.mp 5),(.mp 6)]),.dead,.dead,.dead,(.mp (mpD Ze Ze (Zx (fun ka kb:Int=>(ka==kb)) m4_0 c (m3_0.length:Int)))),(.mp (mpD Ze Ze r.1)),(.mp (mpD Zt Ze r.2.1)),(.arr 1 (List.map Ze r.2.2.1)),(.arr 2 (List.map ZI r.2.2.2.1)),(.arr 2 (List.map Zca r.2.2.2.2))])
  | (.inr (.inl r))=>((.d (D.tup [])),[(.cells [(.sl 7 1),(.sl 2 2),(.sl 8 2),(.mp 4),(.mp 5),(.mp 6)]),.dead,(.arr 2 (List.map ZI m2_0)),.dead,(.mp (mpD Ze Ze (Zx (fun ka kb:Int=>(ka==kb)) m4_0 c (m3_0.length:Int)))),(.mp (mpD Ze Ze (Zx (fun ka kb:Int=>(ka==kb)) m5_0 c (w64 ((List.length (m3_0++[(Zi.mk c 0)]):Int)-1))))),(.mp (mpD Zt Ze m6_0)),(.arr 1 (List.map Ze r)),(.arr 2 (List.map Zca (m3_0++[(Zi.mk c 0)])))])
  | (.inr (.inr r))=>((.d (D.tup [])),[(.cells [(.sl 1 1),(.sl 2 2),(.sl 3 2),(.mp 4),(.mp 5),(.mp 6)]),(.arr 1 (List.map Ze m1_0)),(.arr 2 (List.map ZI m2_0)),(.arr 2 (List.map Zca m3_0)),(.mp (mpD Ze Ze (Zx (fun ka kb:Int=>(ka==kb)) m4_0 c (m3_0.length:Int)))),(.mp (mpD Ze Ze m5_0)),(.mp (mpD Zt Ze m6_0))])
def Zhp (t0:Bool) (t1:Bool) (t2:Bool) (t3:Bool) (b:Zn) (c:Int) (m3_0:(List Zi)) (m4_0:(List (Int×Int))) (x0:(List Int)):((List (Int×Int))×(List (Zk×Int))×(List Int)×(List Zo)×(List Zi))→Ex×List V×Zp
  | r=>(.exit 0,[],[(.cells [(.sl 7 1),(.sl 8 2),(.sl 9 2),(.mp 4),(.mp 5),(.mp 6)]),.dead,.dead,.dead,(.mp (mpD Ze Ze (Zx (fun ka kb:Int=>(ka==kb)) m4_0 c (m3_0.length:Int)))),(.mp (mpD Ze Ze r.1)),(.mp (mpD Zt Ze r.2.1)),(.arr 1 (List.map Ze r.2.2.1)),(.arr 2 (List.map ZI r.2.2.2.1)),(.arr 2 (List.map Zca r.2.2.2.2))])
theorem ZdJ {t0:Bool}{t1:Bool}{t2:Bool}{t3:Bool}{b:Zn}{c:Int}{m3_0:(List Zi)}{m4_0:(List (Int×Int))}{x0:(List Int)}:∀(s14:Int×Int×(List (Int×Int))×(List (Zk×Int))×(List Int)×(List Zo)×(List Zi)) (r:((List (Int×Int))×(List (Zk×Int))×(List Int)×(List Zo)×(List Zi))),lp (ZF b c x0) s14=some r→lpW ctx 7 [0,2,4,6,7,26,27] [] ZpS [(.ptr 0 0),(.d (Ze c)),(.ptr 7 0),(.d (Ze s14.1)),(.d (D.list true (List.map Ze x0))),(.d (Ze (w64 ((x0.length:Int)+1)))),(.d (Ze s14.2.1))] [(.cells [(.sl 8 1),(.sl 9 2),(.sl 10 2),(.mp 4),(.mp 5),(.mp 6)]),.dead,.dead,.dead,(.mp (mpD Ze Ze (Zx (fun ka kb:Int=>(ka==kb)) m4_0 c (m3_0.length:Int)))),(.mp (mpD Ze Ze s14.2.2.1)),(.mp (mpD Zt Ze s14.2.2.2.1)),(.cells (dV t0 t1 t2 t3 b)),(.arr 1 (List.map Ze s14.2.2.2.2.1)),(.arr 2 (List.map ZI s14.2.2.2.2.2.1)),(.arr 2 (List.map Zca s14.2.2.2.2.2.2))]=some ((Zhp t0 t1 t2 t3 b c m3_0 m4_0 x0) r):=by
 refine Zbc (Zhp t0 t1 t2 t3 b c m3_0 m4_0 x0) ?_
 intro s14 rcl ih
 show Z6 _ _ (lpW _ _ _ _ _ _ _)
 unfold ZF
 rw[Zbd]
 conv=>arg 3;whnf
 refine Zg rfl ?_ ?_<;>conv=>arg 3;whnf
 ·refine Zj rfl rfl fun x15 hx15=>?_;conv=>arg 3;whnf
  refine Zq (Zal _ _) ?_;conv=>arg 3;whnf
  refine Zg rfl ?_ ?_<;>conv=>arg 3;whnf
  ·refine Zj rfl rfl fun x16 hx16=>?_;conv=>arg 3;whnf
   refine Zj rfl rfl fun x17 hx17=>?_;conv=>arg 3;whnf
   refine Zc _ Zbr fun x18 hx18=>?_;conv=>arg 3;whnf
   refine Zf (Ze4 (f:=Ze) (g:=Ze) (fun ka kb:Int=>(ka==kb)) (fun _ _=>rfl) s14.2.2.1 c (w64 ((List.length (s14.2.2.2.2.2.2++[(Zi.mk c s14.2.1)]):Int)-1))) ?_;conv=>arg 3;whnf
   refine Zg rfl ?_ ?_<;>conv=>arg 3;whnf
   ·refine Zf (Zcu (f:=Ze) (g:=Ze) (fun ka kb:Int=>(ka==kb)) (fun _ _=>rfl) (Zx (fun ka kb:Int=>(ka==kb)) s14.2.2.1 c (w64 ((List.length (s14.2.2.2.2.2.2++[(Zi.mk c s14.2.1)]):Int)-1))) c 0) ?_;conv=>arg 3;whnf
    refine Zf (Zcu (f:=Ze) (g:=Ze) (fun ka kb:Int=>(ka==kb)) (fun _ _=>rfl) (Zx (fun ka kb:Int=>(ka==kb)) s14.2.2.1 c (w64 ((List.length (s14.2.2.2.2.2.2++[(Zi.mk c s14.2.1)]):Int)-1))) c 0) ?_;conv=>arg 3;whnf
    refine Zc _ Zbb fun x19 hx19=>?_;conv=>arg 3;whnf
    refine Zj rfl rfl fun x20 hx20=>?_;conv=>arg 3;whnf
    refine Zj rfl rfl fun x21 hx21=>?_;conv=>arg 3;whnf
    refine Zf (Zcu (f:=Ze) (g:=Ze) (fun ka kb:Int=>(ka==kb)) (fun _ _=>rfl) (Zx (fun ka kb:Int=>(ka==kb)) s14.2.2.1 c (w64 ((List.length (s14.2.2.2.2.2.2++[(Zi.mk c s14.2.1)]):Int)-1))) c 0) ?_;conv=>arg 3;whnf
    refine Zf (Ze4 (f:=Zt) (g:=Ze) (fun ka kb:Zk=>((ka.maker==kb.maker)&&((ka.user==kb.user)&&((ka.pos==kb.pos)&&true)))) (fun _ _=>rfl) s14.2.2.2.1 x21 (ZaL (fun ka kb:Int=>(ka==kb)) (Zx (fun ka kb:Int=>(ka==kb)) s14.2.2.1 c (w64 ((List.length (s14.2.2.2.2.2.2++[(Zi.mk c s14.2.1)]):Int)-1))) c 0)) ?_;conv=>arg 3;whnf
    exact Zd (ih _)
   ·exact Zd (ih _)
  ·refine Zc _ Zbr fun x22 hx22=>?_;conv=>arg 3;whnf
   refine Zf (Ze4 (f:=Ze) (g:=Ze) (fun ka kb:Int=>(ka==kb)) (fun _ _=>rfl) s14.2.2.1 c (w64 ((List.length (s14.2.2.2.2.2.2++[(Zi.mk c s14.2.1)]):Int)-1))) ?_;conv=>arg 3;whnf
   refine Zg rfl ?_ ?_<;>conv=>arg 3;whnf
   ·refine Zf (Zcu (f:=Ze) (g:=Ze) (fun ka kb:Int=>(ka==kb)) (fun _ _=>rfl) (Zx (fun ka kb:Int=>(ka==kb)) s14.2.2.1 c (w64 ((List.length (s14.2.2.2.2.2.2++[(Zi.mk c s14.2.1)]):Int)-1))) c 0) ?_;conv=>arg 3;whnf
    refine Zf (Zcu (f:=Ze) (g:=Ze) (fun ka kb:Int=>(ka==kb)) (fun _ _=>rfl) (Zx (fun ka kb:Int=>(ka==kb)) s14.2.2.1 c (w64 ((List.length (s14.2.2.2.2.2.2++[(Zi.mk c s14.2.1)]):Int)-1))) c 0) ?_;conv=>arg 3;whnf
    refine Zc _ Zbb fun x23 hx23=>?_;conv=>arg 3;whnf
    refine Zj rfl rfl fun x24 hx24=>?_;conv=>arg 3;whnf
    refine Zj rfl rfl fun x25 hx25=>?_;conv=>arg 3;whnf
    refine Zf (Zcu (f:=Ze) (g:=Ze) (fun ka kb:Int=>(ka==kb)) (fun _ _=>rfl) (Zx (fun ka kb:Int=>(ka==kb)) s14.2.2.1 c (w64 ((List.length (s14.2.2.2.2.2.2++[(Zi.mk c s14.2.1)]):Int)-1))) c 0) ?_;conv=>arg 3;whnf
    refine Zf (Ze4 (f:=Zt) (g:=Ze) (fun ka kb:Zk=>((ka.maker==kb.maker)&&((ka.user==kb.user)&&((ka.pos==kb.pos)&&true)))) (fun _ _=>rfl) s14.2.2.2.1 x25 (ZaL (fun ka kb:Int=>(ka==kb)) (Zx (fun ka kb:Int=>(ka==kb)) s14.2.2.1 c (w64 ((List.length (s14.2.2.2.2.2.2++[(Zi.mk c s14.2.1)]):Int)-1))) c 0)) ?_;conv=>arg 3;whnf
    exact Zd (ih _)
   ·exact Zd (ih _)
 ·exact Zh rfl
def ZgO (t0:Bool) (t1:Bool) (t2:Bool) (t3:Bool) (b:Zn) (c:Int) (m1_0:(List Int)) (m2_0:(List Zo)) (m3_0:(List Zi)) (m4_0:(List (Int×Int))) (m5_0:(List (Int×Int))) (m6_0:(List (Zk×Int))) (x0:(List Int)) (x4:Zk):(((List (Int×Int))×(List (Zk×Int))×(List Int)×(List Zo)×(List Zi))⊕Unit)→Ex×List V×Zp
  | (.inl r)=>(.exit 0,[],[(.cells [(.sl 7 1),(.sl 8 2),(.sl 9 2),(.mp 4),(.mp 5),(.mp 6)]),.dead,.dead,.dead,(.mp (mpD Ze Ze (Zx (fun ka kb:Int=>(ka==kb)) m4_0 c (m3_0.length:Int)))),(.mp (mpD Ze Ze r.1)),(.mp (mpD Zt Ze r.2.1)),(.arr 1 (List.map Ze r.2.2.1)),(.arr 2 (List.map ZI r.2.2.2.1)),(.arr 2 (List.map Zca r.2.2.2.2))])
  | (.inr r)=>(.exit 0,[],[(.cells [(.sl 7 1),(.sl 2 2),(.sl 8 2),(.mp 4),(.mp 5),(.mp 6)]),.dead,(.arr 2 (List.map ZI m2_0)),.dead,(.mp (mpD Ze Ze (Zx (fun ka kb:Int=>(ka==kb)) m4_0 c (m3_0.length:Int)))),(.mp (mpD Ze Ze (Zx (fun ka kb:Int=>(ka==kb)) m5_0 c (w64 ((List.length (m3_0++[(Zi.mk c 0)]):Int)-1))))),(.mp (mpD Zt Ze m6_0)),(.arr 1 (List.map Ze (m1_0++[(w64 (x4.pos-0))]))),(.arr 2 (List.map Zca (m3_0++[(Zi.mk c 0)])))])
theorem ZiO {t0:Bool}{t1:Bool}{t2:Bool}{t3:Bool}{b:Zn}{c:Int}{m1_0:(List Int)}{m2_0:(List Zo)}{m3_0:(List Zi)}{m4_0:(List (Int×Int))}{m5_0:(List (Int×Int))}{m6_0:(List (Zk×Int))}{x0:(List Int)}{x4:Zk}:∀(s6:Unit) (r:(((List (Int×Int))×(List (Zk×Int))×(List Int)×(List Zo)×(List Zi))⊕Unit)),lp (Zck b c m1_0 m2_0 m3_0 m5_0 m6_0 x0 x4) s6=some r→lpW ctx 7 [0,2,4,6,7,26,27] [] ZpS [(.ptr 0 0),(.d (Ze c)),(.ptr 7 0),(.d (Ze x4.pos)),(.d (D.list true (List.map Ze x0))),(.d (Ze (w64 ((x0.length:Int)+1)))),(.d (Ze 1))] [(.cells [(.sl 8 1),(.sl 2 2),(.sl 9 2),(.mp 4),(.mp 5),(.mp 6)]),.dead,(.arr 2 (List.map ZI m2_0)),.dead,(.mp (mpD Ze Ze (Zx (fun ka kb:Int=>(ka==kb)) m4_0 c (m3_0.length:Int)))),(.mp (mpD Ze Ze (Zx (fun ka kb:Int=>(ka==kb)) m5_0 c (w64 ((List.length (m3_0++[(Zi.mk c 0)]):Int)-1))))),(.mp (mpD Zt Ze m6_0)),(.cells (dV t0 t1 t2 t3 b)),(.arr 1 (List.map Ze (m1_0++[(w64 (x4.pos-0))]))),(.arr 2 (List.map Zca (m3_0++[(Zi.mk c 0)])))]=some ((ZgO t0 t1 t2 t3 b c m1_0 m2_0 m3_0 m4_0 m5_0 m6_0 x0 x4) r):=by
 refine Zbc (ZgO t0 t1 t2 t3 b c m1_0 m2_0 m3_0 m4_0 m5_0 m6_0 x0 x4) ?_
 intro s6 rcl ih
 show Z6 _ _ (lpW _ _ _ _ _ _ _)
 unfold Zck
 rw[Zbd]
 conv=>arg 3;whnf
 refine Zg rfl ?_ ?_<;>conv=>arg 3;whnf
 ·refine Zj rfl rfl fun x7 hx7=>?_;conv=>arg 3;whnf
  refine Zq (Zal _ _) ?_;conv=>arg 3;whnf
  refine Zg rfl ?_ ?_<;>conv=>arg 3;whnf
  ·refine Zj rfl rfl fun x8 hx8=>?_;conv=>arg 3;whnf
   refine Zj rfl rfl fun x9 hx9=>?_;conv=>arg 3;whnf
   refine Zc _ Zbr fun x10 hx10=>?_;conv=>arg 3;whnf
   refine Zf (Ze4 (f:=Ze) (g:=Ze) (fun ka kb:Int=>(ka==kb)) (fun _ _=>rfl) (Zx (fun ka kb:Int=>(ka==kb)) m5_0 c (w64 ((List.length (m3_0++[(Zi.mk c 0)]):Int)-1))) c (w64 ((List.length ((m3_0++[(Zi.mk c 0)])++[(Zi.mk c 1)]):Int)-1))) ?_;conv=>arg 3;whnf
   refine Zbx rfl ?_;conv=>arg 3;whnf
   refine Zf (Zcu (f:=Ze) (g:=Ze) (fun ka kb:Int=>(ka==kb)) (fun _ _=>rfl) (Zx (fun ka kb:Int=>(ka==kb)) (Zx (fun ka kb:Int=>(ka==kb)) m5_0 c (w64 ((List.length (m3_0++[(Zi.mk c 0)]):Int)-1))) c (w64 ((List.length ((m3_0++[(Zi.mk c 0)])++[(Zi.mk c 1)]):Int)-1))) c 0) ?_;conv=>arg 3;whnf
   refine Zf (Zcu (f:=Ze) (g:=Ze) (fun ka kb:Int=>(ka==kb)) (fun _ _=>rfl) (Zx (fun ka kb:Int=>(ka==kb)) (Zx (fun ka kb:Int=>(ka==kb)) m5_0 c (w64 ((List.length (m3_0++[(Zi.mk c 0)]):Int)-1))) c (w64 ((List.length ((m3_0++[(Zi.mk c 0)])++[(Zi.mk c 1)]):Int)-1))) c 0) ?_;conv=>arg 3;whnf
   refine Zc _ Zbb fun x11 hx11=>?_;conv=>arg 3;whnf
   refine Zj rfl rfl fun x12 hx12=>?_;conv=>arg 3;whnf
   refine Zj rfl rfl fun x13 hx13=>?_;conv=>arg 3;whnf
   refine Zf (Zcu (f:=Ze) (g:=Ze) (fun ka kb:Int=>(ka==kb)) (fun _ _=>rfl) (Zx (fun ka kb:Int=>(ka==kb)) (Zx (fun ka kb:Int=>(ka==kb)) m5_0 c (w64 ((List.length (m3_0++[(Zi.mk c 0)]):Int)-1))) c (w64 ((List.length ((m3_0++[(Zi.mk c 0)])++[(Zi.mk c 1)]):Int)-1))) c 0) ?_;conv=>arg 3;whnf
   refine Zf (Ze4 (f:=Zt) (g:=Ze) (fun ka kb:Zk=>((ka.maker==kb.maker)&&((ka.user==kb.user)&&((ka.pos==kb.pos)&&true)))) (fun _ _=>rfl) m6_0 x13 (ZaL (fun ka kb:Int=>(ka==kb)) (Zx (fun ka kb:Int=>(ka==kb)) (Zx (fun ka kb:Int=>(ka==kb)) m5_0 c (w64 ((List.length (m3_0++[(Zi.mk c 0)]):Int)-1))) c (w64 ((List.length ((m3_0++[(Zi.mk c 0)])++[(Zi.mk c 1)]):Int)-1))) c 0)) ?_;conv=>arg 3;whnf
   refine Zc _ (ZdJ _) fun r26 hr26=>?_;conv=>arg 3;whnf
   exact Zh rfl
  ·refine Zc _ Zbr fun x27 hx27=>?_;conv=>arg 3;whnf
   refine Zf (Ze4 (f:=Ze) (g:=Ze) (fun ka kb:Int=>(ka==kb)) (fun _ _=>rfl) (Zx (fun ka kb:Int=>(ka==kb)) m5_0 c (w64 ((List.length (m3_0++[(Zi.mk c 0)]):Int)-1))) c (w64 ((List.length ((m3_0++[(Zi.mk c 0)])++[(Zi.mk c 1)]):Int)-1))) ?_;conv=>arg 3;whnf
   refine Zbx rfl ?_;conv=>arg 3;whnf
   refine Zf (Zcu (f:=Ze) (g:=Ze) (fun ka kb:Int=>(ka==kb)) (fun _ _=>rfl) (Zx (fun ka kb:Int=>(ka==kb)) (Zx (fun ka kb:Int=>(ka==kb)) m5_0 c (w64 ((List.length (m3_0++[(Zi.mk c 0)]):Int)-1))) c (w64 ((List.length ((m3_0++[(Zi.mk c 0)])++[(Zi.mk c 1)]):Int)-1))) c 0) ?_;conv=>arg 3;whnf
   refine Zf (Zcu (f:=Ze) (g:=Ze) (fun ka kb:Int=>(ka==kb)) (fun _ _=>rfl) (Zx (fun ka kb:Int=>(ka==kb)) (Zx (fun ka kb:Int=>(ka==kb)) m5_0 c (w64 ((List.length (m3_0++[(Zi.mk c 0)]):Int)-1))) c (w64 ((List.length ((m3_0++[(Zi.mk c 0)])++[(Zi.mk c 1)]):Int)-1))) c 0) ?_;conv=>arg 3;whnf
   refine Zc _ Zbb fun x28 hx28=>?_;conv=>arg 3;whnf
   refine Zj rfl rfl fun x29 hx29=>?_;conv=>arg 3;whnf
   refine Zj rfl rfl fun x30 hx30=>?_;conv=>arg 3;whnf
   refine Zf (Zcu (f:=Ze) (g:=Ze) (fun ka kb:Int=>(ka==kb)) (fun _ _=>rfl) (Zx (fun ka kb:Int=>(ka==kb)) (Zx (fun ka kb:Int=>(ka==kb)) m5_0 c (w64 ((List.length (m3_0++[(Zi.mk c 0)]):Int)-1))) c (w64 ((List.length ((m3_0++[(Zi.mk c 0)])++[(Zi.mk c 1)]):Int)-1))) c 0) ?_;conv=>arg 3;whnf
   refine Zf (Ze4 (f:=Zt) (g:=Ze) (fun ka kb:Zk=>((ka.maker==kb.maker)&&((ka.user==kb.user)&&((ka.pos==kb.pos)&&true)))) (fun _ _=>rfl) m6_0 x30 (ZaL (fun ka kb:Int=>(ka==kb)) (Zx (fun ka kb:Int=>(ka==kb)) (Zx (fun ka kb:Int=>(ka==kb)) m5_0 c (w64 ((List.length (m3_0++[(Zi.mk c 0)]):Int)-1))) c (w64 ((List.length ((m3_0++[(Zi.mk c 0)])++[(Zi.mk c 1)]):Int)-1))) c 0)) ?_;conv=>arg 3;whnf
   refine Zc _ (ZdJ _) fun r43 hr43=>?_;conv=>arg 3;whnf
   exact Zh rfl
 ·exact Zh rfl
def ZgS (t0:Bool) (t1:Bool) (t2:Bool) (t3:Bool) (b:Zn) (c:Int) (m1_0:(List Int)) (m2_0:(List Zo)) (m3_0:(List Zi)) (m4_0:(List (Int×Int))) (m5_0:(List (Int×Int))) (m6_0:(List (Zk×Int))) (x0:(List Int)) (x2:Zam):(((List (Int×Int))×(List (Zk×Int))×(List Int)×(List Zo)×(List Zi))⊕Unit)→Ex×List V×Zp
  | (.inl r)=>(.exit 0,[],[(.cells [(.sl 7 1),(.sl 8 2),(.sl 9 2),(.mp 4),(.mp 5),(.mp 6)]),.dead,.dead,.dead,(.mp (mpD Ze Ze (Zx (fun ka kb:Int=>(ka==kb)) m4_0 c (m3_0.length:Int)))),(.mp (mpD Ze Ze r.1)),(.mp (mpD Zt Ze r.2.1)),(.arr 1 (List.map Ze r.2.2.1)),(.arr 2 (List.map ZI r.2.2.2.1)),(.arr 2 (List.map Zca r.2.2.2.2))])
  | (.inr r)=>(.exit 0,[],[(.cells [(.sl 7 1),(.sl 2 2),(.sl 8 2),(.mp 4),(.mp 5),(.mp 6)]),.dead,(.arr 2 (List.map ZI m2_0)),.dead,(.mp (mpD Ze Ze (Zx (fun ka kb:Int=>(ka==kb)) m4_0 c (m3_0.length:Int)))),(.mp (mpD Ze Ze (Zx (fun ka kb:Int=>(ka==kb)) m5_0 c (w64 ((List.length (m3_0++[(Zi.mk c 0)]):Int)-1))))),(.mp (mpD Zt Ze m6_0)),(.arr 1 (List.map Ze (m1_0++[(w64 (x2.work-0))]))),(.arr 2 (List.map Zca (m3_0++[(Zi.mk c 0)])))])
theorem ZiV {t0:Bool}{t1:Bool}{t2:Bool}{t3:Bool}{b:Zn}{c:Int}{m1_0:(List Int)}{m2_0:(List Zo)}{m3_0:(List Zi)}{m4_0:(List (Int×Int))}{m5_0:(List (Int×Int))}{m6_0:(List (Zk×Int))}{x0:(List Int)}{x2:Zam}:∀(s46:Unit) (r:(((List (Int×Int))×(List (Zk×Int))×(List Int)×(List Zo)×(List Zi))⊕Unit)),lp (Zdb b c m1_0 m2_0 m3_0 m5_0 m6_0 x0 x2) s46=some r→lpW ctx 7 [0,2,4,6,7,26,27] [] ZpS [(.ptr 0 0),(.d (Ze c)),(.ptr 7 0),(.d (Ze x2.work)),(.d (D.list true (List.map Ze x0))),(.d (Ze (w64 ((x0.length:Int)+1)))),(.d (Ze 1))] [(.cells [(.sl 8 1),(.sl 2 2),(.sl 9 2),(.mp 4),(.mp 5),(.mp 6)]),.dead,(.arr 2 (List.map ZI m2_0)),.dead,(.mp (mpD Ze Ze (Zx (fun ka kb:Int=>(ka==kb)) m4_0 c (m3_0.length:Int)))),(.mp (mpD Ze Ze (Zx (fun ka kb:Int=>(ka==kb)) m5_0 c (w64 ((List.length (m3_0++[(Zi.mk c 0)]):Int)-1))))),(.mp (mpD Zt Ze m6_0)),(.cells (dV t0 t1 t2 t3 b)),(.arr 1 (List.map Ze (m1_0++[(w64 (x2.work-0))]))),(.arr 2 (List.map Zca (m3_0++[(Zi.mk c 0)])))]=some ((ZgS t0 t1 t2 t3 b c m1_0 m2_0 m3_0 m4_0 m5_0 m6_0 x0 x2) r):=by
 refine Zbc (ZgS t0 t1 t2 t3 b c m1_0 m2_0 m3_0 m4_0 m5_0 m6_0 x0 x2) ?_
 intro s46 rcl ih
 show Z6 _ _ (lpW _ _ _ _ _ _ _)
 unfold Zdb
 rw[Zbd]
 conv=>arg 3;whnf
 refine Zg rfl ?_ ?_<;>conv=>arg 3;whnf
 ·refine Zj rfl rfl fun x47 hx47=>?_;conv=>arg 3;whnf
  refine Zq (Zal _ _) ?_;conv=>arg 3;whnf
  refine Zg rfl ?_ ?_<;>conv=>arg 3;whnf
  ·refine Zj rfl rfl fun x48 hx48=>?_;conv=>arg 3;whnf
   refine Zj rfl rfl fun x49 hx49=>?_;conv=>arg 3;whnf
   refine Zc _ Zbr fun x50 hx50=>?_;conv=>arg 3;whnf
   refine Zf (Ze4 (f:=Ze) (g:=Ze) (fun ka kb:Int=>(ka==kb)) (fun _ _=>rfl) (Zx (fun ka kb:Int=>(ka==kb)) m5_0 c (w64 ((List.length (m3_0++[(Zi.mk c 0)]):Int)-1))) c (w64 ((List.length ((m3_0++[(Zi.mk c 0)])++[(Zi.mk c 1)]):Int)-1))) ?_;conv=>arg 3;whnf
   refine Zbx rfl ?_;conv=>arg 3;whnf
   refine Zf (Zcu (f:=Ze) (g:=Ze) (fun ka kb:Int=>(ka==kb)) (fun _ _=>rfl) (Zx (fun ka kb:Int=>(ka==kb)) (Zx (fun ka kb:Int=>(ka==kb)) m5_0 c (w64 ((List.length (m3_0++[(Zi.mk c 0)]):Int)-1))) c (w64 ((List.length ((m3_0++[(Zi.mk c 0)])++[(Zi.mk c 1)]):Int)-1))) c 0) ?_;conv=>arg 3;whnf
   refine Zf (Zcu (f:=Ze) (g:=Ze) (fun ka kb:Int=>(ka==kb)) (fun _ _=>rfl) (Zx (fun ka kb:Int=>(ka==kb)) (Zx (fun ka kb:Int=>(ka==kb)) m5_0 c (w64 ((List.length (m3_0++[(Zi.mk c 0)]):Int)-1))) c (w64 ((List.length ((m3_0++[(Zi.mk c 0)])++[(Zi.mk c 1)]):Int)-1))) c 0) ?_;conv=>arg 3;whnf
   refine Zc _ Zbb fun x51 hx51=>?_;conv=>arg 3;whnf
   refine Zj rfl rfl fun x52 hx52=>?_;conv=>arg 3;whnf
   refine Zj rfl rfl fun x53 hx53=>?_;conv=>arg 3;whnf
   refine Zf (Zcu (f:=Ze) (g:=Ze) (fun ka kb:Int=>(ka==kb)) (fun _ _=>rfl) (Zx (fun ka kb:Int=>(ka==kb)) (Zx (fun ka kb:Int=>(ka==kb)) m5_0 c (w64 ((List.length (m3_0++[(Zi.mk c 0)]):Int)-1))) c (w64 ((List.length ((m3_0++[(Zi.mk c 0)])++[(Zi.mk c 1)]):Int)-1))) c 0) ?_;conv=>arg 3;whnf
   refine Zf (Ze4 (f:=Zt) (g:=Ze) (fun ka kb:Zk=>((ka.maker==kb.maker)&&((ka.user==kb.user)&&((ka.pos==kb.pos)&&true)))) (fun _ _=>rfl) m6_0 x53 (ZaL (fun ka kb:Int=>(ka==kb)) (Zx (fun ka kb:Int=>(ka==kb)) (Zx (fun ka kb:Int=>(ka==kb)) m5_0 c (w64 ((List.length (m3_0++[(Zi.mk c 0)]):Int)-1))) c (w64 ((List.length ((m3_0++[(Zi.mk c 0)])++[(Zi.mk c 1)]):Int)-1))) c 0)) ?_;conv=>arg 3;whnf
   refine Zc _ (ZdJ _) fun r66 hr66=>?_;conv=>arg 3;whnf
   exact Zh rfl
  ·refine Zc _ Zbr fun x67 hx67=>?_;conv=>arg 3;whnf
   refine Zf (Ze4 (f:=Ze) (g:=Ze) (fun ka kb:Int=>(ka==kb)) (fun _ _=>rfl) (Zx (fun ka kb:Int=>(ka==kb)) m5_0 c (w64 ((List.length (m3_0++[(Zi.mk c 0)]):Int)-1))) c (w64 ((List.length ((m3_0++[(Zi.mk c 0)])++[(Zi.mk c 1)]):Int)-1))) ?_;conv=>arg 3;whnf
   refine Zbx rfl ?_;conv=>arg 3;whnf
   refine Zf (Zcu (f:=Ze) (g:=Ze) (fun ka kb:Int=>(ka==kb)) (fun _ _=>rfl) (Zx (fun ka kb:Int=>(ka==kb)) (Zx (fun ka kb:Int=>(ka==kb)) m5_0 c (w64 ((List.length (m3_0++[(Zi.mk c 0)]):Int)-1))) c (w64 ((List.length ((m3_0++[(Zi.mk c 0)])++[(Zi.mk c 1)]):Int)-1))) c 0) ?_;conv=>arg 3;whnf
   refine Zf (Zcu (f:=Ze) (g:=Ze) (fun ka kb:Int=>(ka==kb)) (fun _ _=>rfl) (Zx (fun ka kb:Int=>(ka==kb)) (Zx (fun ka kb:Int=>(ka==kb)) m5_0 c (w64 ((List.length (m3_0++[(Zi.mk c 0)]):Int)-1))) c (w64 ((List.length ((m3_0++[(Zi.mk c 0)])++[(Zi.mk c 1)]):Int)-1))) c 0) ?_;conv=>arg 3;whnf
   refine Zc _ Zbb fun x68 hx68=>?_;conv=>arg 3;whnf
   refine Zj rfl rfl fun x69 hx69=>?_;conv=>arg 3;whnf
   refine Zj rfl rfl fun x70 hx70=>?_;conv=>arg 3;whnf
   refine Zf (Zcu (f:=Ze) (g:=Ze) (fun ka kb:Int=>(ka==kb)) (fun _ _=>rfl) (Zx (fun ka kb:Int=>(ka==kb)) (Zx (fun ka kb:Int=>(ka==kb)) m5_0 c (w64 ((List.length (m3_0++[(Zi.mk c 0)]):Int)-1))) c (w64 ((List.length ((m3_0++[(Zi.mk c 0)])++[(Zi.mk c 1)]):Int)-1))) c 0) ?_;conv=>arg 3;whnf
   refine Zf (Ze4 (f:=Zt) (g:=Ze) (fun ka kb:Zk=>((ka.maker==kb.maker)&&((ka.user==kb.user)&&((ka.pos==kb.pos)&&true)))) (fun _ _=>rfl) m6_0 x70 (ZaL (fun ka kb:Int=>(ka==kb)) (Zx (fun ka kb:Int=>(ka==kb)) (Zx (fun ka kb:Int=>(ka==kb)) m5_0 c (w64 ((List.length (m3_0++[(Zi.mk c 0)]):Int)-1))) c (w64 ((List.length ((m3_0++[(Zi.mk c 0)])++[(Zi.mk c 1)]):Int)-1))) c 0)) ?_;conv=>arg 3;whnf
   refine Zc _ (ZdJ _) fun r83 hr83=>?_;conv=>arg 3;whnf
   exact Zh rfl
 ·exact Zh rfl
def ZgJ (t0:Bool) (t1:Bool) (t2:Bool) (t3:Bool) (b:Zn) (c:Int) (m1_0:(List Int)) (m2_0:(List Zo)) (m3_0:(List Zi)) (m4_0:(List (Int×Int))) (m5_0:(List (Int×Int))) (m6_0:(List (Zk×Int))) (x0:(List Int)):(((List (Int×Int))×(List (Zk×Int))×(List Int)×(List Zo)×(List Zi))⊕((List Int)⊕Unit))→Ex×List V×Zp
  | (.inl r)=>(.exit 0,[],[(.cells [(.sl 7 1),(.sl 8 2),(.sl 9 2),(.mp 4),(.mp 5),(.mp 6)]),.dead,.dead,.dead,(.mp (mpD Ze Ze (Zx (fun ka kb:Int=>(ka==kb)) m4_0 c (m3_0.length:Int)))),(.mp (mpD Ze Ze r.1)),(.mp (mpD Zt Ze r.2.1)),(.arr 1 (List.map Ze r.2.2.1)),(.arr 2 (List.map ZI r.2.2.2.1)),(.arr 2 (List.map Zca r.2.2.2.2))])
  | (.inr (.inl r))=>(.exit 0,[],[(.cells [(.sl 7 1),(.sl 2 2),(.sl 8 2),(.mp 4),(.mp 5),(.mp 6)]),.dead,(.arr 2 (List.map ZI m2_0)),.dead,(.mp (mpD Ze Ze (Zx (fun ka kb:Int=>(ka==kb)) m4_0 c (m3_0.length:Int)))),(.mp (mpD Ze Ze (Zx (fun ka kb:Int=>(ka==kb)) m5_0 c (w64 ((List.length (m3_0++[(Zi.mk c 0)]):Int)-1))))),(.mp (mpD Zt Ze m6_0)),(.arr 1 (List.map Ze r)),(.arr 2 (List.map Zca (m3_0++[(Zi.mk c 0)])))])
  | (.inr (.inr r))=>(.exit 0,[],[(.cells [(.sl 1 1),(.sl 2 2),(.sl 3 2),(.mp 4),(.mp 5),(.mp 6)]),(.arr 1 (List.map Ze m1_0)),(.arr 2 (List.map ZI m2_0)),(.arr 2 (List.map Zca m3_0)),(.mp (mpD Ze Ze (Zx (fun ka kb:Int=>(ka==kb)) m4_0 c (m3_0.length:Int)))),(.mp (mpD Ze Ze m5_0)),(.mp (mpD Zt Ze m6_0))])
theorem ZiX {t0:Bool}{t1:Bool}{t2:Bool}{t3:Bool}{b:Zn}{c:Int}{m1_0:(List Int)}{m2_0:(List Zo)}{m3_0:(List Zi)}{m4_0:(List (Int×Int))}{m5_0:(List (Int×Int))}{m6_0:(List (Zk×Int))}{x0:(List Int)}:∀(s1:Unit) (r:(((List (Int×Int))×(List (Zk×Int))×(List Int)×(List Zo)×(List Zi))⊕((List Int)⊕Unit))),lp (Zcl b c m1_0 m2_0 m3_0 m5_0 m6_0 x0) s1=some r→lpW ctx 7 [0,2,4,6,7,26,27] [] ZpS [(.ptr 0 0),(.d (Ze c)),(.ptr 7 0),(.d (Ze 0)),(.d (D.list true (List.map Ze x0))),(.d (Ze (w64 ((x0.length:Int)+1)))),(.d (Ze 0))] [(.cells [(.sl 1 1),(.sl 2 2),(.sl 3 2),(.mp 4),(.mp 5),(.mp 6)]),(.arr 1 (List.map Ze m1_0)),(.arr 2 (List.map ZI m2_0)),(.arr 2 (List.map Zca m3_0)),(.mp (mpD Ze Ze (Zx (fun ka kb:Int=>(ka==kb)) m4_0 c (m3_0.length:Int)))),(.mp (mpD Ze Ze m5_0)),(.mp (mpD Zt Ze m6_0)),(.cells (dV t0 t1 t2 t3 b))]=some ((ZgJ t0 t1 t2 t3 b c m1_0 m2_0 m3_0 m4_0 m5_0 m6_0 x0) r):=by
 refine Zbc (ZgJ t0 t1 t2 t3 b c m1_0 m2_0 m3_0 m4_0 m5_0 m6_0 x0) ?_
 intro s1 rcl ih
 show Z6 _ _ (lpW _ _ _ _ _ _ _)
 unfold Zcl
 rw[Zbd]
 conv=>arg 3;whnf
 refine Zg rfl ?_ ?_<;>conv=>arg 3;whnf
 ·refine Zj rfl rfl fun x2 hx2=>?_;conv=>arg 3;whnf
  refine Zq (Zal _ _) ?_;conv=>arg 3;whnf
  refine Zg rfl ?_ ?_<;>conv=>arg 3;whnf
  ·refine Zj rfl rfl fun x3 hx3=>?_;conv=>arg 3;whnf
   refine Zj rfl rfl fun x4 hx4=>?_;conv=>arg 3;whnf
   refine Zc _ Zbr fun x5 hx5=>?_;conv=>arg 3;whnf
   refine Zf (Ze4 (f:=Ze) (g:=Ze) (fun ka kb:Int=>(ka==kb)) (fun _ _=>rfl) m5_0 c (w64 ((List.length (m3_0++[(Zi.mk c 0)]):Int)-1))) ?_;conv=>arg 3;whnf
   refine ZO rfl ?_;conv=>arg 3;whnf
   refine Zc _ (ZiO _) fun r44 hr44=>?_
   clear hr44
   rcases r44 with r44 | r44
   ·conv=>arg 3;whnf
    exact Zh rfl
   ·conv=>arg 3;whnf
    exact Zh rfl
  ·refine Zc _ Zbr fun x45 hx45=>?_;conv=>arg 3;whnf
   refine Zf (Ze4 (f:=Ze) (g:=Ze) (fun ka kb:Int=>(ka==kb)) (fun _ _=>rfl) m5_0 c (w64 ((List.length (m3_0++[(Zi.mk c 0)]):Int)-1))) ?_;conv=>arg 3;whnf
   refine ZO rfl ?_;conv=>arg 3;whnf
   refine Zc _ (ZiV _) fun r84 hr84=>?_
   clear hr84
   rcases r84 with r84 | r84
   ·conv=>arg 3;whnf
    exact Zh rfl
   ·conv=>arg 3;whnf
    exact Zh rfl
 ·exact Zh rfl
theorem ZkW {t0:Bool}{t1:Bool}{t2:Bool}{t3:Bool}{b:Zn}{c:Int}{m1_0:(List Int)}{m2_0:(List Zo)}{m3_0:(List Zi)}{m4_0:(List (Int×Int))}{m5_0:(List (Int×Int))}{m6_0:(List (Zk×Int))}:∀r,(ZeD b c m1_0 m2_0 m3_0 m5_0 m6_0)=some r→evW ctx 42 [(.ptr 0 0),(.d (D.agg (dA t0 t1 t2 t3 b))),(.d (Ze c))] [(.cells [(.sl 1 1),(.sl 2 2),(.sl 3 2),(.mp 4),(.mp 5),(.mp 6)]),(.arr 1 (List.map Ze m1_0)),(.arr 2 (List.map ZI m2_0)),(.arr 2 (List.map Zca m3_0)),(.mp (mpD Ze Ze m4_0)),(.mp (mpD Ze Ze m5_0)),(.mp (mpD Zt Ze m6_0))]=some ((Zh0 t0 t1 t2 t3 b c m1_0 m2_0 m3_0 m4_0 m5_0 m6_0) r):=by
 show Z6 _ (fun r rhs=>rhs=some ((Zh0 t0 t1 t2 t3 b c m1_0 m2_0 m3_0 m4_0 m5_0 m6_0) r)) _
 unfold ZeD
 rw[Zej ctx 42 ZA1 _ _ rfl rfl]
 conv=>arg 3;whnf
 refine Zq (Zal _ _) ?_;conv=>arg 3;whnf
 refine Zf (Ze4 (f:=Ze) (g:=Ze) (fun ka kb:Int=>(ka==kb)) (fun _ _=>rfl) m4_0 c (m3_0.length:Int)) ?_;conv=>arg 3;whnf
 refine Zr _ Znv rfl fun x0 hx0=>?_;conv=>arg 3;whnf
 refine Zq (Zal _ _) ?_;conv=>arg 3;whnf
 refine Zc _ (ZiX _) fun r85 hr85=>?_
 clear hr85
 rcases r85 with r85 | (r85 | r85)
 ·conv=>arg 3;whnf
  exact Zh rfl
 ·conv=>arg 3;whnf
  exact Zh rfl
 ·conv=>arg 3;whnf
  exact Zh rfl
def Zlb (r:Bool):D:=(D.bool r)
theorem ZnY {a:Int}:∀r,(ZdY a)=some r→evD ctx 54 [(.d (Ze a))]=some (Zlb r):=by
 show Z6 _ (fun r rhs=>rhs=some (Zlb r)) _
 unfold ZdY
 rw[ZcG ctx 54 ZAv _ rfl rfl]
 conv=>arg 3;whnf
 refine Zg rfl ?_ ?_<;>conv=>arg 3;whnf
 ·exact Zh rfl
 ·refine Zg rfl ?_ ?_<;>conv=>arg 3;whnf
  ·exact Zh rfl
  ·exact Zh rfl
def Zdw (r:Int):D:=(Ze r)
def Zc9 (t0:Bool) (a:(List Int)):(Int⊕Unit)→Ex×List V×Zp
  | (.inl r)=>(.ret,[(.d (Ze r))],[])
  | (.inr r)=>(.exit 0,[.bad],[])
theorem Zfu {t0:Bool}{a:(List Int)}:∀(s0:Int) (r:(Int⊕Unit)),lp (Za4 a (fun z0=>ZdY z0)) s0=some r→lpW ctx 0 [0,1,7,8] [4] Zr2 [(.d (D.list t0 (List.map Ze a))),(.d (D.fn 54 [])),(.d (Ze (a.length:Int))),(.d (Ze s0))] []=some ((Zc9 t0 a) r):=by
 refine Zbc (Zc9 t0 a) ?_
 intro s0 rcl ih
 show Z6 _ _ (lpW _ _ _ _ _ _ _)
 unfold Za4
 rw[Zbd]
 conv=>arg 3;whnf
 refine Zg rfl ?_ ?_<;>conv=>arg 3;whnf
 ·refine Zj rfl rfl fun x1 hx1=>?_;conv=>arg 3;whnf
  refine Zr _ ZnY rfl fun x2 hx2=>?_;conv=>arg 3;whnf
  refine Zg rfl ?_ ?_<;>conv=>arg 3;whnf
  ·exact Zh rfl
  ·exact Zd (ih _)
 ·exact Zh rfl
theorem Zf1 {t0:Bool}{a:(List Int)}:∀r,(ZbD a (fun z0=>ZdY z0))=some r→evD ctx 101 [(.d (D.list t0 (List.map Ze a))),(.d (D.fn 54 []))]=some (Zdw r):=by
 show Z6 _ (fun r rhs=>rhs=some (Zdw r)) _
 unfold ZbD
 rw[ZcG ctx 101 Zuz _ rfl rfl]
 conv=>arg 3;whnf
 refine Zq (Zal _ _) ?_;conv=>arg 3;whnf
 refine Zc _ (Zfu _) fun r3 hr3=>?_
 clear hr3
 rcases r3 with r3 | r3
 ·conv=>arg 3;whnf
  exact Zh rfl
 ·conv=>arg 3;whnf
  exact Zh rfl
def Zdc (r:Bool):D:=(D.bool r)
theorem Zfw {t0:Bool}{a:(List Int)}:∀r,(ZaH a (fun z0=>ZdY z0))=some r→evD ctx 53 [(.d (D.list t0 (List.map Ze a))),(.d (D.fn 54 []))]=some (Zdc r):=by
 show Z6 _ (fun r rhs=>rhs=some (Zdc r)) _
 unfold ZaH
 rw[ZcG ctx 53 ZzI _ rfl rfl]
 conv=>arg 3;whnf
 refine Zr _ Zf1 rfl fun x0 hx0=>?_;conv=>arg 3;whnf
 refine Zg rfl ?_ ?_<;>conv=>arg 3;whnf
 ·exact Zh rfl
 ·exact Zh rfl
def Zle (r:Bool):D:=(D.bool r)
theorem Zkh {t0:Bool}{t1:Bool}{a:Int}{b0:(List Int)}{b1:(List Zo)}:∀r,(Zgm a b0)=some r→evD ctx 55 [(.d (Ze a)),(.d (D.rptr [(D.list t0 (List.map Ze b0)),(D.list t1 (List.map ZI b1))]))]=some (Zle r):=by
 show Z6 _ (fun r rhs=>rhs=some (Zle r)) _
 unfold Zgm
 rw[ZcG ctx 55 ZAp _ rfl rfl]
 conv=>arg 3;whnf
 refine Zg rfl ?_ ?_<;>conv=>arg 3;whnf
 ·refine Zq (Zal _ _) ?_;conv=>arg 3;whnf
  refine Zg rfl ?_ ?_<;>conv=>arg 3;whnf
  ·exact Zh rfl
  ·exact Zh rfl
 ·exact Zh rfl
def Zmg (r:((List Int)×Bool)):D:=(D.tup [(D.list true (List.map Ze r.1)),(D.bool r.2)])
def ZkA (t0:Bool) (t1:Bool) (a:ZbR) (s0:(List Int)×(List Bool)) (s1:Int):(Unit⊕Unit)→Ex×List V×Zp
  | (.inl r)=>(.exit 3,[(.ptr 0 0),(.sl 1 1),(.sl 2 1),(.d (Ze s1)),(.d (Ze (a.work.length:Int))),(.d (Ze s1))],[(.cells [(.d (D.list t0 (List.map Ze a.work))),(.d (D.list t1 (List.map ZI a.edges)))]),(.arr 1 (List.map Ze s0.1)),(.arr 1 (List.map D.bool s0.2))])
  | (.inr r)=>(.exit 4,[(.ptr 0 0),(.sl 1 1),(.sl 2 1),(.d (Ze s1)),(.d (Ze (a.work.length:Int))),(.d (Ze s1))],[(.cells [(.d (D.list t0 (List.map Ze a.work))),(.d (D.list t1 (List.map ZI a.edges)))]),(.arr 1 (List.map Ze s0.1)),(.arr 1 (List.map D.bool s0.2))])
theorem Znm {t0:Bool}{t1:Bool}{a:ZbR}{s0:(List Int)×(List Bool)}{s1:Int}:∀(s3:Int) (r:(Unit⊕Unit)),lp (Zf0 a s0 s1) s3=some r→lpW ctx 0 [1,4,5,6,21,22,30,31,32] [1,4,5,6,21,22] Zw8 [(.ptr 0 0),(.sl 1 1),(.sl 2 1),(.d (Ze s1)),(.d (Ze (a.work.length:Int))),(.d (Ze s1)),(.d (D.list t1 (List.map ZI a.edges))),(.d (Ze (a.edges.length:Int))),(.d (Ze s3))] [(.cells [(.d (D.list t0 (List.map Ze a.work))),(.d (D.list t1 (List.map ZI a.edges)))]),(.arr 1 (List.map Ze s0.1)),(.arr 1 (List.map D.bool s0.2))]=some ((ZkA t0 t1 a s0 s1) r):=by
 refine Zbc (ZkA t0 t1 a s0 s1) ?_
 intro s3 rcl ih
 show Z6 _ _ (lpW _ _ _ _ _ _ _)
 unfold Zf0
 rw[Zbd]
 conv=>arg 3;whnf
 refine Zg rfl ?_ ?_<;>conv=>arg 3;whnf
 ·refine Zj rfl rfl fun x4 hx4=>?_;conv=>arg 3;whnf
  refine Zg rfl ?_ ?_<;>conv=>arg 3;whnf
  ·refine Zj rfl rfl fun x5 hx5=>?_;conv=>arg 3;whnf
   refine Zf (Zl rfl hx5) ?_;conv=>arg 3;whnf
   refine Zg rfl ?_ ?_<;>conv=>arg 3;whnf
   ·exact Zd (ih _)
   ·exact Zh rfl
  ·exact Zd (ih _)
 ·exact Zh rfl
def Zkt (t0:Bool) (t1:Bool) (a:ZbR) (s0:(List Int)×(List Bool)):(((List Int)×(List Bool))⊕Unit)→Ex×List V×Zp
  | (.inl r)=>(.exit 1,[(.ptr 0 0),(.sl 1 1),(.sl 2 1)],[(.cells [(.d (D.list t0 (List.map Ze a.work))),(.d (D.list t1 (List.map ZI a.edges)))]),(.arr 1 (List.map Ze r.1)),(.arr 1 (List.map D.bool r.2))])
  | (.inr r)=>(.exit 2,[(.ptr 0 0),(.sl 1 1),(.sl 2 1)],[(.cells [(.d (D.list t0 (List.map Ze a.work))),(.d (D.list t1 (List.map ZI a.edges)))]),(.arr 1 (List.map Ze s0.1)),(.arr 1 (List.map D.bool s0.2))])
theorem Znt {t0:Bool}{t1:Bool}{a:ZbR}{s0:(List Int)×(List Bool)}:∀(s1:Int) (r:(((List Int)×(List Bool))⊕Unit)),lp (ZeX a s0) s1=some r→lpW ctx 0 [1,4,5,21,22] [1,4,5] ZxD [(.ptr 0 0),(.sl 1 1),(.sl 2 1),(.d (Ze (a.work.length:Int))),(.d (Ze s1))] [(.cells [(.d (D.list t0 (List.map Ze a.work))),(.d (D.list t1 (List.map ZI a.edges)))]),(.arr 1 (List.map Ze s0.1)),(.arr 1 (List.map D.bool s0.2))]=some ((Zkt t0 t1 a s0) r):=by
 refine Zbc (Zkt t0 t1 a s0) ?_
 intro s1 rcl ih
 show Z6 _ _ (lpW _ _ _ _ _ _ _)
 unfold ZeX
 rw[Zbd]
 conv=>arg 3;whnf
 refine Zg rfl ?_ ?_<;>conv=>arg 3;whnf
 ·refine Zj rfl rfl fun x2 hx2=>?_;conv=>arg 3;whnf
  refine Zf (Zl rfl hx2) ?_;conv=>arg 3;whnf
  refine Zg rfl ?_ ?_<;>conv=>arg 3;whnf
  ·exact Zd (ih _)
  ·refine Zq (Zal _ _) ?_;conv=>arg 3;whnf
   refine Zc _ (Znm _) fun r6 hr6=>?_
   clear hr6
   rcases r6 with r6 | r6
   ·conv=>arg 3;whnf
    exact Zd (ih _)
   ·conv=>arg 3;whnf
    refine Zf (ZaE rfl hx2) ?_;conv=>arg 3;whnf
    refine Zf (Zl rfl hx2) ?_;conv=>arg 3;whnf
    refine Zq (Z4 D.bool s0.2 s1.toNat true) ?_;conv=>arg 3;whnf
    refine Zbx rfl ?_;conv=>arg 3;whnf
    refine Zg (ZiW Ze s0.1 1) ?_ ?_
    ·conv=>arg 3;whnf
     refine Zq (ZiU Ze s0.1 [s1]) ?_;conv=>arg 3;whnf
     exact Zh rfl
    ·exact ZbA
 ·exact Zh rfl
def Zkd (t0:Bool) (t1:Bool) (a:ZbR):((List Int)⊕(List Int))→Ex×List V×Zp
  | (.inl r)=>(.ret,[(.nilsl 1),(.d (D.bool false)),(.sl 0 1)],[(.arr 1 (List.map Ze r))])
  | (.inr r)=>(.exit 0,[.bad,.bad,(.sl 0 1)],[(.arr 1 (List.map Ze r))])
theorem ZnF {t0:Bool}{t1:Bool}{a:ZbR}:∀(s0:(List Int)×(List Bool)) (r:((List Int)⊕(List Int))),lp (Zf2 a) s0=some r→lpW ctx 0 [1,4,5] [2,3,4] ZxR [(.ptr 0 0),(.sl 1 1),(.sl 2 1)] [(.cells [(.d (D.list t0 (List.map Ze a.work))),(.d (D.list t1 (List.map ZI a.edges)))]),(.arr 1 (List.map Ze s0.1)),(.arr 1 (List.map D.bool s0.2))]=some ((Zkd t0 t1 a) r):=by
 refine Zbc (Zkd t0 t1 a) ?_
 intro s0 rcl ih
 show Z6 _ _ (lpW _ _ _ _ _ _ _)
 unfold Zf2
 rw[Zbd]
 conv=>arg 3;whnf
 refine Zq (Zal _ _) ?_;conv=>arg 3;whnf
 refine Zq (Zal _ _) ?_;conv=>arg 3;whnf
 refine Zg rfl ?_ ?_<;>conv=>arg 3;whnf
 ·refine Zq (Zal _ _) ?_;conv=>arg 3;whnf
  refine Zc _ (Znt _) fun r7 hr7=>?_
  clear hr7
  rcases r7 with r7 | r7
  ·conv=>arg 3;whnf
   exact Zd (ih _)
  ·conv=>arg 3;whnf
   exact Zh rfl
 ·exact Zh rfl
theorem Zlp {t0:Bool}{t1:Bool}{a:ZbR}:∀r,(Zf4 a)=some r→evD ctx 57 [(.d (D.agg [(D.list t0 (List.map Ze a.work)),(D.list t1 (List.map ZI a.edges))]))]=some (Zmg r):=by
 show Z6 _ (fun r rhs=>rhs=some (Zmg r)) _
 unfold Zf4
 rw[ZcG ctx 57 ZAR _ rfl rfl]
 conv=>arg 3;whnf
 refine Zq (Zal _ _) ?_;conv=>arg 3;whnf
 refine Zg rfl ?_ ?_
 ·conv=>arg 3;whnf
  refine Zq (Zza D.bool (false:Bool) (a.work.length:Int)) ?_;conv=>arg 3;whnf
  refine Zc _ (ZnF _) fun r8 hr8=>?_
  clear hr8
  rcases r8 with r8 | r8
  ·conv=>arg 3;whnf
   exact Zh rfl
  ·conv=>arg 3;whnf
   exact Zh rfl
 ·exact ZbA
def Zmm (r:Int):D:=(Ze r)
def Zkj (t0:Bool) (t1:Bool) (a:ZbR):(Unit⊕Unit)→Ex×List V×Zp
  | (.inl r)=>(.ret,[(.ptr 0 0),(.d (Ze 42))],[(.cells [(.d (D.list t0 (List.map Ze a.work))),(.d (D.list t1 (List.map ZI a.edges)))])])
  | (.inr r)=>(.exit 0,[(.ptr 0 0),.bad],[(.cells [(.d (D.list t0 (List.map Ze a.work))),(.d (D.list t1 (List.map ZI a.edges)))])])
theorem ZnG {t0:Bool}{t1:Bool}{a:ZbR}:∀(s1:Int) (r:(Unit⊕Unit)),lp (Zfd a) s1=some r→lpW ctx 0 [1,3,23,24,25] [1,2] ZxG [(.ptr 0 0),(.fn 55 [(.ptr 0 0)]),(.d (D.list t1 (List.map ZI a.edges))),(.d (Ze (a.edges.length:Int))),(.d (Ze s1))] [(.cells [(.d (D.list t0 (List.map Ze a.work))),(.d (D.list t1 (List.map ZI a.edges)))])]=some ((Zkj t0 t1 a) r):=by
 refine Zbc (Zkj t0 t1 a) ?_
 intro s1 rcl ih
 show Z6 _ _ (lpW _ _ _ _ _ _ _)
 unfold Zfd
 rw[Zbd]
 conv=>arg 3;whnf
 refine Zg rfl ?_ ?_<;>conv=>arg 3;whnf
 ·refine Zj rfl rfl fun x2 hx2=>?_;conv=>arg 3;whnf
  refine Zr _ Zkh rfl fun x3 hx3=>?_;conv=>arg 3;whnf
  refine Zg rfl ?_ ?_<;>conv=>arg 3;whnf
  ·refine Zr _ Zkh rfl fun x4 hx4=>?_;conv=>arg 3;whnf
   refine Zg rfl ?_ ?_<;>conv=>arg 3;whnf
   ·refine Zg rfl ?_ ?_<;>conv=>arg 3;whnf
    ·exact Zh rfl
    ·refine Zg rfl ?_ ?_
     ·conv=>arg 3;whnf
      refine Zg (Zxi ZI a.edges s1.toNat) ?_ ?_
      ·conv=>arg 3;whnf
       refine Zbx rfl ?_;conv=>arg 3;whnf
       refine Zq (ZrU ZI a.edges s1.toNat) ?_;conv=>arg 3;whnf
       refine Zr _ Zfx rfl fun x5 hx5=>?_;conv=>arg 3;whnf
       refine Zg rfl ?_ ?_<;>conv=>arg 3;whnf
       ·exact Zh rfl
       ·exact Zd (ih _)
      ·exact ZbA
     ·exact ZbA
   ·exact Zh rfl
  ·exact Zh rfl
 ·exact Zh rfl
theorem ZlD {t0:Bool}{t1:Bool}{a:ZbR}:∀r,(ZhE a)=some r→evD ctx 25 [(.d (D.agg [(D.list t0 (List.map Ze a.work)),(D.list t1 (List.map ZI a.edges))]))]=some (Zmm r):=by
 show Z6 _ (fun r rhs=>rhs=some (Zmm r)) _
 unfold ZhE
 rw[ZcG ctx 25 ZAM _ rfl rfl]
 conv=>arg 3;whnf
 refine Zq (Zal _ _) ?_;conv=>arg 3;whnf
 refine Zg rfl ?_ ?_<;>conv=>arg 3;whnf
 ·exact Zh rfl
 ·refine Zq (Zal _ _) ?_;conv=>arg 3;whnf
  refine Zg rfl ?_ ?_<;>conv=>arg 3;whnf
  ·exact Zh rfl
  ·refine Zr _ Zfw rfl fun x0 hx0=>?_;conv=>arg 3;whnf
   refine Zg rfl ?_ ?_<;>conv=>arg 3;whnf
   ·exact Zh rfl
   ·refine Zq (Zal _ _) ?_;conv=>arg 3;whnf
    refine Zc _ (ZnG _) fun r6 hr6=>?_
    clear hr6
    rcases r6 with r6 | r6
    ·conv=>arg 3;whnf
     exact Zh rfl
    ·conv=>arg 3;whnf
     refine Zr _ Zlp rfl fun x7 hx7=>?_;conv=>arg 3;whnf
     refine Zg rfl ?_ ?_<;>conv=>arg 3;whnf
     ·exact Zh rfl
     ·exact Zh rfl
def Zk4 (r:(Zm4×Int)):D:=(D.tup [(D.agg [(D.list true (List.map Ze r.1.dag.work)),(D.list true (List.map ZI r.1.dag.edges)),(D.list true (List.map Zca r.1.pieces))]),(Ze r.2)])
def Zje (t0:Bool) (t1:Bool) (t2:Bool) (t3:Bool) (a:Zn):((List Int)×(List Zo)×(List Zi)×(List (Int×Int))×(List (Int×Int))×(List (Zk×Int)))→Ex×List V×Zp
  | r=>(.exit 0,[(.ptr 0 0),(.ptr 1 0),(.ptr 2 0)],[(.cells (dV t0 t1 t2 t3 a)),(.cells [(.sl 3 1),(.sl 4 2),(.sl 5 2)]),(.cells [(.sl 6 1),(.sl 7 2),(.sl 8 2),(.mp 9),(.mp 10),(.mp 11)]),(.arr 1 []),(.arr 2 []),(.arr 2 []),(.arr 1 (List.map Ze r.1)),(.arr 2 (List.map ZI r.2.1)),(.arr 2 (List.map Zca r.2.2.1)),(.mp (mpD Ze Ze r.2.2.2.1)),(.mp (mpD Ze Ze r.2.2.2.2.1)),(.mp (mpD Zt Ze r.2.2.2.2.2))])
theorem Zl8 {t0:Bool}{t1:Bool}{t2:Bool}{t3:Bool}{a:Zn}:∀(s1:Int×(List Int)×(List Zo)×(List Zi)×(List (Int×Int))×(List (Int×Int))×(List (Zk×Int))) (r:((List Int)×(List Zo)×(List Zi)×(List (Int×Int))×(List (Int×Int))×(List (Zk×Int)))),lp (Zdp a) s1=some r→lpW ctx 0 [1,2,5,31,32] [1,2,5] Zwl [(.ptr 0 0),(.ptr 1 0),(.ptr 2 0),(.d (Ze (a.parts.length:Int))),(.d (Ze s1.1))] [(.cells (dV t0 t1 t2 t3 a)),(.cells [(.sl 3 1),(.sl 4 2),(.sl 5 2)]),(.cells [(.sl 6 1),(.sl 7 2),(.sl 8 2),(.mp 9),(.mp 10),(.mp 11)]),(.arr 1 []),(.arr 2 []),(.arr 2 []),(.arr 1 (List.map Ze s1.2.1)),(.arr 2 (List.map ZI s1.2.2.1)),(.arr 2 (List.map Zca s1.2.2.2.1)),(.mp (mpD Ze Ze s1.2.2.2.2.1)),(.mp (mpD Ze Ze s1.2.2.2.2.2.1)),(.mp (mpD Zt Ze s1.2.2.2.2.2.2))]=some ((Zje t0 t1 t2 t3 a) r):=by
 refine Zbc (Zje t0 t1 t2 t3 a) ?_
 intro s1 rcl ih
 show Z6 _ _ (lpW _ _ _ _ _ _ _)
 unfold Zdp
 rw[Zbd]
 conv=>arg 3;whnf
 refine Zg rfl ?_ ?_<;>conv=>arg 3;whnf
 ·refine Zc _ ZkW fun x2 hx2=>?_
  clear hx2
  rcases x2 with x2 | (x2 | x2)
  ·conv=>arg 3;whnf
   exact Zd (ih _)
  ·conv=>arg 3;whnf
   exact Zd (ih _)
  ·conv=>arg 3;whnf
   exact Zd (ih _)
 ·exact Zh rfl
def Zjd (t0:Bool) (t1:Bool) (t2:Bool) (t3:Bool) (a:Zn) (r3:((List Int)×(List Zo)×(List Zi)×(List (Int×Int))×(List (Int×Int))×(List (Zk×Int)))):(List Zo)→Ex×List V×Zp
  | r=>(.exit 2,[(.ptr 0 0),(.ptr 1 0),(.ptr 2 0)],[(.cells (dV t0 t1 t2 t3 a)),(.cells [(.sl 3 1),(.sl 4 2),(.sl 5 2)]),(.cells [(.sl 6 1),(.sl 7 2),(.sl 8 2),(.mp 9),(.mp 10),(.mp 11)]),(.arr 1 []),(.arr 2 []),(.arr 2 []),(.arr 1 (List.map Ze r3.1)),(.arr 2 (List.map ZI r)),(.arr 2 (List.map Zca r3.2.2.1)),(.mp (mpD Ze Ze r3.2.2.2.1)),(.mp (mpD Ze Ze r3.2.2.2.2.1)),(.mp (mpD Zt Ze r3.2.2.2.2.2))])
theorem Zl7 {t0:Bool}{t1:Bool}{t2:Bool}{t3:Bool}{a:Zn}{r3:((List Int)×(List Zo)×(List Zi)×(List (Int×Int))×(List (Int×Int))×(List (Zk×Int)))}:∀(s4:Int×(List Zo)) (r:(List Zo)),lp (ZdQ a r3) s4=some r→lpW ctx 0 [1,2,5,41,42,43] [1,2,5] Zw5 [(.ptr 0 0),(.ptr 1 0),(.ptr 2 0),(.d (D.list t1 (List.map ZI a.edges))),(.d (Ze (a.edges.length:Int))),(.d (Ze s4.1))] [(.cells (dV t0 t1 t2 t3 a)),(.cells [(.sl 3 1),(.sl 4 2),(.sl 5 2)]),(.cells [(.sl 6 1),(.sl 7 2),(.sl 8 2),(.mp 9),(.mp 10),(.mp 11)]),(.arr 1 []),(.arr 2 []),(.arr 2 []),(.arr 1 (List.map Ze r3.1)),(.arr 2 (List.map ZI s4.2)),(.arr 2 (List.map Zca r3.2.2.1)),(.mp (mpD Ze Ze r3.2.2.2.1)),(.mp (mpD Ze Ze r3.2.2.2.2.1)),(.mp (mpD Zt Ze r3.2.2.2.2.2))]=some ((Zjd t0 t1 t2 t3 a r3) r):=by
 refine Zbc (Zjd t0 t1 t2 t3 a r3) ?_
 intro s4 rcl ih
 show Z6 _ _ (lpW _ _ _ _ _ _ _)
 unfold ZdQ
 rw[Zbd]
 conv=>arg 3;whnf
 refine Zg rfl ?_ ?_<;>conv=>arg 3;whnf
 ·refine Zj rfl rfl fun x5 hx5=>?_;conv=>arg 3;whnf
  refine Zf (Zcu (f:=Ze) (g:=Ze) (fun ka kb:Int=>(ka==kb)) (fun _ _=>rfl) r3.2.2.2.2.1 x5.src 0) ?_;conv=>arg 3;whnf
  refine Zf (Zcu (f:=Ze) (g:=Ze) (fun ka kb:Int=>(ka==kb)) (fun _ _=>rfl) r3.2.2.2.1 x5.dst 0) ?_;conv=>arg 3;whnf
  refine Zc _ Zbb fun x6 hx6=>?_;conv=>arg 3;whnf
  exact Zd (ih _)
 ·exact Zh rfl
def Zjr (t0:Bool) (t1:Bool) (t2:Bool) (t3:Bool) (a:Zn) (r3:((List Int)×(List Zo)×(List Zi)×(List (Int×Int))×(List (Int×Int))×(List (Zk×Int)))):(List Zo)→Ex×List V×Zp
  | r=>(.exit 4,[(.ptr 0 0),(.ptr 1 0),(.ptr 2 0)],[(.cells (dV t0 t1 t2 t3 a)),(.cells [(.sl 3 1),(.sl 4 2),(.sl 5 2)]),(.cells [(.sl 6 1),(.sl 7 2),(.sl 8 2),(.mp 9),(.mp 10),(.mp 11)]),(.arr 1 []),(.arr 2 []),(.arr 2 []),(.arr 1 (List.map Ze r3.1)),(.arr 2 (List.map ZI r)),(.arr 2 (List.map Zca r3.2.2.1)),(.mp (mpD Ze Ze r3.2.2.2.1)),(.mp (mpD Ze Ze r3.2.2.2.2.1)),(.mp (mpD Zt Ze r3.2.2.2.2.2))])
theorem Zl4 {t0:Bool}{t1:Bool}{t2:Bool}{t3:Bool}{a:Zn}{r3:((List Int)×(List Zo)×(List Zi)×(List (Int×Int))×(List (Int×Int))×(List (Zk×Int)))}:∀(s8:Int×(List Zo)) (r:(List Zo)),lp (ZdT a r3) s8=some r→lpW ctx 0 [1,2,5,65,66,67] [1,2,5] ZwG [(.ptr 0 0),(.ptr 1 0),(.ptr 2 0),(.d (D.list t2 (List.map Zt a.futures))),(.d (Ze (a.futures.length:Int))),(.d (Ze s8.1))] [(.cells (dV t0 t1 t2 t3 a)),(.cells [(.sl 3 1),(.sl 4 2),(.sl 5 2)]),(.cells [(.sl 6 1),(.sl 7 2),(.sl 8 2),(.mp 9),(.mp 10),(.mp 11)]),(.arr 1 []),(.arr 2 []),(.arr 2 []),(.arr 1 (List.map Ze r3.1)),(.arr 2 (List.map ZI s8.2)),(.arr 2 (List.map Zca r3.2.2.1)),(.mp (mpD Ze Ze r3.2.2.2.1)),(.mp (mpD Ze Ze r3.2.2.2.2.1)),(.mp (mpD Zt Ze r3.2.2.2.2.2))]=some ((Zjr t0 t1 t2 t3 a r3) r):=by
 refine Zbc (Zjr t0 t1 t2 t3 a r3) ?_
 intro s8 rcl ih
 show Z6 _ _ (lpW _ _ _ _ _ _ _)
 unfold ZdT
 rw[Zbd]
 conv=>arg 3;whnf
 refine Zg rfl ?_ ?_<;>conv=>arg 3;whnf
 ·refine Zj rfl rfl fun x9 hx9=>?_;conv=>arg 3;whnf
  refine Zf (Zcu (f:=Ze) (g:=Ze) (fun ka kb:Int=>(ka==kb)) (fun _ _=>rfl) r3.2.2.2.2.1 x9.maker 0) ?_;conv=>arg 3;whnf
  refine Zf (Zcu (f:=Zt) (g:=Ze) (fun ka kb:Zk=>((ka.maker==kb.maker)&&((ka.user==kb.user)&&((ka.pos==kb.pos)&&true)))) (fun _ _=>rfl) r3.2.2.2.2.2 x9 0) ?_;conv=>arg 3;whnf
  refine Zc _ Zbb fun x10 hx10=>?_;conv=>arg 3;whnf
  exact Zd (ih _)
 ·exact Zh rfl
def Zjs (t3:Bool) (a:Zn) (r3:((List Int)×(List Zo)×(List Zi)×(List (Int×Int))×(List (Int×Int))×(List (Zk×Int)))) (s12:Int×(List Int)×(List Zo)×(List Zi)) (x13:Zu):(List Zo)→Ex×List V×Zp
  | r=>(.exit 8,[(.ptr 0 0),(.ptr 1 0),(.ptr 2 0),(.d (Ze (w64 ((List.length (s12.2.2.2++[(Zi.mk (-1) s12.1)]):Int)-1)))),(.d (D.list t3 (List.map Zz a.barriers))),(.d (Ze (a.barriers.length:Int))),(.d (Ze s12.1))],[(.cells [(.sl 3 1),(.sl 4 2),(.sl 5 2)]),(.cells [(.sl 6 1),(.sl 7 2),(.sl 8 2),(.mp 9),(.mp 10),(.mp 11)]),(.cells [(.d (D.list true (List.map Ze x13.ins))),(.d (D.list true (List.map Ze x13.outs)))]),(.arr 1 []),(.arr 2 []),(.arr 2 []),(.arr 1 (List.map Ze (s12.2.1++[1]))),(.arr 2 (List.map ZI r)),(.arr 2 (List.map Zca (s12.2.2.2++[(Zi.mk (-1) s12.1)]))),(.mp (mpD Ze Ze r3.2.2.2.1)),(.mp (mpD Ze Ze r3.2.2.2.2.1)),(.mp (mpD Zt Ze r3.2.2.2.2.2))])
theorem Zl5 {t3:Bool}{a:Zn}{r3:((List Int)×(List Zo)×(List Zi)×(List (Int×Int))×(List (Int×Int))×(List (Zk×Int)))}{s12:Int×(List Int)×(List Zo)×(List Zi)}{x13:Zu}:∀(s15:Int×(List Zo)) (r:(List Zo)),lp (ZeR r3 s12 x13) s15=some r→lpW ctx 0 [2,5,12,13,88,89,90,100,101,102] [2,5,12,13,88,89,90] Zyw [(.ptr 0 0),(.ptr 1 0),(.ptr 2 0),(.d (Ze (w64 ((List.length (s12.2.2.2++[(Zi.mk (-1) s12.1)]):Int)-1)))),(.d (D.list t3 (List.map Zz a.barriers))),(.d (Ze (a.barriers.length:Int))),(.d (Ze s12.1)),(.d (D.list true (List.map Ze x13.ins))),(.d (Ze (x13.ins.length:Int))),(.d (Ze s15.1))] [(.cells [(.sl 3 1),(.sl 4 2),(.sl 5 2)]),(.cells [(.sl 6 1),(.sl 7 2),(.sl 8 2),(.mp 9),(.mp 10),(.mp 11)]),(.cells [(.d (D.list true (List.map Ze x13.ins))),(.d (D.list true (List.map Ze x13.outs)))]),(.arr 1 []),(.arr 2 []),(.arr 2 []),(.arr 1 (List.map Ze (s12.2.1++[1]))),(.arr 2 (List.map ZI s15.2)),(.arr 2 (List.map Zca (s12.2.2.2++[(Zi.mk (-1) s12.1)]))),(.mp (mpD Ze Ze r3.2.2.2.1)),(.mp (mpD Ze Ze r3.2.2.2.2.1)),(.mp (mpD Zt Ze r3.2.2.2.2.2))]=some ((Zjs t3 a r3 s12 x13) r):=by
 refine Zbc (Zjs t3 a r3 s12 x13) ?_
 intro s15 rcl ih
 show Z6 _ _ (lpW _ _ _ _ _ _ _)
 unfold ZeR
 rw[Zbd]
 conv=>arg 3;whnf
 refine Zg rfl ?_ ?_<;>conv=>arg 3;whnf
 ·refine Zj rfl rfl fun x16 hx16=>?_;conv=>arg 3;whnf
  refine Zf (Zcu (f:=Ze) (g:=Ze) (fun ka kb:Int=>(ka==kb)) (fun _ _=>rfl) r3.2.2.2.2.1 x16 0) ?_;conv=>arg 3;whnf
  refine Zc _ Zbb fun x17 hx17=>?_;conv=>arg 3;whnf
  exact Zd (ih _)
 ·exact Zh rfl
def Zjo (t3:Bool) (a:Zn) (r3:((List Int)×(List Zo)×(List Zi)×(List (Int×Int))×(List (Int×Int))×(List (Zk×Int)))) (s12:Int×(List Int)×(List Zo)×(List Zi)) (x13:Zu):(List Zo)→Ex×List V×Zp
  | r=>(.exit 10,[(.ptr 0 0),(.ptr 1 0),(.d (D.list t3 (List.map Zz a.barriers))),(.d (Ze (a.barriers.length:Int))),(.d (Ze s12.1))],[(.cells [(.sl 2 1),(.sl 3 2),(.sl 4 2)]),(.cells [(.sl 5 1),(.sl 6 2),(.sl 7 2),(.mp 8),(.mp 9),(.mp 10)]),(.arr 1 []),(.arr 2 []),(.arr 2 []),(.arr 1 (List.map Ze (s12.2.1++[1]))),(.arr 2 (List.map ZI r)),(.arr 2 (List.map Zca (s12.2.2.2++[(Zi.mk (-1) s12.1)]))),(.mp (mpD Ze Ze r3.2.2.2.1)),(.mp (mpD Ze Ze r3.2.2.2.2.1)),(.mp (mpD Zt Ze r3.2.2.2.2.2))])
theorem Zma {t3:Bool}{a:Zn}{r3:((List Int)×(List Zo)×(List Zi)×(List (Int×Int))×(List (Int×Int))×(List (Zk×Int)))}{s12:Int×(List Int)×(List Zo)×(List Zi)}{x13:Zu}:∀(s19:Int×(List Zo)) (r:(List Zo)),lp (ZeS r3 s12 x13) s19=some r→lpW ctx 0 [2,5,13,88,89,90,117,118,119] [2,5,88,89,90] Zw2 [(.ptr 0 0),(.ptr 1 0),(.d (Ze (w64 ((List.length (s12.2.2.2++[(Zi.mk (-1) s12.1)]):Int)-1)))),(.d (D.list t3 (List.map Zz a.barriers))),(.d (Ze (a.barriers.length:Int))),(.d (Ze s12.1)),(.d (D.list true (List.map Ze x13.outs))),(.d (Ze (x13.outs.length:Int))),(.d (Ze s19.1))] [(.cells [(.sl 2 1),(.sl 3 2),(.sl 4 2)]),(.cells [(.sl 5 1),(.sl 6 2),(.sl 7 2),(.mp 8),(.mp 9),(.mp 10)]),(.arr 1 []),(.arr 2 []),(.arr 2 []),(.arr 1 (List.map Ze (s12.2.1++[1]))),(.arr 2 (List.map ZI s19.2)),(.arr 2 (List.map Zca (s12.2.2.2++[(Zi.mk (-1) s12.1)]))),(.mp (mpD Ze Ze r3.2.2.2.1)),(.mp (mpD Ze Ze r3.2.2.2.2.1)),(.mp (mpD Zt Ze r3.2.2.2.2.2))]=some ((Zjo t3 a r3 s12 x13) r):=by
 refine Zbc (Zjo t3 a r3 s12 x13) ?_
 intro s19 rcl ih
 show Z6 _ _ (lpW _ _ _ _ _ _ _)
 unfold ZeS
 rw[Zbd]
 conv=>arg 3;whnf
 refine Zg rfl ?_ ?_<;>conv=>arg 3;whnf
 ·refine Zj rfl rfl fun x20 hx20=>?_;conv=>arg 3;whnf
  refine Zf (Zcu (f:=Ze) (g:=Ze) (fun ka kb:Int=>(ka==kb)) (fun _ _=>rfl) r3.2.2.2.1 x20 0) ?_;conv=>arg 3;whnf
  refine Zc _ Zbb fun x21 hx21=>?_;conv=>arg 3;whnf
  exact Zd (ih _)
 ·exact Zh rfl
def Zjl (t3:Bool) (a:Zn) (r3:((List Int)×(List Zo)×(List Zi)×(List (Int×Int))×(List (Int×Int))×(List (Zk×Int)))):((List Int)×(List Zo)×(List Zi))→Ex×List V×Zp
  | r=>(.exit 6,[(.ptr 0 0),(.ptr 1 0)],[(.cells [(.sl 2 1),(.sl 3 2),(.sl 4 2)]),(.cells [(.sl 5 1),(.sl 6 2),(.sl 7 2),(.mp 8),(.mp 9),(.mp 10)]),(.arr 1 []),(.arr 2 []),(.arr 2 []),(.arr 1 (List.map Ze r.1)),(.arr 2 (List.map ZI r.2.1)),(.arr 2 (List.map Zca r.2.2)),(.mp (mpD Ze Ze r3.2.2.2.1)),(.mp (mpD Ze Ze r3.2.2.2.2.1)),(.mp (mpD Zt Ze r3.2.2.2.2.2))])
theorem Zmb {t3:Bool}{a:Zn}{r3:((List Int)×(List Zo)×(List Zi)×(List (Int×Int))×(List (Int×Int))×(List (Zk×Int)))}:∀(s12:Int×(List Int)×(List Zo)×(List Zi)) (r:((List Int)×(List Zo)×(List Zi))),lp (ZdR a r3) s12=some r→lpW ctx 0 [2,5,88,89,90] [2,5] Zwk [(.ptr 0 0),(.ptr 1 0),(.d (D.list t3 (List.map Zz a.barriers))),(.d (Ze (a.barriers.length:Int))),(.d (Ze s12.1))] [(.cells [(.sl 2 1),(.sl 3 2),(.sl 4 2)]),(.cells [(.sl 5 1),(.sl 6 2),(.sl 7 2),(.mp 8),(.mp 9),(.mp 10)]),(.arr 1 []),(.arr 2 []),(.arr 2 []),(.arr 1 (List.map Ze s12.2.1)),(.arr 2 (List.map ZI s12.2.2.1)),(.arr 2 (List.map Zca s12.2.2.2)),(.mp (mpD Ze Ze r3.2.2.2.1)),(.mp (mpD Ze Ze r3.2.2.2.2.1)),(.mp (mpD Zt Ze r3.2.2.2.2.2))]=some ((Zjl t3 a r3) r):=by
 refine Zbc (Zjl t3 a r3) ?_
 intro s12 rcl ih
 show Z6 _ _ (lpW _ _ _ _ _ _ _)
 unfold ZdR
 rw[Zbd]
 conv=>arg 3;whnf
 refine Zg rfl ?_ ?_<;>conv=>arg 3;whnf
 ·refine Zj rfl rfl fun x13 hx13=>?_;conv=>arg 3;whnf
  refine Zc _ Zbr fun x14 hx14=>?_;conv=>arg 3;whnf
  refine Zq (Zal _ _) ?_;conv=>arg 3;whnf
  refine Zc _ (Zl5 _) fun r18 hr18=>?_;conv=>arg 3;whnf
  refine Zq (Zal _ _) ?_;conv=>arg 3;whnf
  refine Zc _ (Zma _) fun r22 hr22=>?_;conv=>arg 3;whnf
  exact Zd (ih _)
 ·exact Zh rfl
theorem Zko {t0:Bool}{t1:Bool}{t2:Bool}{t3:Bool}{a:Zn}:∀r,(Zgp a)=some r→evD ctx 16 [(.d (D.agg (dA t0 t1 t2 t3 a)))]=some (Zk4 r):=by
 show Z6 _ (fun r rhs=>rhs=some (Zk4 r)) _
 unfold Zgp
 rw[ZcG ctx 16 ZAX _ rfl rfl]
 conv=>arg 3;whnf
 refine Zr _ Zk6 rfl fun x0 hx0=>?_;conv=>arg 3;whnf
 refine Zg rfl ?_ ?_<;>conv=>arg 3;whnf
 ·exact Zh rfl
 ·refine Zq (Zal _ _) ?_;conv=>arg 3;whnf
  refine Zc _ (Zl8 _) fun r3 hr3=>?_;conv=>arg 3;whnf
  refine Zq (Zal _ _) ?_;conv=>arg 3;whnf
  refine Zc _ (Zl7 _) fun r7 hr7=>?_;conv=>arg 3;whnf
  refine Zq (Zal _ _) ?_;conv=>arg 3;whnf
  refine Zc _ (Zl4 _) fun r11 hr11=>?_;conv=>arg 3;whnf
  refine Zq (Zal _ _) ?_;conv=>arg 3;whnf
  refine Zc _ (Zmb _) fun r23 hr23=>?_;conv=>arg 3;whnf
  refine Zr _ ZlD rfl fun x24 hx24=>?_;conv=>arg 3;whnf
  refine Zg rfl ?_ ?_<;>conv=>arg 3;whnf
  ·exact Zh rfl
  ·exact Zh rfl
def Zk9 (r:Bool):D:=(D.bool r)
def Zji (t0:Bool) (t1:Bool) (t2:Bool) (t3:Bool) (a:Zn) (b:Int) (c:Int):(Unit⊕Unit)→Ex×List V×Zp
  | (.inl r)=>(.ret,[(.d (D.bool true))],[])
  | (.inr r)=>(.exit 0,[.bad],[])
theorem Zl6 {t0:Bool}{t1:Bool}{t2:Bool}{t3:Bool}{a:Zn}{b:Int}{c:Int}:∀(s0:Int) (r:(Unit⊕Unit)),lp (ZeP a b c) s0=some r→lpW ctx 0 [1,2,3,7] [6] Zwg [(.d (Ze b)),(.d (Ze c)),(.ptr 0 0),(.d (Ze s0))] [(.cells (dV t0 t1 t2 t3 a))]=some ((Zji t0 t1 t2 t3 a b c) r):=by
 refine Zbc (Zji t0 t1 t2 t3 a b c) ?_
 intro s0 rcl ih
 show Z6 _ _ (lpW _ _ _ _ _ _ _)
 unfold ZeP
 rw[Zbd]
 conv=>arg 3;whnf
 refine Zq (Zal _ _) ?_;conv=>arg 3;whnf
 refine Zg rfl ?_ ?_<;>conv=>arg 3;whnf
 ·refine Zj rfl rfl fun x1 hx1=>?_;conv=>arg 3;whnf
  refine Zg rfl ?_ ?_<;>conv=>arg 3;whnf
  ·refine Zf (ZaE rfl hx1) ?_;conv=>arg 3;whnf
   refine Zg rfl ?_ ?_<;>conv=>arg 3;whnf
   ·exact Zh rfl
   ·exact Zd (ih _)
  ·exact Zd (ih _)
 ·exact Zh rfl
theorem Zn2 {t0:Bool}{t1:Bool}{t2:Bool}{t3:Bool}{a:Zn}{b:Int}{c:Int}:∀r,(Zhi a b c)=some r→evD ctx 28 [(.d (D.agg (dA t0 t1 t2 t3 a))),(.d (Ze b)),(.d (Ze c))]=some (Zk9 r):=by
 show Z6 _ (fun r rhs=>rhs=some (Zk9 r)) _
 unfold Zhi
 rw[ZcG ctx 28 ZAr _ rfl rfl]
 conv=>arg 3;whnf
 refine Zc _ (Zl6 _) fun r2 hr2=>?_
 clear hr2
 rcases r2 with r2 | r2
 ·conv=>arg 3;whnf
  exact Zh rfl
 ·conv=>arg 3;whnf
  exact Zh rfl
def ZlN (r:Int):D:=(Ze r)
def ZjP (t2:Bool) (a:Zm4) (b:Zi):Int→Ex×List V×Zp
  | r=>(.exit 0,[(.d (Ze r))],[])
theorem ZmE {t2:Bool}{a:Zm4}{b:Zi}:∀(s0:Int) (r:Int),lp (Zeq a b) s0=some r→lpW ctx 0 [3,5,9,10,11] [5] Zyn [(.ptr 0 0),(.d (Ze (-1))),(.d (D.list t2 (List.map Zca a.pieces))),(.d (Ze (a.pieces.length:Int))),(.d (Ze s0))] [(.cells [(.d (Ze b.part)),(.d (Ze b.step))])]=some ((ZjP t2 a b) r):=by
 refine Zbc (ZjP t2 a b) ?_
 intro s0 rcl ih
 show Z6 _ _ (lpW _ _ _ _ _ _ _)
 unfold Zeq
 rw[Zbd]
 conv=>arg 3;whnf
 refine Zg rfl ?_ ?_<;>conv=>arg 3;whnf
 ·refine Zj rfl rfl fun x1 hx1=>?_;conv=>arg 3;whnf
  refine Zg rfl ?_ ?_<;>conv=>arg 3;whnf
  ·exact Zh rfl
  ·exact Zd (ih _)
 ·exact Zh rfl
theorem Zk7 {t0:Bool}{t1:Bool}{t2:Bool}{a:Zm4}{b:Zi}:∀r,(ZgV a b)=some r→evD ctx 21 [(.d (D.agg [(D.list t0 (List.map Ze a.dag.work)),(D.list t1 (List.map ZI a.dag.edges)),(D.list t2 (List.map Zca a.pieces))])),(.d (D.agg [(Ze b.part),(Ze b.step)]))]=some (ZlN r):=by
 show Z6 _ (fun r rhs=>rhs=some (ZlN r)) _
 unfold ZgV
 rw[ZcG ctx 21 ZAN _ rfl rfl]
 conv=>arg 3;whnf
 refine Zq (Zal _ _) ?_;conv=>arg 3;whnf
 refine Zc _ (ZmE _) fun r2 hr2=>?_;conv=>arg 3;whnf
 exact Zh rfl
def ZlL (r:Int):D:=(Ze r)
theorem Zk3 {t0:Bool}{t1:Bool}{t2:Bool}{a:Zm4}{b:Int}:∀r,(Zg4 a b)=some r→evD ctx 23 [(.d (D.agg [(D.list t0 (List.map Ze a.dag.work)),(D.list t1 (List.map ZI a.dag.edges)),(D.list t2 (List.map Zca a.pieces))])),(.d (Ze b))]=some (ZlL r):=by
 show Z6 _ (fun r rhs=>rhs=some (ZlL r)) _
 unfold Zg4
 rw[ZcG ctx 23 ZC4 _ rfl rfl]
 conv=>arg 3;whnf
 refine Zyc (f:=Zca) (g:=(fun x:Zi=>(x.part,x.step))) (l:=a.pieces) (fun _=>rfl) fun x0 hx0=>?_;conv=>arg 3;whnf
 exact Zh rfl
def Zmn (r:(List Int)):D:=(D.list true (List.map Ze r))
theorem ZoV {t0:Bool}{t1:Bool}{a:ZbR}:∀r,(Zin a)=some r→evD ctx 58 [(.d (D.agg [(D.list t0 (List.map Ze a.work)),(D.list t1 (List.map ZI a.edges))]))]=some (Zmn r):=by
 show Z6 _ (fun r rhs=>rhs=some (Zmn r)) _
 unfold Zin
 rw[ZcG ctx 58 ZAo _ rfl rfl]
 conv=>arg 3;whnf
 refine Zr _ ZlD rfl fun x0 hx0=>?_;conv=>arg 3;whnf
 refine Zg rfl ?_ ?_<;>conv=>arg 3;whnf
 ·exact Zh rfl
 ·refine Zr _ Zlp rfl fun x1 hx1=>?_;conv=>arg 3;whnf
  refine Zg rfl ?_ ?_<;>conv=>arg 3;whnf
  ·exact Zh rfl
  ·exact Zh rfl
def Zla (r:(Int×Bool)):D:=(D.tup [(Ze r.1),(D.bool r.2)])
theorem ZnV {a:Zo}{b0:Int}:∀r,(ZfD a b0)=some r→evD ctx 104 [(.d (D.agg [(Ze a.src),(Ze a.dst)])),(.d (D.rptr [(Ze b0)]))]=some (Zla r):=by
 show Z6 _ (fun r rhs=>rhs=some (Zla r)) _
 unfold ZfD
 rw[ZcG ctx 104 ZwX _ rfl rfl]
 conv=>arg 3;whnf
 refine Zg rfl ?_ ?_<;>conv=>arg 3;whnf
 ·exact Zh rfl
 ·exact Zh rfl
def ZjD (r:Bool):D:=(D.bool r)
theorem Zjb {a:Int}:∀r,(Zge a)=some r→evD ctx 169 [(.d (Ze a))]=some (ZjD r):=by
 show Z6 _ (fun r rhs=>rhs=some (ZjD r)) _
 unfold Zge
 rw[ZcG ctx 169 Zxu _ rfl rfl]
 conv=>arg 3;whnf
 refine Zg rfl ?_ ?_<;>conv=>arg 3;whnf
 ·exact Zh rfl
 ·exact Zh rfl
def Zkk (r:Bool):D:=(D.bool r)
theorem Z1 {a:Int}{b:Int}:∀r,(Z8 a b)=some r→evD ctx 158 [(.d (Ze a)),(.d (Ze b))]=some (Zkk r):=by
 show Z6 _ (fun r rhs=>rhs=some (Zkk r)) _
 unfold Z8
 rw[ZcG ctx 158 Zw9 _ rfl rfl]
 conv=>arg 3;whnf
 refine Zr _ Zjb rfl fun x0 hx0=>?_;conv=>arg 3;whnf
 refine Zg rfl ?_ ?_<;>conv=>arg 3;whnf
 ·refine Zr _ Zjb rfl fun x1 hx1=>?_;conv=>arg 3;whnf
  refine Zg rfl ?_ ?_<;>conv=>arg 3;whnf
  ·refine Zg rfl ?_ ?_<;>conv=>arg 3;whnf
   ·exact Zh rfl
   ·exact Zh rfl
  ·exact Zh rfl
 ·refine Zg rfl ?_ ?_<;>conv=>arg 3;whnf
  ·exact Zh rfl
  ·exact Zh rfl
def ZeM (b:Int) (c:Int) (m0_0:(List Int)):(List Int)→V×Zp
  | r=>((.d (D.tup [])),[(.arr 1 (List.map Ze r))])
def Zd5 (b:Int) (c:Int) (s0:Int×(List Int)):(List Int)→Ex×List V×Zp
  | r=>(.exit 2,[(.sl 0 1),(.d (Ze b)),(.d (Ze c)),(.d (Ze s0.1))],[(.arr 1 (List.map Ze r))])
theorem ZgF {b:Int}{c:Int}{s0:Int×(List Int)}:∀(s1:Int×(List Int)) (r:(List Int)),lp (Zbo b) s1=some r→lpW ctx 1 [0,1,2,6,7] [0,1,2,6] Zve [(.sl 0 1),(.d (Ze b)),(.d (Ze c)),(.d (Ze s0.1)),(.d (Ze s1.1))] [(.arr 1 (List.map Ze s1.2))]=some ((Zd5 b c s0) r):=by
 refine Zbc (Zd5 b c s0) ?_
 intro s1 rcl ih
 show Z6 _ _ (lpW _ _ _ _ _ _ _)
 unfold Zbo
 rw[Zbd]
 conv=>arg 3;whnf
 refine Zg rfl ?_ ?_<;>conv=>arg 3;whnf
 ·refine Zj rfl rfl fun x2 hx2=>?_;conv=>arg 3;whnf
  refine Zf (Zl rfl hx2) ?_;conv=>arg 3;whnf
  refine Zj rfl rfl fun x3 hx3=>?_;conv=>arg 3;whnf
  refine Zf (Zl rfl hx3) ?_;conv=>arg 3;whnf
  refine Zr _ Z1 rfl fun x4 hx4=>?_;conv=>arg 3;whnf
  refine Zg rfl ?_ ?_<;>conv=>arg 3;whnf
  ·refine Zf (ZaE rfl hx3) ?_;conv=>arg 3;whnf
   refine Zf (Zl rfl hx3) ?_;conv=>arg 3;whnf
   refine Zf (ZaE rfl hx2) ?_;conv=>arg 3;whnf
   refine Zf (Zl rfl hx2) ?_;conv=>arg 3;whnf
   refine Zf (ZaE rfl hx2) ?_;conv=>arg 3;whnf
   refine Zf (Zl rfl hx2) ?_;conv=>arg 3;whnf
   refine Zq (Z4 Ze s1.2 s1.1.toNat x3) ?_;conv=>arg 3;whnf
   refine Zj rfl rfl fun x5 hx5=>?_;conv=>arg 3;whnf
   refine Zf (Zl rfl hx5) ?_;conv=>arg 3;whnf
   refine Zq (Z4 Ze (List.set s1.2 s1.1.toNat x3) (w64 (s1.1-1)).toNat x2) ?_;conv=>arg 3;whnf
   exact Zd (ih _)
  ·exact Zh rfl
 ·exact Zh rfl
def Zd3 (b:Int) (c:Int):(List Int)→Ex×List V×Zp
  | r=>(.exit 0,[],[(.arr 1 (List.map Ze r))])
theorem ZgH {b:Int}{c:Int}:∀(s0:Int×(List Int)) (r:(List Int)),lp (Zbn b c) s0=some r→lpW ctx 1 [0,1,2,6] [] Zux [(.sl 0 1),(.d (Ze b)),(.d (Ze c)),(.d (Ze s0.1))] [(.arr 1 (List.map Ze s0.2))]=some ((Zd3 b c) r):=by
 refine Zbc (Zd3 b c) ?_
 intro s0 rcl ih
 show Z6 _ _ (lpW _ _ _ _ _ _ _)
 unfold Zbn
 rw[Zbd]
 conv=>arg 3;whnf
 refine Zg rfl ?_ ?_<;>conv=>arg 3;whnf
 ·refine Zc _ (ZgF _) fun r6 hr6=>?_;conv=>arg 3;whnf
  exact Zd (ih _)
 ·exact Zh rfl
theorem Zb1 {b:Int}{c:Int}{m0_0:(List Int)}:∀r,(Zat b c m0_0)=some r→evW ctx 152 [(.sl 0 1),(.d (Ze b)),(.d (Ze c))] [(.arr 1 (List.map Ze m0_0))]=some ((ZeM b c m0_0) r):=by
 show Z6 _ (fun r rhs=>rhs=some ((ZeM b c m0_0) r)) _
 unfold Zat
 rw[Zej ctx 152 Zxv _ _ rfl rfl]
 conv=>arg 3;whnf
 refine Zc _ (ZgH _) fun r7 hr7=>?_;conv=>arg 3;whnf
 exact Zh rfl
def ZfV (b:Int) (c:Int) (d:Int) (m0_0:(List Int)):(List Int)→V×Zp
  | r=>((.d (D.tup [])),[(.arr 1 (List.map Ze r))])
def Zff (c:Int) (d:Int):((List Int)⊕(List Int))→Ex×List V×Zp
  | (.inl r)=>(.exit 0,[],[(.arr 1 (List.map Ze r))])
  | (.inr r)=>(.ret,[],[(.arr 1 (List.map Ze r))])
theorem Zhv {c:Int}{d:Int}:∀(s0:Int×(List Int)) (r:((List Int)⊕(List Int))),lp (ZbW c d) s0=some r→lpW ctx 1 [0,2,3,8] [] Zvk [(.sl 0 1),(.d (Ze c)),(.d (Ze d)),(.d (Ze s0.1))] [(.arr 1 (List.map Ze s0.2))]=some ((Zff c d) r):=by
 refine Zbc (Zff c d) ?_
 intro s0 rcl ih
 show Z6 _ _ (lpW _ _ _ _ _ _ _)
 unfold ZbW
 rw[Zbd]
 conv=>arg 3;whnf
 refine Zg rfl ?_ ?_<;>conv=>arg 3;whnf
 ·exact Zh rfl
 ·refine Zg rfl ?_ ?_<;>conv=>arg 3;whnf
  ·refine Zj rfl rfl fun x1 hx1=>?_;conv=>arg 3;whnf
   refine Zf (Zl rfl hx1) ?_;conv=>arg 3;whnf
   refine Zj rfl rfl fun x2 hx2=>?_;conv=>arg 3;whnf
   refine Zf (Zl rfl hx2) ?_;conv=>arg 3;whnf
   refine Zr _ Z1 rfl fun x3 hx3=>?_;conv=>arg 3;whnf
   refine Zg rfl ?_ ?_<;>conv=>arg 3;whnf
   ·refine Zj rfl rfl fun x4 hx4=>?_;conv=>arg 3;whnf
    refine Zf (Zl rfl hx4) ?_;conv=>arg 3;whnf
    refine Zj rfl rfl fun x5 hx5=>?_;conv=>arg 3;whnf
    refine Zf (Zl rfl hx5) ?_;conv=>arg 3;whnf
    refine Zr _ Z1 rfl fun x6 hx6=>?_;conv=>arg 3;whnf
    refine Zg rfl ?_ ?_<;>conv=>arg 3;whnf
    ·refine Zf (ZaE rfl hx5) ?_;conv=>arg 3;whnf
     refine Zf (Zl rfl hx5) ?_;conv=>arg 3;whnf
     refine Zf (ZaE rfl hx4) ?_;conv=>arg 3;whnf
     refine Zf (Zl rfl hx4) ?_;conv=>arg 3;whnf
     refine Zf (ZaE rfl hx4) ?_;conv=>arg 3;whnf
     refine Zf (Zl rfl hx4) ?_;conv=>arg 3;whnf
     refine Zq (Z4 Ze s0.2 (w64 (d+s0.1)).toNat x5) ?_;conv=>arg 3;whnf
     refine Zj rfl rfl fun x7 hx7=>?_;conv=>arg 3;whnf
     refine Zf (Zl rfl hx7) ?_;conv=>arg 3;whnf
     refine Zq (Z4 Ze (List.set s0.2 (w64 (d+s0.1)).toNat x5) (w64 (d+(w64 ((w64 ((w64 (2*s0.1))+1))+1)))).toNat x4) ?_;conv=>arg 3;whnf
     exact Zd (ih _)
    ·exact Zh rfl
   ·refine Zj rfl rfl fun x8 hx8=>?_;conv=>arg 3;whnf
    refine Zf (Zl rfl hx8) ?_;conv=>arg 3;whnf
    refine Zf (ZaE rfl hx1) ?_;conv=>arg 3;whnf
    refine Zf (Zl rfl hx1) ?_;conv=>arg 3;whnf
    refine Zr _ Z1 rfl fun x9 hx9=>?_;conv=>arg 3;whnf
    refine Zg rfl ?_ ?_<;>conv=>arg 3;whnf
    ·refine Zf (ZaE rfl hx1) ?_;conv=>arg 3;whnf
     refine Zf (Zl rfl hx1) ?_;conv=>arg 3;whnf
     refine Zf (ZaE rfl hx8) ?_;conv=>arg 3;whnf
     refine Zf (Zl rfl hx8) ?_;conv=>arg 3;whnf
     refine Zf (ZaE rfl hx8) ?_;conv=>arg 3;whnf
     refine Zf (Zl rfl hx8) ?_;conv=>arg 3;whnf
     refine Zq (Z4 Ze s0.2 (w64 (d+s0.1)).toNat x1) ?_;conv=>arg 3;whnf
     refine Zj rfl rfl fun x10 hx10=>?_;conv=>arg 3;whnf
     refine Zf (Zl rfl hx10) ?_;conv=>arg 3;whnf
     refine Zq (Z4 Ze (List.set s0.2 (w64 (d+s0.1)).toNat x1) (w64 (d+(w64 ((w64 (2*s0.1))+1)))).toNat x8) ?_;conv=>arg 3;whnf
     exact Zd (ih _)
    ·exact Zh rfl
  ·refine Zj rfl rfl fun x11 hx11=>?_;conv=>arg 3;whnf
   refine Zf (Zl rfl hx11) ?_;conv=>arg 3;whnf
   refine Zj rfl rfl fun x12 hx12=>?_;conv=>arg 3;whnf
   refine Zf (Zl rfl hx12) ?_;conv=>arg 3;whnf
   refine Zr _ Z1 rfl fun x13 hx13=>?_;conv=>arg 3;whnf
   refine Zg rfl ?_ ?_<;>conv=>arg 3;whnf
   ·refine Zf (ZaE rfl hx12) ?_;conv=>arg 3;whnf
    refine Zf (Zl rfl hx12) ?_;conv=>arg 3;whnf
    refine Zf (ZaE rfl hx11) ?_;conv=>arg 3;whnf
    refine Zf (Zl rfl hx11) ?_;conv=>arg 3;whnf
    refine Zf (ZaE rfl hx11) ?_;conv=>arg 3;whnf
    refine Zf (Zl rfl hx11) ?_;conv=>arg 3;whnf
    refine Zq (Z4 Ze s0.2 (w64 (d+s0.1)).toNat x12) ?_;conv=>arg 3;whnf
    refine Zj rfl rfl fun x14 hx14=>?_;conv=>arg 3;whnf
    refine Zf (Zl rfl hx14) ?_;conv=>arg 3;whnf
    refine Zq (Z4 Ze (List.set s0.2 (w64 (d+s0.1)).toNat x12) (w64 (d+(w64 ((w64 (2*s0.1))+1)))).toNat x11) ?_;conv=>arg 3;whnf
    exact Zd (ih _)
   ·exact Zh rfl
theorem ZfM {b:Int}{c:Int}{d:Int}{m0_0:(List Int)}:∀r,(ZbF b c d m0_0)=some r→evW ctx 166 [(.sl 0 1),(.d (Ze b)),(.d (Ze c)),(.d (Ze d))] [(.arr 1 (List.map Ze m0_0))]=some ((ZfV b c d m0_0) r):=by
 show Z6 _ (fun r rhs=>rhs=some ((ZfV b c d m0_0) r)) _
 unfold ZbF
 rw[Zej ctx 166 ZwQ _ _ rfl rfl]
 conv=>arg 3;whnf
 refine Zc _ (Zhv _) fun r15 hr15=>?_
 clear hr15
 rcases r15 with r15 | r15
 ·conv=>arg 3;whnf
  exact Zh rfl
 ·conv=>arg 3;whnf
  exact Zh rfl
def Zf3 (b:Int) (c:Int) (m0_0:(List Int)):(List Int)→V×Zp
  | r=>((.d (D.tup [])),[(.arr 1 (List.map Ze r))])
def Zfh (b:Int) (c:Int):(List Int)→Ex×List V×Zp
  | r=>(.exit 0,[(.sl 0 1),(.d (Ze b)),(.d (Ze 0)),(.d (Ze (w64 (c-b))))],[(.arr 1 (List.map Ze r))])
theorem ZhA {b:Int}{c:Int}:∀(s0:Int×(List Int)) (r:(List Int)),lp (ZbT b c) s0=some r→lpW ctx 1 [0,6,7,8,9] [0,6,7,8] Zud [(.sl 0 1),(.d (Ze b)),(.d (Ze 0)),(.d (Ze (w64 (c-b)))),(.d (Ze s0.1))] [(.arr 1 (List.map Ze s0.2))]=some ((Zfh b c) r):=by
 refine Zbc (Zfh b c) ?_
 intro s0 rcl ih
 show Z6 _ _ (lpW _ _ _ _ _ _ _)
 unfold ZbT
 rw[Zbd]
 conv=>arg 3;whnf
 refine Zg rfl ?_ ?_<;>conv=>arg 3;whnf
 ·refine Zc _ ZfM fun x1 hx1=>?_;conv=>arg 3;whnf
  exact Zd (ih _)
 ·exact Zh rfl
def Zfi (b:Int):(List Int)→Ex×List V×Zp
  | r=>(.exit 2,[],[(.arr 1 (List.map Ze r))])
theorem Zhz {b:Int}:∀(s3:Int×(List Int)) (r:(List Int)),lp (ZbV b) s3=some r→lpW ctx 1 [0,6,7,10] [] ZuT [(.sl 0 1),(.d (Ze b)),(.d (Ze 0)),(.d (Ze s3.1))] [(.arr 1 (List.map Ze s3.2))]=some ((Zfi b) r):=by
 refine Zbc (Zfi b) ?_
 intro s3 rcl ih
 show Z6 _ _ (lpW _ _ _ _ _ _ _)
 unfold ZbV
 rw[Zbd]
 conv=>arg 3;whnf
 refine Zg rfl ?_ ?_<;>conv=>arg 3;whnf
 ·refine Zj rfl rfl fun x4 hx4=>?_;conv=>arg 3;whnf
  refine Zf (Zl rfl hx4) ?_;conv=>arg 3;whnf
  refine Zj rfl rfl fun x5 hx5=>?_;conv=>arg 3;whnf
  refine Zf (Zl rfl hx5) ?_;conv=>arg 3;whnf
  refine Zf (ZaE rfl hx5) ?_;conv=>arg 3;whnf
  refine Zf (Zl rfl hx5) ?_;conv=>arg 3;whnf
  refine Zq (Z4 Ze s3.2 b.toNat x4) ?_;conv=>arg 3;whnf
  refine Zj rfl rfl fun x6 hx6=>?_;conv=>arg 3;whnf
  refine Zf (Zl rfl hx6) ?_;conv=>arg 3;whnf
  refine Zq (Z4 Ze (List.set s3.2 b.toNat x4) (w64 (b+s3.1)).toNat x5) ?_;conv=>arg 3;whnf
  refine Zc _ ZfM fun x7 hx7=>?_;conv=>arg 3;whnf
  exact Zd (ih _)
 ·exact Zh rfl
theorem ZcC {b:Int}{c:Int}{m0_0:(List Int)}:∀r,(Za3 b c m0_0)=some r→evW ctx 153 [(.sl 0 1),(.d (Ze b)),(.d (Ze c))] [(.arr 1 (List.map Ze m0_0))]=some ((Zf3 b c m0_0) r):=by
 show Z6 _ (fun r rhs=>rhs=some ((Zf3 b c m0_0) r)) _
 unfold Za3
 rw[Zej ctx 153 Zw3 _ _ rfl rfl]
 conv=>arg 3;whnf
 refine ZO rfl ?_;conv=>arg 3;whnf
 refine Zc _ (ZhA _) fun r2 hr2=>?_;conv=>arg 3;whnf
 refine Zc _ (Zhz _) fun r8 hr8=>?_;conv=>arg 3;whnf
 exact Zh rfl
def Zgd (b:Int) (c:Int) (m0_0:(List Int)) (m1_0:Int):(Int×Int×Int)→V×Zp
  | r=>((.d (D.tup [(Ze r.1),(Ze r.2.1)])),[(.arr 1 (List.map Ze m0_0)),(.cells [(.d (Ze r.2.2))])])
theorem Zd2 {b:Int}{c:Int}{m0_0:(List Int)}{m1_0:Int}:∀r,(Zbv b c m0_0 m1_0)=some r→evW ctx 171 [(.sl 0 1),(.d (Ze b)),(.d (Ze c)),(.ptr 1 0)] [(.arr 1 (List.map Ze m0_0)),(.cells [(.d (Ze m1_0))])]=some ((Zgd b c m0_0 m1_0) r):=by
 show Z6 _ (fun r rhs=>rhs=some ((Zgd b c m0_0 m1_0) r)) _
 unfold Zbv
 rw[Zej ctx 171 ZwY _ _ rfl rfl]
 conv=>arg 3;whnf
 refine Zj rfl rfl fun x0 hx0=>?_;conv=>arg 3;whnf
 refine Zf (Zl rfl hx0) ?_;conv=>arg 3;whnf
 refine Zj rfl rfl fun x1 hx1=>?_;conv=>arg 3;whnf
 refine Zf (Zl rfl hx1) ?_;conv=>arg 3;whnf
 refine Zr _ Z1 rfl fun x2 hx2=>?_;conv=>arg 3;whnf
 refine Zg rfl ?_ ?_<;>conv=>arg 3;whnf
 ·exact Zh rfl
 ·exact Zh rfl
def Zgi (b:Int) (c:Int) (d:Int) (m0_0:(List Int)) (m1_0:Int):(Int×Int)→V×Zp
  | r=>((.d (Ze r.1)),[(.arr 1 (List.map Ze m0_0)),(.cells [(.d (Ze r.2))])])
theorem Zd6 {b:Int}{c:Int}{d:Int}{m0_0:(List Int)}{m1_0:Int}:∀r,(Zbw b c d m0_0 m1_0)=some r→evW ctx 168 [(.sl 0 1),(.d (Ze b)),(.d (Ze c)),(.d (Ze d)),(.ptr 1 0)] [(.arr 1 (List.map Ze m0_0)),(.cells [(.d (Ze m1_0))])]=some ((Zgi b c d m0_0 m1_0) r):=by
 show Z6 _ (fun r rhs=>rhs=some ((Zgi b c d m0_0 m1_0) r)) _
 unfold Zbw
 rw[Zej ctx 168 Zys _ _ rfl rfl]
 conv=>arg 3;whnf
 refine Zc _ Zd2 fun x0 hx0=>?_;conv=>arg 3;whnf
 refine Zc _ Zd2 fun x1 hx1=>?_;conv=>arg 3;whnf
 refine Zc _ Zd2 fun x2 hx2=>?_;conv=>arg 3;whnf
 exact Zh rfl
def Zez (b:Int) (m0_0:(List Int)) (m1_0:Int):(Int×Int)→V×Zp
  | r=>((.d (Ze r.1)),[(.arr 1 (List.map Ze m0_0)),(.cells [(.d (Ze r.2))])])
theorem ZcT {b:Int}{m0_0:(List Int)}{m1_0:Int}:∀r,(ZaM b m0_0 m1_0)=some r→evW ctx 167 [(.sl 0 1),(.d (Ze b)),(.ptr 1 0)] [(.arr 1 (List.map Ze m0_0)),(.cells [(.d (Ze m1_0))])]=some ((Zez b m0_0 m1_0) r):=by
 show Z6 _ (fun r rhs=>rhs=some ((Zez b m0_0 m1_0) r)) _
 unfold ZaM
 rw[Zej ctx 167 Zwm _ _ rfl rfl]
 conv=>arg 3;whnf
 refine Zc _ Zd6 fun x0 hx0=>?_;conv=>arg 3;whnf
 exact Zh rfl
def Zfg (b:Int) (c:Int) (m0_0:(List Int)):(Int×Int)→V×Zp
  | r=>((.d (D.tup [(Ze r.1),(Ze r.2)])),[(.arr 1 (List.map Ze m0_0))])
theorem Zb8 {b:Int}{c:Int}{m0_0:(List Int)}:∀r,(ZaI b c m0_0)=some r→evW ctx 155 [(.sl 0 1),(.d (Ze b)),(.d (Ze c))] [(.arr 1 (List.map Ze m0_0))]=some ((Zfg b c m0_0) r):=by
 show Z6 _ (fun r rhs=>rhs=some ((Zfg b c m0_0) r)) _
 unfold ZaI
 rw[Zej ctx 155 ZwN _ _ rfl rfl]
 conv=>arg 3;whnf
 refine ZO rfl ?_;conv=>arg 3;whnf
 refine ZO rfl ?_;conv=>arg 3;whnf
 refine ZO rfl ?_;conv=>arg 3;whnf
 refine Zg rfl ?_ ?_<;>conv=>arg 3;whnf
 ·refine Zg rfl ?_ ?_<;>conv=>arg 3;whnf
  ·refine Zc _ ZcT fun x0 hx0=>?_;conv=>arg 3;whnf
   refine Zc _ ZcT fun x1 hx1=>?_;conv=>arg 3;whnf
   refine Zc _ ZcT fun x2 hx2=>?_;conv=>arg 3;whnf
   refine Zc _ Zd6 fun x3 hx3=>?_;conv=>arg 3;whnf
   refine Zg rfl ?_ ?_<;>conv=>arg 3;whnf
   ·exact Zh rfl
   ·refine Zg rfl ?_ ?_<;>conv=>arg 3;whnf
    ·exact Zh rfl
    ·exact Zh rfl
  ·refine Zc _ Zd6 fun x4 hx4=>?_;conv=>arg 3;whnf
   refine Zg rfl ?_ ?_<;>conv=>arg 3;whnf
   ·exact Zh rfl
   ·refine Zg rfl ?_ ?_<;>conv=>arg 3;whnf
    ·exact Zh rfl
    ·exact Zh rfl
 ·refine Zbx rfl ?_;conv=>arg 3;whnf
  exact Zh rfl
def Zfa (b:Int) (c:Int) (m0_0:(List Int)):(List Int)→V×Zp
  | r=>((.d (D.tup [])),[(.arr 1 (List.map Ze r))])
def Zek:(List Int)→Ex×List V×Zp
  | r=>(.exit 0,[],[(.arr 1 (List.map Ze r))])
theorem ZgM:∀(s0:Int×Int×(List Int)) (r:(List Int)),lp (Zbt) s0=some r→lpW ctx 1 [0,6,7] [] Zue [(.sl 0 1),(.d (Ze s0.1)),(.d (Ze s0.2.1))] [(.arr 1 (List.map Ze s0.2.2))]=some (Zek r):=by
 refine Zbc Zek ?_
 intro s0 rcl ih
 show Z6 _ _ (lpW _ _ _ _ _ _ _)
 unfold Zbt
 rw[Zbd]
 conv=>arg 3;whnf
 refine Zg rfl ?_ ?_<;>conv=>arg 3;whnf
 ·refine Zj rfl rfl fun x1 hx1=>?_;conv=>arg 3;whnf
  refine Zf (Zl rfl hx1) ?_;conv=>arg 3;whnf
  refine Zj rfl rfl fun x2 hx2=>?_;conv=>arg 3;whnf
  refine Zf (Zl rfl hx2) ?_;conv=>arg 3;whnf
  refine Zf (ZaE rfl hx2) ?_;conv=>arg 3;whnf
  refine Zf (Zl rfl hx2) ?_;conv=>arg 3;whnf
  refine Zq (Z4 Ze s0.2.2 s0.1.toNat x1) ?_;conv=>arg 3;whnf
  refine Zj rfl rfl fun x3 hx3=>?_;conv=>arg 3;whnf
  refine Zf (Zl rfl hx3) ?_;conv=>arg 3;whnf
  refine Zq (Z4 Ze (List.set s0.2.2 s0.1.toNat x1) s0.2.1.toNat x2) ?_;conv=>arg 3;whnf
  exact Zd (ih _)
 ·exact Zh rfl
theorem Zb5 {b:Int}{c:Int}{m0_0:(List Int)}:∀r,(ZaA b c m0_0)=some r→evW ctx 156 [(.sl 0 1),(.d (Ze b)),(.d (Ze c))] [(.arr 1 (List.map Ze m0_0))]=some ((Zfa b c m0_0) r):=by
 show Z6 _ (fun r rhs=>rhs=some ((Zfa b c m0_0) r)) _
 unfold ZaA
 rw[Zej ctx 156 Zyb _ _ rfl rfl]
 conv=>arg 3;whnf
 refine Zc _ (ZgM _) fun r4 hr4=>?_;conv=>arg 3;whnf
 exact Zh rfl
def ZdA (b:Int) (c:Int) (m0_0:(List Int)):((List Int)⊕(List Int))→V×Zp
  | (.inl r)=>((.d (D.bool true)),[(.arr 1 (List.map Ze r))])
  | (.inr r)=>((.d (D.bool false)),[(.arr 1 (List.map Ze r))])
def Zdk (b:Int) (c:Int) (s0:Int×Int×(List Int)):Int→Ex×List V×Zp
  | r=>(.exit 2,[(.sl 0 1),(.d (Ze b)),(.d (Ze c)),(.d (Ze r)),(.d (Ze s0.2.1))],[(.arr 1 (List.map Ze s0.2.2))])
theorem ZfK {b:Int}{c:Int}{s0:Int×Int×(List Int)}:∀(s1:Int) (r:Int),lp (ZaT c s0) s1=some r→lpW ctx 1 [0,1,2,7,8] [0,1,2,7,8] ZuB [(.sl 0 1),(.d (Ze b)),(.d (Ze c)),(.d (Ze s1)),(.d (Ze s0.2.1))] [(.arr 1 (List.map Ze s0.2.2))]=some ((Zdk b c s0) r):=by
 refine Zbc (Zdk b c s0) ?_
 intro s1 rcl ih
 show Z6 _ _ (lpW _ _ _ _ _ _ _)
 unfold ZaT
 rw[Zbd]
 conv=>arg 3;whnf
 refine Zg rfl ?_ ?_<;>conv=>arg 3;whnf
 ·refine Zj rfl rfl fun x2 hx2=>?_;conv=>arg 3;whnf
  refine Zf (Zl rfl hx2) ?_;conv=>arg 3;whnf
  refine Zj rfl rfl fun x3 hx3=>?_;conv=>arg 3;whnf
  refine Zf (Zl rfl hx3) ?_;conv=>arg 3;whnf
  refine Zr _ Z1 rfl fun x4 hx4=>?_;conv=>arg 3;whnf
  refine Zg rfl ?_ ?_<;>conv=>arg 3;whnf
  ·exact Zh rfl
  ·exact Zd (ih _)
 ·exact Zh rfl
def Zdj (b:Int) (c:Int) (s0:Int×Int×(List Int)) (r5:Int):(List Int)→Ex×List V×Zp
  | r=>(.exit 4,[(.sl 0 1),(.d (Ze b)),(.d (Ze c)),(.d (Ze r5)),(.d (Ze s0.2.1))],[(.arr 1 (List.map Ze r))])
theorem ZfL {b:Int}{c:Int}{s0:Int×Int×(List Int)}{r5:Int}:∀(s9:Int×(List Int)) (r:(List Int)),lp (ZaQ) s9=some r→lpW ctx 1 [0,1,2,7,8,9] [0,1,2,7,8] Zvp [(.sl 0 1),(.d (Ze b)),(.d (Ze c)),(.d (Ze r5)),(.d (Ze s0.2.1)),(.d (Ze s9.1))] [(.arr 1 (List.map Ze s9.2))]=some ((Zdj b c s0 r5) r):=by
 refine Zbc (Zdj b c s0 r5) ?_
 intro s9 rcl ih
 show Z6 _ _ (lpW _ _ _ _ _ _ _)
 unfold ZaQ
 rw[Zbd]
 conv=>arg 3;whnf
 refine Zg rfl ?_ ?_<;>conv=>arg 3;whnf
 ·refine Zj rfl rfl fun x10 hx10=>?_;conv=>arg 3;whnf
  refine Zf (Zl rfl hx10) ?_;conv=>arg 3;whnf
  refine Zj rfl rfl fun x11 hx11=>?_;conv=>arg 3;whnf
  refine Zf (Zl rfl hx11) ?_;conv=>arg 3;whnf
  refine Zr _ Z1 rfl fun x12 hx12=>?_;conv=>arg 3;whnf
  refine Zg rfl ?_ ?_<;>conv=>arg 3;whnf
  ·refine Zf (ZaE rfl hx11) ?_;conv=>arg 3;whnf
   refine Zf (Zl rfl hx11) ?_;conv=>arg 3;whnf
   refine Zf (ZaE rfl hx10) ?_;conv=>arg 3;whnf
   refine Zf (Zl rfl hx10) ?_;conv=>arg 3;whnf
   refine Zf (ZaE rfl hx10) ?_;conv=>arg 3;whnf
   refine Zf (Zl rfl hx10) ?_;conv=>arg 3;whnf
   refine Zq (Z4 Ze s9.2 s9.1.toNat x11) ?_;conv=>arg 3;whnf
   refine Zj rfl rfl fun x13 hx13=>?_;conv=>arg 3;whnf
   refine Zf (Zl rfl hx13) ?_;conv=>arg 3;whnf
   refine Zq (Z4 Ze (List.set s9.2 s9.1.toNat x11) (w64 (s9.1-1)).toNat x10) ?_;conv=>arg 3;whnf
   exact Zd (ih _)
  ·exact Zh rfl
 ·exact Zh rfl
def Zdh (b:Int) (c:Int) (s0:Int×Int×(List Int)) (r5:Int):(List Int)→Ex×List V×Zp
  | r=>(.exit 6,[(.sl 0 1),(.d (Ze b)),(.d (Ze c)),(.d (Ze r5)),(.d (Ze s0.2.1))],[(.arr 1 (List.map Ze r))])
theorem Zc8 {b:Int}{c:Int}{s0:Int×Int×(List Int)}{r5:Int}:∀(s15:Int×(List Int)) (r:(List Int)),lp (Zan c) s15=some r→lpW ctx 1 [0,1,2,7,8,10] [0,1,2,7,8] ZuQ [(.sl 0 1),(.d (Ze b)),(.d (Ze c)),(.d (Ze r5)),(.d (Ze s0.2.1)),(.d (Ze s15.1))] [(.arr 1 (List.map Ze s15.2))]=some ((Zdh b c s0 r5) r):=by
 refine Zbc (Zdh b c s0 r5) ?_
 intro s15 rcl ih
 show Z6 _ _ (lpW _ _ _ _ _ _ _)
 unfold Zan
 rw[Zbd]
 conv=>arg 3;whnf
 refine Zg rfl ?_ ?_<;>conv=>arg 3;whnf
 ·refine Zj rfl rfl fun x16 hx16=>?_;conv=>arg 3;whnf
  refine Zf (Zl rfl hx16) ?_;conv=>arg 3;whnf
  refine Zj rfl rfl fun x17 hx17=>?_;conv=>arg 3;whnf
  refine Zf (Zl rfl hx17) ?_;conv=>arg 3;whnf
  refine Zr _ Z1 rfl fun x18 hx18=>?_;conv=>arg 3;whnf
  refine Zg rfl ?_ ?_<;>conv=>arg 3;whnf
  ·refine Zf (ZaE rfl hx17) ?_;conv=>arg 3;whnf
   refine Zf (Zl rfl hx17) ?_;conv=>arg 3;whnf
   refine Zf (ZaE rfl hx16) ?_;conv=>arg 3;whnf
   refine Zf (Zl rfl hx16) ?_;conv=>arg 3;whnf
   refine Zf (ZaE rfl hx16) ?_;conv=>arg 3;whnf
   refine Zf (Zl rfl hx16) ?_;conv=>arg 3;whnf
   refine Zq (Z4 Ze s15.2 s15.1.toNat x17) ?_;conv=>arg 3;whnf
   refine Zj rfl rfl fun x19 hx19=>?_;conv=>arg 3;whnf
   refine Zf (Zl rfl hx19) ?_;conv=>arg 3;whnf
   refine Zq (Z4 Ze (List.set s15.2 s15.1.toNat x17) (w64 (s15.1-1)).toNat x16) ?_;conv=>arg 3;whnf
   exact Zd (ih _)
  ·exact Zh rfl
 ·exact Zh rfl
def Zdi (b:Int) (c:Int):((List Int)⊕((List Int)⊕(List Int)))→Ex×List V×Zp
  | (.inl r)=>(.ret,[(.d (D.bool true))],[(.arr 1 (List.map Ze r))])
  | (.inr (.inl r))=>(.ret,[(.d (D.bool false))],[(.arr 1 (List.map Ze r))])
  | (.inr (.inr r))=>(.exit 0,[.bad],[(.arr 1 (List.map Ze r))])
theorem ZfC {b:Int}{c:Int}:∀(s0:Int×Int×(List Int)) (r:((List Int)⊕((List Int)⊕(List Int)))),lp (ZaS b c) s0=some r→lpW ctx 1 [0,1,2,7,8] [6] Zua [(.sl 0 1),(.d (Ze b)),(.d (Ze c)),(.d (Ze s0.1)),(.d (Ze s0.2.1))] [(.arr 1 (List.map Ze s0.2.2))]=some ((Zdi b c) r):=by
 refine Zbc (Zdi b c) ?_
 intro s0 rcl ih
 show Z6 _ _ (lpW _ _ _ _ _ _ _)
 unfold ZaS
 rw[Zbd]
 conv=>arg 3;whnf
 refine Zg rfl ?_ ?_<;>conv=>arg 3;whnf
 ·refine Zc _ (ZfK _) fun r5 hr5=>?_;conv=>arg 3;whnf
  refine Zg rfl ?_ ?_<;>conv=>arg 3;whnf
  ·exact Zh rfl
  ·refine Zg rfl ?_ ?_<;>conv=>arg 3;whnf
   ·exact Zh rfl
   ·refine Zj rfl rfl fun x6 hx6=>?_;conv=>arg 3;whnf
    refine Zf (Zl rfl hx6) ?_;conv=>arg 3;whnf
    refine Zj rfl rfl fun x7 hx7=>?_;conv=>arg 3;whnf
    refine Zf (Zl rfl hx7) ?_;conv=>arg 3;whnf
    refine Zf (ZaE rfl hx7) ?_;conv=>arg 3;whnf
    refine Zf (Zl rfl hx7) ?_;conv=>arg 3;whnf
    refine Zq (Z4 Ze s0.2.2 r5.toNat x6) ?_;conv=>arg 3;whnf
    refine Zj rfl rfl fun x8 hx8=>?_;conv=>arg 3;whnf
    refine Zf (Zl rfl hx8) ?_;conv=>arg 3;whnf
    refine Zq (Z4 Ze (List.set s0.2.2 r5.toNat x6) (w64 (r5-1)).toNat x7) ?_;conv=>arg 3;whnf
    refine Zg rfl ?_ ?_<;>conv=>arg 3;whnf
    ·refine Zc _ (ZfL _) fun r14 hr14=>?_;conv=>arg 3;whnf
     refine Zg rfl ?_ ?_<;>conv=>arg 3;whnf
     ·refine Zc _ (Zc8 _) fun r20 hr20=>?_;conv=>arg 3;whnf
      exact Zd (ih _)
     ·exact Zd (ih _)
    ·refine Zg rfl ?_ ?_<;>conv=>arg 3;whnf
     ·refine Zc _ (Zc8 _) fun r26 hr26=>?_;conv=>arg 3;whnf
      exact Zd (ih _)
     ·exact Zd (ih _)
 ·exact Zh rfl
theorem Zdv {b:Int}{c:Int}{m0_0:(List Int)}:∀r,(ZaF b c m0_0)=some r→evW ctx 157 [(.sl 0 1),(.d (Ze b)),(.d (Ze c))] [(.arr 1 (List.map Ze m0_0))]=some ((ZdA b c m0_0) r):=by
 show Z6 _ (fun r rhs=>rhs=some ((ZdA b c m0_0) r)) _
 unfold ZaF
 rw[Zej ctx 157 Zyx _ _ rfl rfl]
 conv=>arg 3;whnf
 refine Zc _ (ZfC _) fun r27 hr27=>?_
 clear hr27
 rcases r27 with r27 | (r27 | r27)
 ·conv=>arg 3;whnf
  exact Zh rfl
 ·conv=>arg 3;whnf
  exact Zh rfl
 ·conv=>arg 3;whnf
  exact Zh rfl
def ZfO (b:Int) (c:Int) (d:Int) (m0_0:(List Int)):((Int×(List Int))⊕(Int×(List Int)))→V×Zp
  | (.inl r)=>((.d (D.tup [(Ze r.1),(D.bool true)])),[(.arr 1 (List.map Ze r.2))])
  | (.inr r)=>((.d (D.tup [(Ze r.1),(D.bool false)])),[(.arr 1 (List.map Ze r.2))])
def Ze8 (b:Int) (c:Int) (d:Int) (m0_0:(List Int)) (x0:Int) (x1:Int):Int→Ex×List V×Zp
  | r=>(.exit 0,[(.sl 0 1),(.d (Ze b)),(.d (Ze r)),(.d (Ze (w64 (c-1))))],[(.arr 1 (List.map Ze (List.set (List.set m0_0 b.toNat x0) d.toNat x1)))])
theorem Zhg {b:Int}{c:Int}{d:Int}{m0_0:(List Int)}{x0:Int}{x1:Int}:∀(s3:Int) (r:Int),lp (ZbM b c d m0_0 x0 x1) s3=some r→lpW ctx 1 [0,1,10,11] [0,1,10,11] ZuL [(.sl 0 1),(.d (Ze b)),(.d (Ze s3)),(.d (Ze (w64 (c-1))))] [(.arr 1 (List.map Ze (List.set (List.set m0_0 b.toNat x0) d.toNat x1)))]=some ((Ze8 b c d m0_0 x0 x1) r):=by
 refine Zbc (Ze8 b c d m0_0 x0 x1) ?_
 intro s3 rcl ih
 show Z6 _ _ (lpW _ _ _ _ _ _ _)
 unfold ZbM
 rw[Zbd]
 conv=>arg 3;whnf
 refine Zg rfl ?_ ?_<;>conv=>arg 3;whnf
 ·refine Zj rfl rfl fun x4 hx4=>?_;conv=>arg 3;whnf
  refine Zf (Zl rfl hx4) ?_;conv=>arg 3;whnf
  refine Zj rfl rfl fun x5 hx5=>?_;conv=>arg 3;whnf
  refine Zf (Zl rfl hx5) ?_;conv=>arg 3;whnf
  refine Zr _ Z1 rfl fun x6 hx6=>?_;conv=>arg 3;whnf
  refine Zg rfl ?_ ?_<;>conv=>arg 3;whnf
  ·exact Zd (ih _)
  ·exact Zh rfl
 ·exact Zh rfl
def Ze9 (b:Int) (d:Int) (m0_0:(List Int)) (x0:Int) (x1:Int) (r7:Int):Int→Ex×List V×Zp
  | r=>(.exit 2,[(.sl 0 1),(.d (Ze b)),(.d (Ze r7)),(.d (Ze r))],[(.arr 1 (List.map Ze (List.set (List.set m0_0 b.toNat x0) d.toNat x1)))])
theorem Zhn {b:Int}{d:Int}{m0_0:(List Int)}{x0:Int}{x1:Int}{r7:Int}:∀(s8:Int) (r:Int),lp (ZbG b d m0_0 x0 x1 r7) s8=some r→lpW ctx 1 [0,1,10,11] [0,1,10,11] Zvd [(.sl 0 1),(.d (Ze b)),(.d (Ze r7)),(.d (Ze s8))] [(.arr 1 (List.map Ze (List.set (List.set m0_0 b.toNat x0) d.toNat x1)))]=some ((Ze9 b d m0_0 x0 x1 r7) r):=by
 refine Zbc (Ze9 b d m0_0 x0 x1 r7) ?_
 intro s8 rcl ih
 show Z6 _ _ (lpW _ _ _ _ _ _ _)
 unfold ZbG
 rw[Zbd]
 conv=>arg 3;whnf
 refine Zg rfl ?_ ?_<;>conv=>arg 3;whnf
 ·refine Zj rfl rfl fun x9 hx9=>?_;conv=>arg 3;whnf
  refine Zf (Zl rfl hx9) ?_;conv=>arg 3;whnf
  refine Zj rfl rfl fun x10 hx10=>?_;conv=>arg 3;whnf
  refine Zf (Zl rfl hx10) ?_;conv=>arg 3;whnf
  refine Zr _ Z1 rfl fun x11 hx11=>?_;conv=>arg 3;whnf
  refine Zg rfl ?_ ?_<;>conv=>arg 3;whnf
  ·exact Zh rfl
  ·exact Zd (ih _)
 ·exact Zh rfl
def Ze5 (b:Int) (s19:Int×Int×(List Int)):Int→Ex×List V×Zp
  | r=>(.exit 6,[(.sl 0 1),(.d (Ze b)),(.d (Ze r)),(.d (Ze s19.2.1))],[(.arr 1 (List.map Ze s19.2.2))])
theorem Zhl {b:Int}{s19:Int×Int×(List Int)}:∀(s20:Int) (r:Int),lp (ZbH b s19) s20=some r→lpW ctx 1 [0,1,10,11] [0,1,10,11] ZuH [(.sl 0 1),(.d (Ze b)),(.d (Ze s20)),(.d (Ze s19.2.1))] [(.arr 1 (List.map Ze s19.2.2))]=some ((Ze5 b s19) r):=by
 refine Zbc (Ze5 b s19) ?_
 intro s20 rcl ih
 show Z6 _ _ (lpW _ _ _ _ _ _ _)
 unfold ZbH
 rw[Zbd]
 conv=>arg 3;whnf
 refine Zg rfl ?_ ?_<;>conv=>arg 3;whnf
 ·refine Zj rfl rfl fun x21 hx21=>?_;conv=>arg 3;whnf
  refine Zf (Zl rfl hx21) ?_;conv=>arg 3;whnf
  refine Zj rfl rfl fun x22 hx22=>?_;conv=>arg 3;whnf
  refine Zf (Zl rfl hx22) ?_;conv=>arg 3;whnf
  refine Zr _ Z1 rfl fun x23 hx23=>?_;conv=>arg 3;whnf
  refine Zg rfl ?_ ?_<;>conv=>arg 3;whnf
  ·exact Zd (ih _)
  ·exact Zh rfl
 ·exact Zh rfl
def Ze1 (b:Int) (s19:Int×Int×(List Int)) (r24:Int):Int→Ex×List V×Zp
  | r=>(.exit 8,[(.sl 0 1),(.d (Ze b)),(.d (Ze r24)),(.d (Ze r))],[(.arr 1 (List.map Ze s19.2.2))])
theorem Zhm {b:Int}{s19:Int×Int×(List Int)}{r24:Int}:∀(s25:Int) (r:Int),lp (ZbJ b s19 r24) s25=some r→lpW ctx 1 [0,1,10,11] [0,1,10,11] Zvc [(.sl 0 1),(.d (Ze b)),(.d (Ze r24)),(.d (Ze s25))] [(.arr 1 (List.map Ze s19.2.2))]=some ((Ze1 b s19 r24) r):=by
 refine Zbc (Ze1 b s19 r24) ?_
 intro s25 rcl ih
 show Z6 _ _ (lpW _ _ _ _ _ _ _)
 unfold ZbJ
 rw[Zbd]
 conv=>arg 3;whnf
 refine Zg rfl ?_ ?_<;>conv=>arg 3;whnf
 ·refine Zj rfl rfl fun x26 hx26=>?_;conv=>arg 3;whnf
  refine Zf (Zl rfl hx26) ?_;conv=>arg 3;whnf
  refine Zj rfl rfl fun x27 hx27=>?_;conv=>arg 3;whnf
  refine Zf (Zl rfl hx27) ?_;conv=>arg 3;whnf
  refine Zr _ Z1 rfl fun x28 hx28=>?_;conv=>arg 3;whnf
  refine Zg rfl ?_ ?_<;>conv=>arg 3;whnf
  ·exact Zh rfl
  ·exact Zd (ih _)
 ·exact Zh rfl
def Ze6 (b:Int):(Int×(List Int))→Ex×List V×Zp
  | r=>(.exit 4,[(.sl 0 1),(.d (Ze b)),(.d (Ze r.1))],[(.arr 1 (List.map Ze r.2))])
theorem Zho {b:Int}:∀(s19:Int×Int×(List Int)) (r:(Int×(List Int))),lp (ZbK b) s19=some r→lpW ctx 1 [0,1,10,11] [0,1,11] ZuN [(.sl 0 1),(.d (Ze b)),(.d (Ze s19.1)),(.d (Ze s19.2.1))] [(.arr 1 (List.map Ze s19.2.2))]=some ((Ze6 b) r):=by
 refine Zbc (Ze6 b) ?_
 intro s19 rcl ih
 show Z6 _ _ (lpW _ _ _ _ _ _ _)
 unfold ZbK
 rw[Zbd]
 conv=>arg 3;whnf
 refine Zc _ (Zhl _) fun r24 hr24=>?_;conv=>arg 3;whnf
 refine Zc _ (Zhm _) fun r29 hr29=>?_;conv=>arg 3;whnf
 refine Zg rfl ?_ ?_<;>conv=>arg 3;whnf
 ·exact Zh rfl
 ·refine Zj rfl rfl fun x30 hx30=>?_;conv=>arg 3;whnf
  refine Zf (Zl rfl hx30) ?_;conv=>arg 3;whnf
  refine Zj rfl rfl fun x31 hx31=>?_;conv=>arg 3;whnf
  refine Zf (Zl rfl hx31) ?_;conv=>arg 3;whnf
  refine Zf (ZaE rfl hx31) ?_;conv=>arg 3;whnf
  refine Zf (Zl rfl hx31) ?_;conv=>arg 3;whnf
  refine Zq (Z4 Ze s19.2.2 r24.toNat x30) ?_;conv=>arg 3;whnf
  refine Zj rfl rfl fun x32 hx32=>?_;conv=>arg 3;whnf
  refine Zf (Zl rfl hx32) ?_;conv=>arg 3;whnf
  refine Zq (Z4 Ze (List.set s19.2.2 r24.toNat x30) r29.toNat x31) ?_;conv=>arg 3;whnf
  exact Zd (ih _)
theorem Zy {b:Int}{c:Int}{d:Int}{m0_0:(List Int)}:∀r,(Zv b c d m0_0)=some r→evW ctx 160 [(.sl 0 1),(.d (Ze b)),(.d (Ze c)),(.d (Ze d))] [(.arr 1 (List.map Ze m0_0))]=some ((ZfO b c d m0_0) r):=by
 show Z6 _ (fun r rhs=>rhs=some ((ZfO b c d m0_0) r)) _
 unfold Zv
 rw[Zej ctx 160 Zx8 _ _ rfl rfl]
 conv=>arg 3;whnf
 refine Zj rfl rfl fun x0 hx0=>?_;conv=>arg 3;whnf
 refine Zf (Zl rfl hx0) ?_;conv=>arg 3;whnf
 refine Zj rfl rfl fun x1 hx1=>?_;conv=>arg 3;whnf
 refine Zf (Zl rfl hx1) ?_;conv=>arg 3;whnf
 refine Zf (ZaE rfl hx1) ?_;conv=>arg 3;whnf
 refine Zf (Zl rfl hx1) ?_;conv=>arg 3;whnf
 refine Zq (Z4 Ze m0_0 b.toNat x0) ?_;conv=>arg 3;whnf
 refine Zj rfl rfl fun x2 hx2=>?_;conv=>arg 3;whnf
 refine Zf (Zl rfl hx2) ?_;conv=>arg 3;whnf
 refine Zq (Z4 Ze (List.set m0_0 b.toNat x0) d.toNat x1) ?_;conv=>arg 3;whnf
 refine Zc _ (Zhg _) fun r7 hr7=>?_;conv=>arg 3;whnf
 refine Zc _ (Zhn _) fun r12 hr12=>?_;conv=>arg 3;whnf
 refine Zg rfl ?_ ?_<;>conv=>arg 3;whnf
 ·refine Zj rfl rfl fun x13 hx13=>?_;conv=>arg 3;whnf
  refine Zf (Zl rfl hx13) ?_;conv=>arg 3;whnf
  refine Zj rfl rfl fun x14 hx14=>?_;conv=>arg 3;whnf
  refine Zf (Zl rfl hx14) ?_;conv=>arg 3;whnf
  refine Zf (ZaE rfl hx14) ?_;conv=>arg 3;whnf
  refine Zf (Zl rfl hx14) ?_;conv=>arg 3;whnf
  refine Zq (Z4 Ze (List.set (List.set m0_0 b.toNat x0) d.toNat x1) r12.toNat x13) ?_;conv=>arg 3;whnf
  refine Zj rfl rfl fun x15 hx15=>?_;conv=>arg 3;whnf
  refine Zf (Zl rfl hx15) ?_;conv=>arg 3;whnf
  refine Zq (Z4 Ze (List.set (List.set (List.set m0_0 b.toNat x0) d.toNat x1) r12.toNat x13) b.toNat x14) ?_;conv=>arg 3;whnf
  exact Zh rfl
 ·refine Zj rfl rfl fun x16 hx16=>?_;conv=>arg 3;whnf
  refine Zf (Zl rfl hx16) ?_;conv=>arg 3;whnf
  refine Zj rfl rfl fun x17 hx17=>?_;conv=>arg 3;whnf
  refine Zf (Zl rfl hx17) ?_;conv=>arg 3;whnf
  refine Zf (ZaE rfl hx17) ?_;conv=>arg 3;whnf
  refine Zf (Zl rfl hx17) ?_;conv=>arg 3;whnf
  refine Zq (Z4 Ze (List.set (List.set m0_0 b.toNat x0) d.toNat x1) r7.toNat x16) ?_;conv=>arg 3;whnf
  refine Zj rfl rfl fun x18 hx18=>?_;conv=>arg 3;whnf
  refine Zf (Zl rfl hx18) ?_;conv=>arg 3;whnf
  refine Zq (Z4 Ze (List.set (List.set (List.set m0_0 b.toNat x0) d.toNat x1) r7.toNat x16) r12.toNat x17) ?_;conv=>arg 3;whnf
  refine Zc _ (Zho _) fun r33 hr33=>?_;conv=>arg 3;whnf
  refine Zj rfl rfl fun x34 hx34=>?_;conv=>arg 3;whnf
  refine Zf (Zl rfl hx34) ?_;conv=>arg 3;whnf
  refine Zj rfl rfl fun x35 hx35=>?_;conv=>arg 3;whnf
  refine Zf (Zl rfl hx35) ?_;conv=>arg 3;whnf
  refine Zf (ZaE rfl hx35) ?_;conv=>arg 3;whnf
  refine Zf (Zl rfl hx35) ?_;conv=>arg 3;whnf
  refine Zq (Z4 Ze r33.2 r33.1.toNat x34) ?_;conv=>arg 3;whnf
  refine Zj rfl rfl fun x36 hx36=>?_;conv=>arg 3;whnf
  refine Zf (Zl rfl hx36) ?_;conv=>arg 3;whnf
  refine Zq (Z4 Ze (List.set r33.2 r33.1.toNat x34) b.toNat x35) ?_;conv=>arg 3;whnf
  exact Zh rfl
def ZeC (b:Int) (c:Int) (d:Int) (m0_0:(List Int)):(Int×(List Int))→V×Zp
  | r=>((.d (Ze r.1)),[(.arr 1 (List.map Ze r.2))])
def ZdW (b:Int) (s3:Int×Int×(List Int)):Int→Ex×List V×Zp
  | r=>(.exit 2,[(.sl 0 1),(.d (Ze b)),(.d (Ze r)),(.d (Ze s3.2.1))],[(.arr 1 (List.map Ze s3.2.2))])
theorem Zgt {b:Int}{s3:Int×Int×(List Int)}:∀(s4:Int) (r:Int),lp (Zbh b s3) s4=some r→lpW ctx 1 [0,1,9,10] [0,1,9,10] Zub [(.sl 0 1),(.d (Ze b)),(.d (Ze s4)),(.d (Ze s3.2.1))] [(.arr 1 (List.map Ze s3.2.2))]=some ((ZdW b s3) r):=by
 refine Zbc (ZdW b s3) ?_
 intro s4 rcl ih
 show Z6 _ _ (lpW _ _ _ _ _ _ _)
 unfold Zbh
 rw[Zbd]
 conv=>arg 3;whnf
 refine Zg rfl ?_ ?_<;>conv=>arg 3;whnf
 ·refine Zj rfl rfl fun x5 hx5=>?_;conv=>arg 3;whnf
  refine Zf (Zl rfl hx5) ?_;conv=>arg 3;whnf
  refine Zj rfl rfl fun x6 hx6=>?_;conv=>arg 3;whnf
  refine Zf (Zl rfl hx6) ?_;conv=>arg 3;whnf
  refine Zr _ Z1 rfl fun x7 hx7=>?_;conv=>arg 3;whnf
  refine Zg rfl ?_ ?_<;>conv=>arg 3;whnf
  ·exact Zh rfl
  ·exact Zd (ih _)
 ·exact Zh rfl
def ZdV (b:Int) (s3:Int×Int×(List Int)) (r8:Int):Int→Ex×List V×Zp
  | r=>(.exit 4,[(.sl 0 1),(.d (Ze b)),(.d (Ze r8)),(.d (Ze r))],[(.arr 1 (List.map Ze s3.2.2))])
theorem Zgv {b:Int}{s3:Int×Int×(List Int)}{r8:Int}:∀(s9:Int) (r:Int),lp (Zbi b s3 r8) s9=some r→lpW ctx 1 [0,1,9,10] [0,1,9,10] ZuW [(.sl 0 1),(.d (Ze b)),(.d (Ze r8)),(.d (Ze s9))] [(.arr 1 (List.map Ze s3.2.2))]=some ((ZdV b s3 r8) r):=by
 refine Zbc (ZdV b s3 r8) ?_
 intro s9 rcl ih
 show Z6 _ _ (lpW _ _ _ _ _ _ _)
 unfold Zbi
 rw[Zbd]
 conv=>arg 3;whnf
 refine Zg rfl ?_ ?_<;>conv=>arg 3;whnf
 ·refine Zj rfl rfl fun x10 hx10=>?_;conv=>arg 3;whnf
  refine Zf (Zl rfl hx10) ?_;conv=>arg 3;whnf
  refine Zj rfl rfl fun x11 hx11=>?_;conv=>arg 3;whnf
  refine Zf (Zl rfl hx11) ?_;conv=>arg 3;whnf
  refine Zr _ Z1 rfl fun x12 hx12=>?_;conv=>arg 3;whnf
  refine Zg rfl ?_ ?_<;>conv=>arg 3;whnf
  ·exact Zd (ih _)
  ·exact Zh rfl
 ·exact Zh rfl
def ZdX (b:Int):(Int×(List Int))→Ex×List V×Zp
  | r=>(.exit 0,[(.d (Ze r.1))],[(.arr 1 (List.map Ze r.2))])
theorem Zgr {b:Int}:∀(s3:Int×Int×(List Int)) (r:(Int×(List Int))),lp (Zbj b) s3=some r→lpW ctx 1 [0,1,9,10] [9] ZuJ [(.sl 0 1),(.d (Ze b)),(.d (Ze s3.1)),(.d (Ze s3.2.1))] [(.arr 1 (List.map Ze s3.2.2))]=some ((ZdX b) r):=by
 refine Zbc (ZdX b) ?_
 intro s3 rcl ih
 show Z6 _ _ (lpW _ _ _ _ _ _ _)
 unfold Zbj
 rw[Zbd]
 conv=>arg 3;whnf
 refine Zc _ (Zgt _) fun r8 hr8=>?_;conv=>arg 3;whnf
 refine Zc _ (Zgv _) fun r13 hr13=>?_;conv=>arg 3;whnf
 refine Zg rfl ?_ ?_<;>conv=>arg 3;whnf
 ·exact Zh rfl
 ·refine Zj rfl rfl fun x14 hx14=>?_;conv=>arg 3;whnf
  refine Zf (Zl rfl hx14) ?_;conv=>arg 3;whnf
  refine Zj rfl rfl fun x15 hx15=>?_;conv=>arg 3;whnf
  refine Zf (Zl rfl hx15) ?_;conv=>arg 3;whnf
  refine Zf (ZaE rfl hx15) ?_;conv=>arg 3;whnf
  refine Zf (Zl rfl hx15) ?_;conv=>arg 3;whnf
  refine Zq (Z4 Ze s3.2.2 r8.toNat x14) ?_;conv=>arg 3;whnf
  refine Zj rfl rfl fun x16 hx16=>?_;conv=>arg 3;whnf
  refine Zf (Zl rfl hx16) ?_;conv=>arg 3;whnf
  refine Zq (Z4 Ze (List.set s3.2.2 r8.toNat x14) r13.toNat x15) ?_;conv=>arg 3;whnf
  exact Zd (ih _)
theorem Z7 {b:Int}{c:Int}{d:Int}{m0_0:(List Int)}:∀r,(ZL b c d m0_0)=some r→evW ctx 159 [(.sl 0 1),(.d (Ze b)),(.d (Ze c)),(.d (Ze d))] [(.arr 1 (List.map Ze m0_0))]=some ((ZeC b c d m0_0) r):=by
 show Z6 _ (fun r rhs=>rhs=some ((ZeC b c d m0_0) r)) _
 unfold ZL
 rw[Zej ctx 159 ZyG _ _ rfl rfl]
 conv=>arg 3;whnf
 refine Zj rfl rfl fun x0 hx0=>?_;conv=>arg 3;whnf
 refine Zf (Zl rfl hx0) ?_;conv=>arg 3;whnf
 refine Zj rfl rfl fun x1 hx1=>?_;conv=>arg 3;whnf
 refine Zf (Zl rfl hx1) ?_;conv=>arg 3;whnf
 refine Zf (ZaE rfl hx1) ?_;conv=>arg 3;whnf
 refine Zf (Zl rfl hx1) ?_;conv=>arg 3;whnf
 refine Zq (Z4 Ze m0_0 b.toNat x0) ?_;conv=>arg 3;whnf
 refine Zj rfl rfl fun x2 hx2=>?_;conv=>arg 3;whnf
 refine Zf (Zl rfl hx2) ?_;conv=>arg 3;whnf
 refine Zq (Z4 Ze (List.set m0_0 b.toNat x0) d.toNat x1) ?_;conv=>arg 3;whnf
 refine Zc _ (Zgr _) fun r17 hr17=>?_;conv=>arg 3;whnf
 exact Zh rfl
def ZeN (b:Int) (c:Int) (m0_0:(List Int)):(List Int)→V×Zp
  | r=>((.d (D.tup [])),[(.arr 1 (List.map Ze r))])
def Zd1 (b:Int) (c:Int) (x0:Int):(List Int)→Ex×List V×Zp
  | r=>(.exit 0,[],[(.arr 1 (List.map Ze r))])
theorem ZgE {b:Int}{c:Int}{x0:Int}:∀(s1:Int×(List Int)×Int) (r:(List Int)),lp (Zbp b c x0) s1=some r→lpW ctx 1 [0,1,6,7,8,9] [] Zvb [(.sl 0 1),(.d (Ze b)),(.d (Ze (w64 (c-b)))),(.ptr 1 0),(.d (D.int .u64 x0)),(.d (Ze s1.1))] [(.arr 1 (List.map Ze s1.2.1)),(.cells [(.d (D.int .u64 s1.2.2))])]=some ((Zd1 b c x0) r):=by
 refine Zbc (Zd1 b c x0) ?_
 intro s1 rcl ih
 show Z6 _ _ (lpW _ _ _ _ _ _ _)
 unfold Zbp
 rw[Zbd]
 conv=>arg 3;whnf
 refine ZO rfl ?_;conv=>arg 3;whnf
 refine Zg rfl ?_ ?_<;>conv=>arg 3;whnf
 ·refine Zc _ Zhc fun x2 hx2=>?_;conv=>arg 3;whnf
  refine Zg rfl ?_ ?_<;>conv=>arg 3;whnf
  ·refine Zj rfl rfl fun x3 hx3=>?_;conv=>arg 3;whnf
   refine Zf (Zl rfl hx3) ?_;conv=>arg 3;whnf
   refine Zj rfl rfl fun x4 hx4=>?_;conv=>arg 3;whnf
   refine Zf (Zl rfl hx4) ?_;conv=>arg 3;whnf
   refine Zf (ZaE rfl hx4) ?_;conv=>arg 3;whnf
   refine Zf (Zl rfl hx4) ?_;conv=>arg 3;whnf
   refine Zq (Z4 Ze s1.2.1 s1.1.toNat x3) ?_;conv=>arg 3;whnf
   refine Zj rfl rfl fun x5 hx5=>?_;conv=>arg 3;whnf
   refine Zf (Zl rfl hx5) ?_;conv=>arg 3;whnf
   refine Zq (Z4 Ze (List.set s1.2.1 s1.1.toNat x3) (w64 (b+(w64 ((w64 (IntKind.u64.wrap (BitVec.ofInt IntKind.u64.bits (IntKind.u64.wrap (BitVec.ofInt IntKind.u64.bits (IntKind.u64.wrap (BitVec.ofInt IntKind.u64.bits (IntKind.u64.wrap (BitVec.ofInt IntKind.u64.bits s1.2.2 ^^^ BitVec.ofInt IntKind.u64.bits (IntKind.u64.wrap (s1.2.2*2 ^ 13))).toNat) ^^^ BitVec.ofInt IntKind.u64.bits (Int.fdiv (IntKind.u64.wrap (BitVec.ofInt IntKind.u64.bits s1.2.2 ^^^ BitVec.ofInt IntKind.u64.bits (IntKind.u64.wrap (s1.2.2*2 ^ 13))).toNat) (2 ^ 7))).toNat) ^^^ BitVec.ofInt IntKind.u64.bits (IntKind.u64.wrap ((IntKind.u64.wrap (BitVec.ofInt IntKind.u64.bits (IntKind.u64.wrap (BitVec.ofInt IntKind.u64.bits s1.2.2 ^^^ BitVec.ofInt IntKind.u64.bits (IntKind.u64.wrap (s1.2.2*2 ^ 13))).toNat) ^^^ BitVec.ofInt IntKind.u64.bits (Int.fdiv (IntKind.u64.wrap (BitVec.ofInt IntKind.u64.bits s1.2.2 ^^^ BitVec.ofInt IntKind.u64.bits (IntKind.u64.wrap (s1.2.2*2 ^ 13))).toNat) (2 ^ 7))).toNat)*2 ^ 17))).toNat) &&& BitVec.ofInt IntKind.u64.bits (IntKind.u64.wrap (x0-1))).toNat))-(w64 (c-b)))))).toNat x4) ?_;conv=>arg 3;whnf
   exact Zd (ih _)
  ·refine Zj rfl rfl fun x6 hx6=>?_;conv=>arg 3;whnf
   refine Zf (Zl rfl hx6) ?_;conv=>arg 3;whnf
   refine Zj rfl rfl fun x7 hx7=>?_;conv=>arg 3;whnf
   refine Zf (Zl rfl hx7) ?_;conv=>arg 3;whnf
   refine Zf (ZaE rfl hx7) ?_;conv=>arg 3;whnf
   refine Zf (Zl rfl hx7) ?_;conv=>arg 3;whnf
   refine Zq (Z4 Ze s1.2.1 s1.1.toNat x6) ?_;conv=>arg 3;whnf
   refine Zj rfl rfl fun x8 hx8=>?_;conv=>arg 3;whnf
   refine Zf (Zl rfl hx8) ?_;conv=>arg 3;whnf
   refine Zq (Z4 Ze (List.set s1.2.1 s1.1.toNat x6) (w64 (b+(w64 (IntKind.u64.wrap (BitVec.ofInt IntKind.u64.bits (IntKind.u64.wrap (BitVec.ofInt IntKind.u64.bits (IntKind.u64.wrap (BitVec.ofInt IntKind.u64.bits (IntKind.u64.wrap (BitVec.ofInt IntKind.u64.bits s1.2.2 ^^^ BitVec.ofInt IntKind.u64.bits (IntKind.u64.wrap (s1.2.2*2 ^ 13))).toNat) ^^^ BitVec.ofInt IntKind.u64.bits (Int.fdiv (IntKind.u64.wrap (BitVec.ofInt IntKind.u64.bits s1.2.2 ^^^ BitVec.ofInt IntKind.u64.bits (IntKind.u64.wrap (s1.2.2*2 ^ 13))).toNat) (2 ^ 7))).toNat) ^^^ BitVec.ofInt IntKind.u64.bits (IntKind.u64.wrap ((IntKind.u64.wrap (BitVec.ofInt IntKind.u64.bits (IntKind.u64.wrap (BitVec.ofInt IntKind.u64.bits s1.2.2 ^^^ BitVec.ofInt IntKind.u64.bits (IntKind.u64.wrap (s1.2.2*2 ^ 13))).toNat) ^^^ BitVec.ofInt IntKind.u64.bits (Int.fdiv (IntKind.u64.wrap (BitVec.ofInt IntKind.u64.bits s1.2.2 ^^^ BitVec.ofInt IntKind.u64.bits (IntKind.u64.wrap (s1.2.2*2 ^ 13))).toNat) (2 ^ 7))).toNat)*2 ^ 17))).toNat) &&& BitVec.ofInt IntKind.u64.bits (IntKind.u64.wrap (x0-1))).toNat)))).toNat x7) ?_;conv=>arg 3;whnf
   exact Zd (ih _)
 ·exact Zh rfl
theorem ZeA {b:Int}{c:Int}{m0_0:(List Int)}:∀r,(Zbe b c m0_0)=some r→evW ctx 154 [(.sl 0 1),(.d (Ze b)),(.d (Ze c))] [(.arr 1 (List.map Ze m0_0))]=some ((ZeN b c m0_0) r):=by
 show Z6 _ (fun r rhs=>rhs=some ((ZeN b c m0_0) r)) _
 unfold Zbe
 rw[Zej ctx 154 Zwr _ _ rfl rfl]
 conv=>arg 3;whnf
 refine Zg rfl ?_ ?_<;>conv=>arg 3;whnf
 ·refine Zr _ ZgL rfl fun x0 hx0=>?_;conv=>arg 3;whnf
  refine ZO rfl ?_;conv=>arg 3;whnf
  refine Zc _ (ZgE _) fun r9 hr9=>?_;conv=>arg 3;whnf
  exact Zh rfl
 ·exact Zh rfl
def Zb (b:Int) (c:Int) (d:Int) (m0_0:(List Int)):(List Int)→V×Zp
  | r=>((.d (D.tup [])),[(.arr 1 (List.map Ze r))])
def Zfr (rc:Int→Int→Int→(List Int)→Option (List Int)):(List Int)→Ex×List V×Zp
  | r=>(.ret,[],[(.arr 1 (List.map Ze r))])
theorem ZhJ {rc:Int→Int→Int→(List Int)→Option (List Int)} (hrc:∀(b:Int) (c:Int) (d:Int) (m0_0:(List Int)) (r:(List Int)),rc b c d m0_0=some r→evW ctx 140 [(.sl 0 1),(.d (Ze b)),(.d (Ze c)),(.d (Ze d))] [(.arr 1 (List.map Ze m0_0))]=some ((Zb b c d m0_0) r)):∀(s0:Int×Int×Int×Bool×Bool×(List Int)) (r:(List Int)),lp (Zb3 rc) s0=some r→lpW ctx 1 [0,1,2,3,8,9] [] ZuD [(.sl 0 1),(.d (Ze s0.1)),(.d (Ze s0.2.1)),(.d (Ze s0.2.2.1)),(.d (D.bool s0.2.2.2.1)),(.d (D.bool s0.2.2.2.2.1))] [(.arr 1 (List.map Ze s0.2.2.2.2.2))]=some ((Zfr rc) r):=by
 refine Zbc (Zfr rc) ?_
 intro s0 rcl ih
 show Z6 _ _ (lpW _ _ _ _ _ _ _)
 unfold Zb3
 rw[Zbd]
 rcases hb:s0.2.2.2.1 with _ | _
 ·refine Zn7 ?_
  rcases hb:s0.2.2.2.2.1 with _ | _
  ·refine Zn7 ?_;conv=>arg 3;whnf
   refine Zg rfl ?_ ?_<;>conv=>arg 3;whnf
   ·refine Zc _ Zb1 fun x170 hx170=>?_;conv=>arg 3;whnf
    exact Zh rfl
   ·refine Zg rfl ?_ ?_<;>conv=>arg 3;whnf
    ·refine Zc _ ZcC fun x171 hx171=>?_;conv=>arg 3;whnf
     exact Zh rfl
    ·refine Zc _ ZeA fun x172 hx172=>?_;conv=>arg 3;whnf
     refine Zc _ Zb8 fun x173 hx173=>?_;conv=>arg 3;whnf
     refine Zg rfl ?_ ?_<;>conv=>arg 3;whnf
     ·refine Zc _ Zb5 fun x174 hx174=>?_;conv=>arg 3;whnf
      refine Zg rfl ?_ ?_<;>conv=>arg 3;whnf
      ·refine Zj rfl rfl fun x175 hx175=>?_;conv=>arg 3;whnf
       refine Zf (Zl rfl hx175) ?_;conv=>arg 3;whnf
       refine Zj rfl rfl fun x176 hx176=>?_;conv=>arg 3;whnf
       refine Zf (Zl rfl hx176) ?_;conv=>arg 3;whnf
       refine Zr _ Z1 rfl fun x177 hx177=>?_;conv=>arg 3;whnf
       refine Zg rfl ?_ ?_<;>conv=>arg 3;whnf
       ·refine Zc _ Zy fun x178 hx178=>?_
        clear hx178
        rcases x178 with x178 | x178
        ·conv=>arg 3;whnf
         refine Zbx rfl ?_;conv=>arg 3;whnf
         refine ZO rfl ?_;conv=>arg 3;whnf
         refine Zg rfl ?_ ?_<;>conv=>arg 3;whnf
         ·refine Zg rfl ?_ ?_<;>conv=>arg 3;whnf
          ·refine Zc (Zb s0.1 x178.1 (w64 (s0.2.2.1-1)) x178.2) (hrc s0.1 x178.1 (w64 (s0.2.2.1-1)) x178.2) fun x179 hx179=>?_;conv=>arg 3;whnf
           exact Zd (ih _)
          ·refine Zc (Zb s0.1 x178.1 (w64 (s0.2.2.1-1)) x178.2) (hrc s0.1 x178.1 (w64 (s0.2.2.1-1)) x178.2) fun x180 hx180=>?_;conv=>arg 3;whnf
           exact Zd (ih _)
         ·refine Zg rfl ?_ ?_<;>conv=>arg 3;whnf
          ·refine Zc (Zb (w64 (x178.1+1)) s0.2.1 (w64 (s0.2.2.1-1)) x178.2) (hrc (w64 (x178.1+1)) s0.2.1 (w64 (s0.2.2.1-1)) x178.2) fun x181 hx181=>?_;conv=>arg 3;whnf
           exact Zd (ih _)
          ·refine Zc (Zb (w64 (x178.1+1)) s0.2.1 (w64 (s0.2.2.1-1)) x178.2) (hrc (w64 (x178.1+1)) s0.2.1 (w64 (s0.2.2.1-1)) x178.2) fun x182 hx182=>?_;conv=>arg 3;whnf
           exact Zd (ih _)
        ·conv=>arg 3;whnf
         refine ZO rfl ?_;conv=>arg 3;whnf
         refine ZO rfl ?_;conv=>arg 3;whnf
         refine Zg rfl ?_ ?_<;>conv=>arg 3;whnf
         ·refine Zg rfl ?_ ?_<;>conv=>arg 3;whnf
          ·refine Zc (Zb s0.1 x178.1 (w64 (s0.2.2.1-1)) x178.2) (hrc s0.1 x178.1 (w64 (s0.2.2.1-1)) x178.2) fun x183 hx183=>?_;conv=>arg 3;whnf
           exact Zd (ih _)
          ·refine Zc (Zb s0.1 x178.1 (w64 (s0.2.2.1-1)) x178.2) (hrc s0.1 x178.1 (w64 (s0.2.2.1-1)) x178.2) fun x184 hx184=>?_;conv=>arg 3;whnf
           exact Zd (ih _)
         ·refine Zg rfl ?_ ?_<;>conv=>arg 3;whnf
          ·refine Zc (Zb (w64 (x178.1+1)) s0.2.1 (w64 (s0.2.2.1-1)) x178.2) (hrc (w64 (x178.1+1)) s0.2.1 (w64 (s0.2.2.1-1)) x178.2) fun x185 hx185=>?_;conv=>arg 3;whnf
           exact Zd (ih _)
          ·refine Zc (Zb (w64 (x178.1+1)) s0.2.1 (w64 (s0.2.2.1-1)) x178.2) (hrc (w64 (x178.1+1)) s0.2.1 (w64 (s0.2.2.1-1)) x178.2) fun x186 hx186=>?_;conv=>arg 3;whnf
           exact Zd (ih _)
       ·refine Zc _ Z7 fun x187 hx187=>?_;conv=>arg 3;whnf
        exact Zd (ih _)
      ·refine Zc _ Zy fun x188 hx188=>?_
       clear hx188
       rcases x188 with x188 | x188
       ·conv=>arg 3;whnf
        refine Zbx rfl ?_;conv=>arg 3;whnf
        refine ZO rfl ?_;conv=>arg 3;whnf
        refine Zg rfl ?_ ?_<;>conv=>arg 3;whnf
        ·refine Zg rfl ?_ ?_<;>conv=>arg 3;whnf
         ·refine Zc (Zb s0.1 x188.1 (w64 (s0.2.2.1-1)) x188.2) (hrc s0.1 x188.1 (w64 (s0.2.2.1-1)) x188.2) fun x189 hx189=>?_;conv=>arg 3;whnf
          exact Zd (ih _)
         ·refine Zc (Zb s0.1 x188.1 (w64 (s0.2.2.1-1)) x188.2) (hrc s0.1 x188.1 (w64 (s0.2.2.1-1)) x188.2) fun x190 hx190=>?_;conv=>arg 3;whnf
          exact Zd (ih _)
        ·refine Zg rfl ?_ ?_<;>conv=>arg 3;whnf
         ·refine Zc (Zb (w64 (x188.1+1)) s0.2.1 (w64 (s0.2.2.1-1)) x188.2) (hrc (w64 (x188.1+1)) s0.2.1 (w64 (s0.2.2.1-1)) x188.2) fun x191 hx191=>?_;conv=>arg 3;whnf
          exact Zd (ih _)
         ·refine Zc (Zb (w64 (x188.1+1)) s0.2.1 (w64 (s0.2.2.1-1)) x188.2) (hrc (w64 (x188.1+1)) s0.2.1 (w64 (s0.2.2.1-1)) x188.2) fun x192 hx192=>?_;conv=>arg 3;whnf
          exact Zd (ih _)
       ·conv=>arg 3;whnf
        refine ZO rfl ?_;conv=>arg 3;whnf
        refine ZO rfl ?_;conv=>arg 3;whnf
        refine Zg rfl ?_ ?_<;>conv=>arg 3;whnf
        ·refine Zg rfl ?_ ?_<;>conv=>arg 3;whnf
         ·refine Zc (Zb s0.1 x188.1 (w64 (s0.2.2.1-1)) x188.2) (hrc s0.1 x188.1 (w64 (s0.2.2.1-1)) x188.2) fun x193 hx193=>?_;conv=>arg 3;whnf
          exact Zd (ih _)
         ·refine Zc (Zb s0.1 x188.1 (w64 (s0.2.2.1-1)) x188.2) (hrc s0.1 x188.1 (w64 (s0.2.2.1-1)) x188.2) fun x194 hx194=>?_;conv=>arg 3;whnf
          exact Zd (ih _)
        ·refine Zg rfl ?_ ?_<;>conv=>arg 3;whnf
         ·refine Zc (Zb (w64 (x188.1+1)) s0.2.1 (w64 (s0.2.2.1-1)) x188.2) (hrc (w64 (x188.1+1)) s0.2.1 (w64 (s0.2.2.1-1)) x188.2) fun x195 hx195=>?_;conv=>arg 3;whnf
          exact Zd (ih _)
         ·refine Zc (Zb (w64 (x188.1+1)) s0.2.1 (w64 (s0.2.2.1-1)) x188.2) (hrc (w64 (x188.1+1)) s0.2.1 (w64 (s0.2.2.1-1)) x188.2) fun x196 hx196=>?_;conv=>arg 3;whnf
          exact Zd (ih _)
     ·refine Zg rfl ?_ ?_<;>conv=>arg 3;whnf
      ·refine Zj rfl rfl fun x197 hx197=>?_;conv=>arg 3;whnf
       refine Zf (Zl rfl hx197) ?_;conv=>arg 3;whnf
       refine Zj rfl rfl fun x198 hx198=>?_;conv=>arg 3;whnf
       refine Zf (Zl rfl hx198) ?_;conv=>arg 3;whnf
       refine Zr _ Z1 rfl fun x199 hx199=>?_;conv=>arg 3;whnf
       refine Zg rfl ?_ ?_<;>conv=>arg 3;whnf
       ·refine Zc _ Zy fun x200 hx200=>?_
        clear hx200
        rcases x200 with x200 | x200
        ·conv=>arg 3;whnf
         refine Zbx rfl ?_;conv=>arg 3;whnf
         refine ZO rfl ?_;conv=>arg 3;whnf
         refine Zg rfl ?_ ?_<;>conv=>arg 3;whnf
         ·refine Zg rfl ?_ ?_<;>conv=>arg 3;whnf
          ·refine Zc (Zb s0.1 x200.1 (w64 (s0.2.2.1-1)) x200.2) (hrc s0.1 x200.1 (w64 (s0.2.2.1-1)) x200.2) fun x201 hx201=>?_;conv=>arg 3;whnf
           exact Zd (ih _)
          ·refine Zc (Zb s0.1 x200.1 (w64 (s0.2.2.1-1)) x200.2) (hrc s0.1 x200.1 (w64 (s0.2.2.1-1)) x200.2) fun x202 hx202=>?_;conv=>arg 3;whnf
           exact Zd (ih _)
         ·refine Zg rfl ?_ ?_<;>conv=>arg 3;whnf
          ·refine Zc (Zb (w64 (x200.1+1)) s0.2.1 (w64 (s0.2.2.1-1)) x200.2) (hrc (w64 (x200.1+1)) s0.2.1 (w64 (s0.2.2.1-1)) x200.2) fun x203 hx203=>?_;conv=>arg 3;whnf
           exact Zd (ih _)
          ·refine Zc (Zb (w64 (x200.1+1)) s0.2.1 (w64 (s0.2.2.1-1)) x200.2) (hrc (w64 (x200.1+1)) s0.2.1 (w64 (s0.2.2.1-1)) x200.2) fun x204 hx204=>?_;conv=>arg 3;whnf
           exact Zd (ih _)
        ·conv=>arg 3;whnf
         refine ZO rfl ?_;conv=>arg 3;whnf
         refine ZO rfl ?_;conv=>arg 3;whnf
         refine Zg rfl ?_ ?_<;>conv=>arg 3;whnf
         ·refine Zg rfl ?_ ?_<;>conv=>arg 3;whnf
          ·refine Zc (Zb s0.1 x200.1 (w64 (s0.2.2.1-1)) x200.2) (hrc s0.1 x200.1 (w64 (s0.2.2.1-1)) x200.2) fun x205 hx205=>?_;conv=>arg 3;whnf
           exact Zd (ih _)
          ·refine Zc (Zb s0.1 x200.1 (w64 (s0.2.2.1-1)) x200.2) (hrc s0.1 x200.1 (w64 (s0.2.2.1-1)) x200.2) fun x206 hx206=>?_;conv=>arg 3;whnf
           exact Zd (ih _)
         ·refine Zg rfl ?_ ?_<;>conv=>arg 3;whnf
          ·refine Zc (Zb (w64 (x200.1+1)) s0.2.1 (w64 (s0.2.2.1-1)) x200.2) (hrc (w64 (x200.1+1)) s0.2.1 (w64 (s0.2.2.1-1)) x200.2) fun x207 hx207=>?_;conv=>arg 3;whnf
           exact Zd (ih _)
          ·refine Zc (Zb (w64 (x200.1+1)) s0.2.1 (w64 (s0.2.2.1-1)) x200.2) (hrc (w64 (x200.1+1)) s0.2.1 (w64 (s0.2.2.1-1)) x200.2) fun x208 hx208=>?_;conv=>arg 3;whnf
           exact Zd (ih _)
       ·refine Zc _ Z7 fun x209 hx209=>?_;conv=>arg 3;whnf
        exact Zd (ih _)
      ·refine Zc _ Zy fun x210 hx210=>?_
       clear hx210
       rcases x210 with x210 | x210
       ·conv=>arg 3;whnf
        refine Zbx rfl ?_;conv=>arg 3;whnf
        refine ZO rfl ?_;conv=>arg 3;whnf
        refine Zg rfl ?_ ?_<;>conv=>arg 3;whnf
        ·refine Zg rfl ?_ ?_<;>conv=>arg 3;whnf
         ·refine Zc (Zb s0.1 x210.1 (w64 (s0.2.2.1-1)) x210.2) (hrc s0.1 x210.1 (w64 (s0.2.2.1-1)) x210.2) fun x211 hx211=>?_;conv=>arg 3;whnf
          exact Zd (ih _)
         ·refine Zc (Zb s0.1 x210.1 (w64 (s0.2.2.1-1)) x210.2) (hrc s0.1 x210.1 (w64 (s0.2.2.1-1)) x210.2) fun x212 hx212=>?_;conv=>arg 3;whnf
          exact Zd (ih _)
        ·refine Zg rfl ?_ ?_<;>conv=>arg 3;whnf
         ·refine Zc (Zb (w64 (x210.1+1)) s0.2.1 (w64 (s0.2.2.1-1)) x210.2) (hrc (w64 (x210.1+1)) s0.2.1 (w64 (s0.2.2.1-1)) x210.2) fun x213 hx213=>?_;conv=>arg 3;whnf
          exact Zd (ih _)
         ·refine Zc (Zb (w64 (x210.1+1)) s0.2.1 (w64 (s0.2.2.1-1)) x210.2) (hrc (w64 (x210.1+1)) s0.2.1 (w64 (s0.2.2.1-1)) x210.2) fun x214 hx214=>?_;conv=>arg 3;whnf
          exact Zd (ih _)
       ·conv=>arg 3;whnf
        refine ZO rfl ?_;conv=>arg 3;whnf
        refine ZO rfl ?_;conv=>arg 3;whnf
        refine Zg rfl ?_ ?_<;>conv=>arg 3;whnf
        ·refine Zg rfl ?_ ?_<;>conv=>arg 3;whnf
         ·refine Zc (Zb s0.1 x210.1 (w64 (s0.2.2.1-1)) x210.2) (hrc s0.1 x210.1 (w64 (s0.2.2.1-1)) x210.2) fun x215 hx215=>?_;conv=>arg 3;whnf
          exact Zd (ih _)
         ·refine Zc (Zb s0.1 x210.1 (w64 (s0.2.2.1-1)) x210.2) (hrc s0.1 x210.1 (w64 (s0.2.2.1-1)) x210.2) fun x216 hx216=>?_;conv=>arg 3;whnf
          exact Zd (ih _)
        ·refine Zg rfl ?_ ?_<;>conv=>arg 3;whnf
         ·refine Zc (Zb (w64 (x210.1+1)) s0.2.1 (w64 (s0.2.2.1-1)) x210.2) (hrc (w64 (x210.1+1)) s0.2.1 (w64 (s0.2.2.1-1)) x210.2) fun x217 hx217=>?_;conv=>arg 3;whnf
          exact Zd (ih _)
         ·refine Zc (Zb (w64 (x210.1+1)) s0.2.1 (w64 (s0.2.2.1-1)) x210.2) (hrc (w64 (x210.1+1)) s0.2.1 (w64 (s0.2.2.1-1)) x210.2) fun x218 hx218=>?_;conv=>arg 3;whnf
          exact Zd (ih _)
  ·refine ZnO ?_;conv=>arg 3;whnf
   refine Zg rfl ?_ ?_<;>conv=>arg 3;whnf
   ·refine Zc _ Zb1 fun x121 hx121=>?_;conv=>arg 3;whnf
    exact Zh rfl
   ·refine Zg rfl ?_ ?_<;>conv=>arg 3;whnf
    ·refine Zc _ ZcC fun x122 hx122=>?_;conv=>arg 3;whnf
     exact Zh rfl
    ·refine Zc _ ZeA fun x123 hx123=>?_;conv=>arg 3;whnf
     refine Zc _ Zb8 fun x124 hx124=>?_;conv=>arg 3;whnf
     refine Zg rfl ?_ ?_<;>conv=>arg 3;whnf
     ·refine Zc _ Zb5 fun x125 hx125=>?_;conv=>arg 3;whnf
      refine Zg rfl ?_ ?_<;>conv=>arg 3;whnf
      ·refine Zj rfl rfl fun x126 hx126=>?_;conv=>arg 3;whnf
       refine Zf (Zl rfl hx126) ?_;conv=>arg 3;whnf
       refine Zj rfl rfl fun x127 hx127=>?_;conv=>arg 3;whnf
       refine Zf (Zl rfl hx127) ?_;conv=>arg 3;whnf
       refine Zr _ Z1 rfl fun x128 hx128=>?_;conv=>arg 3;whnf
       refine Zg rfl ?_ ?_<;>conv=>arg 3;whnf
       ·refine Zc _ Zy fun x129 hx129=>?_
        clear hx129
        rcases x129 with x129 | x129
        ·conv=>arg 3;whnf
         refine Zbx rfl ?_;conv=>arg 3;whnf
         refine ZO rfl ?_;conv=>arg 3;whnf
         refine Zg rfl ?_ ?_<;>conv=>arg 3;whnf
         ·refine Zg rfl ?_ ?_<;>conv=>arg 3;whnf
          ·refine Zc (Zb s0.1 x129.1 (w64 (s0.2.2.1-1)) x129.2) (hrc s0.1 x129.1 (w64 (s0.2.2.1-1)) x129.2) fun x130 hx130=>?_;conv=>arg 3;whnf
           exact Zd (ih _)
          ·refine Zc (Zb s0.1 x129.1 (w64 (s0.2.2.1-1)) x129.2) (hrc s0.1 x129.1 (w64 (s0.2.2.1-1)) x129.2) fun x131 hx131=>?_;conv=>arg 3;whnf
           exact Zd (ih _)
         ·refine Zg rfl ?_ ?_<;>conv=>arg 3;whnf
          ·refine Zc (Zb (w64 (x129.1+1)) s0.2.1 (w64 (s0.2.2.1-1)) x129.2) (hrc (w64 (x129.1+1)) s0.2.1 (w64 (s0.2.2.1-1)) x129.2) fun x132 hx132=>?_;conv=>arg 3;whnf
           exact Zd (ih _)
          ·refine Zc (Zb (w64 (x129.1+1)) s0.2.1 (w64 (s0.2.2.1-1)) x129.2) (hrc (w64 (x129.1+1)) s0.2.1 (w64 (s0.2.2.1-1)) x129.2) fun x133 hx133=>?_;conv=>arg 3;whnf
           exact Zd (ih _)
        ·conv=>arg 3;whnf
         refine ZO rfl ?_;conv=>arg 3;whnf
         refine ZO rfl ?_;conv=>arg 3;whnf
         refine Zg rfl ?_ ?_<;>conv=>arg 3;whnf
         ·refine Zg rfl ?_ ?_<;>conv=>arg 3;whnf
          ·refine Zc (Zb s0.1 x129.1 (w64 (s0.2.2.1-1)) x129.2) (hrc s0.1 x129.1 (w64 (s0.2.2.1-1)) x129.2) fun x134 hx134=>?_;conv=>arg 3;whnf
           exact Zd (ih _)
          ·refine Zc (Zb s0.1 x129.1 (w64 (s0.2.2.1-1)) x129.2) (hrc s0.1 x129.1 (w64 (s0.2.2.1-1)) x129.2) fun x135 hx135=>?_;conv=>arg 3;whnf
           exact Zd (ih _)
         ·refine Zg rfl ?_ ?_<;>conv=>arg 3;whnf
          ·refine Zc (Zb (w64 (x129.1+1)) s0.2.1 (w64 (s0.2.2.1-1)) x129.2) (hrc (w64 (x129.1+1)) s0.2.1 (w64 (s0.2.2.1-1)) x129.2) fun x136 hx136=>?_;conv=>arg 3;whnf
           exact Zd (ih _)
          ·refine Zc (Zb (w64 (x129.1+1)) s0.2.1 (w64 (s0.2.2.1-1)) x129.2) (hrc (w64 (x129.1+1)) s0.2.1 (w64 (s0.2.2.1-1)) x129.2) fun x137 hx137=>?_;conv=>arg 3;whnf
           exact Zd (ih _)
       ·refine Zc _ Z7 fun x138 hx138=>?_;conv=>arg 3;whnf
        exact Zd (ih _)
      ·refine Zc _ Zy fun x139 hx139=>?_
       clear hx139
       rcases x139 with x139 | x139
       ·conv=>arg 3;whnf
        refine Zbx rfl ?_;conv=>arg 3;whnf
        refine ZO rfl ?_;conv=>arg 3;whnf
        refine Zg rfl ?_ ?_<;>conv=>arg 3;whnf
        ·refine Zg rfl ?_ ?_<;>conv=>arg 3;whnf
         ·refine Zc (Zb s0.1 x139.1 (w64 (s0.2.2.1-1)) x139.2) (hrc s0.1 x139.1 (w64 (s0.2.2.1-1)) x139.2) fun x140 hx140=>?_;conv=>arg 3;whnf
          exact Zd (ih _)
         ·refine Zc (Zb s0.1 x139.1 (w64 (s0.2.2.1-1)) x139.2) (hrc s0.1 x139.1 (w64 (s0.2.2.1-1)) x139.2) fun x141 hx141=>?_;conv=>arg 3;whnf
          exact Zd (ih _)
        ·refine Zg rfl ?_ ?_<;>conv=>arg 3;whnf
         ·refine Zc (Zb (w64 (x139.1+1)) s0.2.1 (w64 (s0.2.2.1-1)) x139.2) (hrc (w64 (x139.1+1)) s0.2.1 (w64 (s0.2.2.1-1)) x139.2) fun x142 hx142=>?_;conv=>arg 3;whnf
          exact Zd (ih _)
         ·refine Zc (Zb (w64 (x139.1+1)) s0.2.1 (w64 (s0.2.2.1-1)) x139.2) (hrc (w64 (x139.1+1)) s0.2.1 (w64 (s0.2.2.1-1)) x139.2) fun x143 hx143=>?_;conv=>arg 3;whnf
          exact Zd (ih _)
       ·conv=>arg 3;whnf
        refine ZO rfl ?_;conv=>arg 3;whnf
        refine ZO rfl ?_;conv=>arg 3;whnf
        refine Zg rfl ?_ ?_<;>conv=>arg 3;whnf
        ·refine Zg rfl ?_ ?_<;>conv=>arg 3;whnf
         ·refine Zc (Zb s0.1 x139.1 (w64 (s0.2.2.1-1)) x139.2) (hrc s0.1 x139.1 (w64 (s0.2.2.1-1)) x139.2) fun x144 hx144=>?_;conv=>arg 3;whnf
          exact Zd (ih _)
         ·refine Zc (Zb s0.1 x139.1 (w64 (s0.2.2.1-1)) x139.2) (hrc s0.1 x139.1 (w64 (s0.2.2.1-1)) x139.2) fun x145 hx145=>?_;conv=>arg 3;whnf
          exact Zd (ih _)
        ·refine Zg rfl ?_ ?_<;>conv=>arg 3;whnf
         ·refine Zc (Zb (w64 (x139.1+1)) s0.2.1 (w64 (s0.2.2.1-1)) x139.2) (hrc (w64 (x139.1+1)) s0.2.1 (w64 (s0.2.2.1-1)) x139.2) fun x146 hx146=>?_;conv=>arg 3;whnf
          exact Zd (ih _)
         ·refine Zc (Zb (w64 (x139.1+1)) s0.2.1 (w64 (s0.2.2.1-1)) x139.2) (hrc (w64 (x139.1+1)) s0.2.1 (w64 (s0.2.2.1-1)) x139.2) fun x147 hx147=>?_;conv=>arg 3;whnf
          exact Zd (ih _)
     ·refine Zg rfl ?_ ?_<;>conv=>arg 3;whnf
      ·refine Zj rfl rfl fun x148 hx148=>?_;conv=>arg 3;whnf
       refine Zf (Zl rfl hx148) ?_;conv=>arg 3;whnf
       refine Zj rfl rfl fun x149 hx149=>?_;conv=>arg 3;whnf
       refine Zf (Zl rfl hx149) ?_;conv=>arg 3;whnf
       refine Zr _ Z1 rfl fun x150 hx150=>?_;conv=>arg 3;whnf
       refine Zg rfl ?_ ?_<;>conv=>arg 3;whnf
       ·refine Zc _ Zy fun x151 hx151=>?_
        clear hx151
        rcases x151 with x151 | x151
        ·conv=>arg 3;whnf
         refine Zbx rfl ?_;conv=>arg 3;whnf
         refine ZO rfl ?_;conv=>arg 3;whnf
         refine Zg rfl ?_ ?_<;>conv=>arg 3;whnf
         ·refine Zg rfl ?_ ?_<;>conv=>arg 3;whnf
          ·refine Zc (Zb s0.1 x151.1 (w64 (s0.2.2.1-1)) x151.2) (hrc s0.1 x151.1 (w64 (s0.2.2.1-1)) x151.2) fun x152 hx152=>?_;conv=>arg 3;whnf
           exact Zd (ih _)
          ·refine Zc (Zb s0.1 x151.1 (w64 (s0.2.2.1-1)) x151.2) (hrc s0.1 x151.1 (w64 (s0.2.2.1-1)) x151.2) fun x153 hx153=>?_;conv=>arg 3;whnf
           exact Zd (ih _)
         ·refine Zg rfl ?_ ?_<;>conv=>arg 3;whnf
          ·refine Zc (Zb (w64 (x151.1+1)) s0.2.1 (w64 (s0.2.2.1-1)) x151.2) (hrc (w64 (x151.1+1)) s0.2.1 (w64 (s0.2.2.1-1)) x151.2) fun x154 hx154=>?_;conv=>arg 3;whnf
           exact Zd (ih _)
          ·refine Zc (Zb (w64 (x151.1+1)) s0.2.1 (w64 (s0.2.2.1-1)) x151.2) (hrc (w64 (x151.1+1)) s0.2.1 (w64 (s0.2.2.1-1)) x151.2) fun x155 hx155=>?_;conv=>arg 3;whnf
           exact Zd (ih _)
        ·conv=>arg 3;whnf
         refine ZO rfl ?_;conv=>arg 3;whnf
         refine ZO rfl ?_;conv=>arg 3;whnf
         refine Zg rfl ?_ ?_<;>conv=>arg 3;whnf
         ·refine Zg rfl ?_ ?_<;>conv=>arg 3;whnf
          ·refine Zc (Zb s0.1 x151.1 (w64 (s0.2.2.1-1)) x151.2) (hrc s0.1 x151.1 (w64 (s0.2.2.1-1)) x151.2) fun x156 hx156=>?_;conv=>arg 3;whnf
           exact Zd (ih _)
          ·refine Zc (Zb s0.1 x151.1 (w64 (s0.2.2.1-1)) x151.2) (hrc s0.1 x151.1 (w64 (s0.2.2.1-1)) x151.2) fun x157 hx157=>?_;conv=>arg 3;whnf
           exact Zd (ih _)
         ·refine Zg rfl ?_ ?_<;>conv=>arg 3;whnf
          ·refine Zc (Zb (w64 (x151.1+1)) s0.2.1 (w64 (s0.2.2.1-1)) x151.2) (hrc (w64 (x151.1+1)) s0.2.1 (w64 (s0.2.2.1-1)) x151.2) fun x158 hx158=>?_;conv=>arg 3;whnf
           exact Zd (ih _)
          ·refine Zc (Zb (w64 (x151.1+1)) s0.2.1 (w64 (s0.2.2.1-1)) x151.2) (hrc (w64 (x151.1+1)) s0.2.1 (w64 (s0.2.2.1-1)) x151.2) fun x159 hx159=>?_;conv=>arg 3;whnf
           exact Zd (ih _)
       ·refine Zc _ Z7 fun x160 hx160=>?_;conv=>arg 3;whnf
        exact Zd (ih _)
      ·refine Zc _ Zy fun x161 hx161=>?_
       clear hx161
       rcases x161 with x161 | x161
       ·conv=>arg 3;whnf
        refine Zbx rfl ?_;conv=>arg 3;whnf
        refine ZO rfl ?_;conv=>arg 3;whnf
        refine Zg rfl ?_ ?_<;>conv=>arg 3;whnf
        ·refine Zg rfl ?_ ?_<;>conv=>arg 3;whnf
         ·refine Zc (Zb s0.1 x161.1 (w64 (s0.2.2.1-1)) x161.2) (hrc s0.1 x161.1 (w64 (s0.2.2.1-1)) x161.2) fun x162 hx162=>?_;conv=>arg 3;whnf
          exact Zd (ih _)
         ·refine Zc (Zb s0.1 x161.1 (w64 (s0.2.2.1-1)) x161.2) (hrc s0.1 x161.1 (w64 (s0.2.2.1-1)) x161.2) fun x163 hx163=>?_;conv=>arg 3;whnf
          exact Zd (ih _)
        ·refine Zg rfl ?_ ?_<;>conv=>arg 3;whnf
         ·refine Zc (Zb (w64 (x161.1+1)) s0.2.1 (w64 (s0.2.2.1-1)) x161.2) (hrc (w64 (x161.1+1)) s0.2.1 (w64 (s0.2.2.1-1)) x161.2) fun x164 hx164=>?_;conv=>arg 3;whnf
          exact Zd (ih _)
         ·refine Zc (Zb (w64 (x161.1+1)) s0.2.1 (w64 (s0.2.2.1-1)) x161.2) (hrc (w64 (x161.1+1)) s0.2.1 (w64 (s0.2.2.1-1)) x161.2) fun x165 hx165=>?_;conv=>arg 3;whnf
          exact Zd (ih _)
       ·conv=>arg 3;whnf
        refine ZO rfl ?_;conv=>arg 3;whnf
        refine ZO rfl ?_;conv=>arg 3;whnf
        refine Zg rfl ?_ ?_<;>conv=>arg 3;whnf
        ·refine Zg rfl ?_ ?_<;>conv=>arg 3;whnf
         ·refine Zc (Zb s0.1 x161.1 (w64 (s0.2.2.1-1)) x161.2) (hrc s0.1 x161.1 (w64 (s0.2.2.1-1)) x161.2) fun x166 hx166=>?_;conv=>arg 3;whnf
          exact Zd (ih _)
         ·refine Zc (Zb s0.1 x161.1 (w64 (s0.2.2.1-1)) x161.2) (hrc s0.1 x161.1 (w64 (s0.2.2.1-1)) x161.2) fun x167 hx167=>?_;conv=>arg 3;whnf
          exact Zd (ih _)
        ·refine Zg rfl ?_ ?_<;>conv=>arg 3;whnf
         ·refine Zc (Zb (w64 (x161.1+1)) s0.2.1 (w64 (s0.2.2.1-1)) x161.2) (hrc (w64 (x161.1+1)) s0.2.1 (w64 (s0.2.2.1-1)) x161.2) fun x168 hx168=>?_;conv=>arg 3;whnf
          exact Zd (ih _)
         ·refine Zc (Zb (w64 (x161.1+1)) s0.2.1 (w64 (s0.2.2.1-1)) x161.2) (hrc (w64 (x161.1+1)) s0.2.1 (w64 (s0.2.2.1-1)) x161.2) fun x169 hx169=>?_;conv=>arg 3;whnf
          exact Zd (ih _)
 ·refine ZnO ?_
  rcases hb:s0.2.2.2.2.1 with _ | _
  ·refine Zn7 ?_;conv=>arg 3;whnf
   refine Zg rfl ?_ ?_<;>conv=>arg 3;whnf
   ·refine Zc _ Zb1 fun x73 hx73=>?_;conv=>arg 3;whnf
    exact Zh rfl
   ·refine Zg rfl ?_ ?_<;>conv=>arg 3;whnf
    ·refine Zc _ ZcC fun x74 hx74=>?_;conv=>arg 3;whnf
     exact Zh rfl
    ·refine Zc _ Zb8 fun x75 hx75=>?_;conv=>arg 3;whnf
     refine Zg rfl ?_ ?_<;>conv=>arg 3;whnf
     ·refine Zc _ Zb5 fun x76 hx76=>?_;conv=>arg 3;whnf
      refine Zg rfl ?_ ?_<;>conv=>arg 3;whnf
      ·refine Zj rfl rfl fun x77 hx77=>?_;conv=>arg 3;whnf
       refine Zf (Zl rfl hx77) ?_;conv=>arg 3;whnf
       refine Zj rfl rfl fun x78 hx78=>?_;conv=>arg 3;whnf
       refine Zf (Zl rfl hx78) ?_;conv=>arg 3;whnf
       refine Zr _ Z1 rfl fun x79 hx79=>?_;conv=>arg 3;whnf
       refine Zg rfl ?_ ?_<;>conv=>arg 3;whnf
       ·refine Zc _ Zy fun x80 hx80=>?_
        clear hx80
        rcases x80 with x80 | x80
        ·conv=>arg 3;whnf
         refine Zbx rfl ?_;conv=>arg 3;whnf
         refine ZO rfl ?_;conv=>arg 3;whnf
         refine Zg rfl ?_ ?_<;>conv=>arg 3;whnf
         ·refine Zg rfl ?_ ?_<;>conv=>arg 3;whnf
          ·refine Zc (Zb s0.1 x80.1 s0.2.2.1 x80.2) (hrc s0.1 x80.1 s0.2.2.1 x80.2) fun x81 hx81=>?_;conv=>arg 3;whnf
           exact Zd (ih _)
          ·refine Zc (Zb s0.1 x80.1 s0.2.2.1 x80.2) (hrc s0.1 x80.1 s0.2.2.1 x80.2) fun x82 hx82=>?_;conv=>arg 3;whnf
           exact Zd (ih _)
         ·refine Zg rfl ?_ ?_<;>conv=>arg 3;whnf
          ·refine Zc (Zb (w64 (x80.1+1)) s0.2.1 s0.2.2.1 x80.2) (hrc (w64 (x80.1+1)) s0.2.1 s0.2.2.1 x80.2) fun x83 hx83=>?_;conv=>arg 3;whnf
           exact Zd (ih _)
          ·refine Zc (Zb (w64 (x80.1+1)) s0.2.1 s0.2.2.1 x80.2) (hrc (w64 (x80.1+1)) s0.2.1 s0.2.2.1 x80.2) fun x84 hx84=>?_;conv=>arg 3;whnf
           exact Zd (ih _)
        ·conv=>arg 3;whnf
         refine ZO rfl ?_;conv=>arg 3;whnf
         refine ZO rfl ?_;conv=>arg 3;whnf
         refine Zg rfl ?_ ?_<;>conv=>arg 3;whnf
         ·refine Zg rfl ?_ ?_<;>conv=>arg 3;whnf
          ·refine Zc (Zb s0.1 x80.1 s0.2.2.1 x80.2) (hrc s0.1 x80.1 s0.2.2.1 x80.2) fun x85 hx85=>?_;conv=>arg 3;whnf
           exact Zd (ih _)
          ·refine Zc (Zb s0.1 x80.1 s0.2.2.1 x80.2) (hrc s0.1 x80.1 s0.2.2.1 x80.2) fun x86 hx86=>?_;conv=>arg 3;whnf
           exact Zd (ih _)
         ·refine Zg rfl ?_ ?_<;>conv=>arg 3;whnf
          ·refine Zc (Zb (w64 (x80.1+1)) s0.2.1 s0.2.2.1 x80.2) (hrc (w64 (x80.1+1)) s0.2.1 s0.2.2.1 x80.2) fun x87 hx87=>?_;conv=>arg 3;whnf
           exact Zd (ih _)
          ·refine Zc (Zb (w64 (x80.1+1)) s0.2.1 s0.2.2.1 x80.2) (hrc (w64 (x80.1+1)) s0.2.1 s0.2.2.1 x80.2) fun x88 hx88=>?_;conv=>arg 3;whnf
           exact Zd (ih _)
       ·refine Zc _ Z7 fun x89 hx89=>?_;conv=>arg 3;whnf
        exact Zd (ih _)
      ·refine Zc _ Zy fun x90 hx90=>?_
       clear hx90
       rcases x90 with x90 | x90
       ·conv=>arg 3;whnf
        refine Zbx rfl ?_;conv=>arg 3;whnf
        refine ZO rfl ?_;conv=>arg 3;whnf
        refine Zg rfl ?_ ?_<;>conv=>arg 3;whnf
        ·refine Zg rfl ?_ ?_<;>conv=>arg 3;whnf
         ·refine Zc (Zb s0.1 x90.1 s0.2.2.1 x90.2) (hrc s0.1 x90.1 s0.2.2.1 x90.2) fun x91 hx91=>?_;conv=>arg 3;whnf
          exact Zd (ih _)
         ·refine Zc (Zb s0.1 x90.1 s0.2.2.1 x90.2) (hrc s0.1 x90.1 s0.2.2.1 x90.2) fun x92 hx92=>?_;conv=>arg 3;whnf
          exact Zd (ih _)
        ·refine Zg rfl ?_ ?_<;>conv=>arg 3;whnf
         ·refine Zc (Zb (w64 (x90.1+1)) s0.2.1 s0.2.2.1 x90.2) (hrc (w64 (x90.1+1)) s0.2.1 s0.2.2.1 x90.2) fun x93 hx93=>?_;conv=>arg 3;whnf
          exact Zd (ih _)
         ·refine Zc (Zb (w64 (x90.1+1)) s0.2.1 s0.2.2.1 x90.2) (hrc (w64 (x90.1+1)) s0.2.1 s0.2.2.1 x90.2) fun x94 hx94=>?_;conv=>arg 3;whnf
          exact Zd (ih _)
       ·conv=>arg 3;whnf
        refine ZO rfl ?_;conv=>arg 3;whnf
        refine ZO rfl ?_;conv=>arg 3;whnf
        refine Zg rfl ?_ ?_<;>conv=>arg 3;whnf
        ·refine Zg rfl ?_ ?_<;>conv=>arg 3;whnf
         ·refine Zc (Zb s0.1 x90.1 s0.2.2.1 x90.2) (hrc s0.1 x90.1 s0.2.2.1 x90.2) fun x95 hx95=>?_;conv=>arg 3;whnf
          exact Zd (ih _)
         ·refine Zc (Zb s0.1 x90.1 s0.2.2.1 x90.2) (hrc s0.1 x90.1 s0.2.2.1 x90.2) fun x96 hx96=>?_;conv=>arg 3;whnf
          exact Zd (ih _)
        ·refine Zg rfl ?_ ?_<;>conv=>arg 3;whnf
         ·refine Zc (Zb (w64 (x90.1+1)) s0.2.1 s0.2.2.1 x90.2) (hrc (w64 (x90.1+1)) s0.2.1 s0.2.2.1 x90.2) fun x97 hx97=>?_;conv=>arg 3;whnf
          exact Zd (ih _)
         ·refine Zc (Zb (w64 (x90.1+1)) s0.2.1 s0.2.2.1 x90.2) (hrc (w64 (x90.1+1)) s0.2.1 s0.2.2.1 x90.2) fun x98 hx98=>?_;conv=>arg 3;whnf
          exact Zd (ih _)
     ·refine Zg rfl ?_ ?_<;>conv=>arg 3;whnf
      ·refine Zj rfl rfl fun x99 hx99=>?_;conv=>arg 3;whnf
       refine Zf (Zl rfl hx99) ?_;conv=>arg 3;whnf
       refine Zj rfl rfl fun x100 hx100=>?_;conv=>arg 3;whnf
       refine Zf (Zl rfl hx100) ?_;conv=>arg 3;whnf
       refine Zr _ Z1 rfl fun x101 hx101=>?_;conv=>arg 3;whnf
       refine Zg rfl ?_ ?_<;>conv=>arg 3;whnf
       ·refine Zc _ Zy fun x102 hx102=>?_
        clear hx102
        rcases x102 with x102 | x102
        ·conv=>arg 3;whnf
         refine Zbx rfl ?_;conv=>arg 3;whnf
         refine ZO rfl ?_;conv=>arg 3;whnf
         refine Zg rfl ?_ ?_<;>conv=>arg 3;whnf
         ·refine Zg rfl ?_ ?_<;>conv=>arg 3;whnf
          ·refine Zc (Zb s0.1 x102.1 s0.2.2.1 x102.2) (hrc s0.1 x102.1 s0.2.2.1 x102.2) fun x103 hx103=>?_;conv=>arg 3;whnf
           exact Zd (ih _)
          ·refine Zc (Zb s0.1 x102.1 s0.2.2.1 x102.2) (hrc s0.1 x102.1 s0.2.2.1 x102.2) fun x104 hx104=>?_;conv=>arg 3;whnf
           exact Zd (ih _)
         ·refine Zg rfl ?_ ?_<;>conv=>arg 3;whnf
          ·refine Zc (Zb (w64 (x102.1+1)) s0.2.1 s0.2.2.1 x102.2) (hrc (w64 (x102.1+1)) s0.2.1 s0.2.2.1 x102.2) fun x105 hx105=>?_;conv=>arg 3;whnf
           exact Zd (ih _)
          ·refine Zc (Zb (w64 (x102.1+1)) s0.2.1 s0.2.2.1 x102.2) (hrc (w64 (x102.1+1)) s0.2.1 s0.2.2.1 x102.2) fun x106 hx106=>?_;conv=>arg 3;whnf
           exact Zd (ih _)
        ·conv=>arg 3;whnf
         refine ZO rfl ?_;conv=>arg 3;whnf
         refine ZO rfl ?_;conv=>arg 3;whnf
         refine Zg rfl ?_ ?_<;>conv=>arg 3;whnf
         ·refine Zg rfl ?_ ?_<;>conv=>arg 3;whnf
          ·refine Zc (Zb s0.1 x102.1 s0.2.2.1 x102.2) (hrc s0.1 x102.1 s0.2.2.1 x102.2) fun x107 hx107=>?_;conv=>arg 3;whnf
           exact Zd (ih _)
          ·refine Zc (Zb s0.1 x102.1 s0.2.2.1 x102.2) (hrc s0.1 x102.1 s0.2.2.1 x102.2) fun x108 hx108=>?_;conv=>arg 3;whnf
           exact Zd (ih _)
         ·refine Zg rfl ?_ ?_<;>conv=>arg 3;whnf
          ·refine Zc (Zb (w64 (x102.1+1)) s0.2.1 s0.2.2.1 x102.2) (hrc (w64 (x102.1+1)) s0.2.1 s0.2.2.1 x102.2) fun x109 hx109=>?_;conv=>arg 3;whnf
           exact Zd (ih _)
          ·refine Zc (Zb (w64 (x102.1+1)) s0.2.1 s0.2.2.1 x102.2) (hrc (w64 (x102.1+1)) s0.2.1 s0.2.2.1 x102.2) fun x110 hx110=>?_;conv=>arg 3;whnf
           exact Zd (ih _)
       ·refine Zc _ Z7 fun x111 hx111=>?_;conv=>arg 3;whnf
        exact Zd (ih _)
      ·refine Zc _ Zy fun x112 hx112=>?_
       clear hx112
       rcases x112 with x112 | x112
       ·conv=>arg 3;whnf
        refine Zbx rfl ?_;conv=>arg 3;whnf
        refine ZO rfl ?_;conv=>arg 3;whnf
        refine Zg rfl ?_ ?_<;>conv=>arg 3;whnf
        ·refine Zg rfl ?_ ?_<;>conv=>arg 3;whnf
         ·refine Zc (Zb s0.1 x112.1 s0.2.2.1 x112.2) (hrc s0.1 x112.1 s0.2.2.1 x112.2) fun x113 hx113=>?_;conv=>arg 3;whnf
          exact Zd (ih _)
         ·refine Zc (Zb s0.1 x112.1 s0.2.2.1 x112.2) (hrc s0.1 x112.1 s0.2.2.1 x112.2) fun x114 hx114=>?_;conv=>arg 3;whnf
          exact Zd (ih _)
        ·refine Zg rfl ?_ ?_<;>conv=>arg 3;whnf
         ·refine Zc (Zb (w64 (x112.1+1)) s0.2.1 s0.2.2.1 x112.2) (hrc (w64 (x112.1+1)) s0.2.1 s0.2.2.1 x112.2) fun x115 hx115=>?_;conv=>arg 3;whnf
          exact Zd (ih _)
         ·refine Zc (Zb (w64 (x112.1+1)) s0.2.1 s0.2.2.1 x112.2) (hrc (w64 (x112.1+1)) s0.2.1 s0.2.2.1 x112.2) fun x116 hx116=>?_;conv=>arg 3;whnf
          exact Zd (ih _)
       ·conv=>arg 3;whnf
        refine ZO rfl ?_;conv=>arg 3;whnf
        refine ZO rfl ?_;conv=>arg 3;whnf
        refine Zg rfl ?_ ?_<;>conv=>arg 3;whnf
        ·refine Zg rfl ?_ ?_<;>conv=>arg 3;whnf
         ·refine Zc (Zb s0.1 x112.1 s0.2.2.1 x112.2) (hrc s0.1 x112.1 s0.2.2.1 x112.2) fun x117 hx117=>?_;conv=>arg 3;whnf
          exact Zd (ih _)
         ·refine Zc (Zb s0.1 x112.1 s0.2.2.1 x112.2) (hrc s0.1 x112.1 s0.2.2.1 x112.2) fun x118 hx118=>?_;conv=>arg 3;whnf
          exact Zd (ih _)
        ·refine Zg rfl ?_ ?_<;>conv=>arg 3;whnf
         ·refine Zc (Zb (w64 (x112.1+1)) s0.2.1 s0.2.2.1 x112.2) (hrc (w64 (x112.1+1)) s0.2.1 s0.2.2.1 x112.2) fun x119 hx119=>?_;conv=>arg 3;whnf
          exact Zd (ih _)
         ·refine Zc (Zb (w64 (x112.1+1)) s0.2.1 s0.2.2.1 x112.2) (hrc (w64 (x112.1+1)) s0.2.1 s0.2.2.1 x112.2) fun x120 hx120=>?_;conv=>arg 3;whnf
          exact Zd (ih _)
  ·refine ZnO ?_;conv=>arg 3;whnf
   refine Zg rfl ?_ ?_<;>conv=>arg 3;whnf
   ·refine Zc _ Zb1 fun x1 hx1=>?_;conv=>arg 3;whnf
    exact Zh rfl
   ·refine Zg rfl ?_ ?_<;>conv=>arg 3;whnf
    ·refine Zc _ ZcC fun x2 hx2=>?_;conv=>arg 3;whnf
     exact Zh rfl
    ·refine Zc _ Zb8 fun x3 hx3=>?_;conv=>arg 3;whnf
     refine Zg rfl ?_ ?_<;>conv=>arg 3;whnf
     ·refine Zc _ Zb5 fun x4 hx4=>?_;conv=>arg 3;whnf
      refine Zbx rfl ?_;conv=>arg 3;whnf
      refine Zc _ Zdv fun x5 hx5=>?_
      clear hx5
      rcases x5 with x5 | x5
      ·conv=>arg 3;whnf
       exact Zh rfl
      ·conv=>arg 3;whnf
       refine Zg rfl ?_ ?_<;>conv=>arg 3;whnf
       ·refine Zj rfl rfl fun x6 hx6=>?_;conv=>arg 3;whnf
        refine Zf (Zl rfl hx6) ?_;conv=>arg 3;whnf
        refine Zj rfl rfl fun x7 hx7=>?_;conv=>arg 3;whnf
        refine Zf (Zl rfl hx7) ?_;conv=>arg 3;whnf
        refine Zr _ Z1 rfl fun x8 hx8=>?_;conv=>arg 3;whnf
        refine Zg rfl ?_ ?_<;>conv=>arg 3;whnf
        ·refine Zc _ Zy fun x9 hx9=>?_
         clear hx9
         rcases x9 with x9 | x9
         ·conv=>arg 3;whnf
          refine Zbx rfl ?_;conv=>arg 3;whnf
          refine ZO rfl ?_;conv=>arg 3;whnf
          refine Zg rfl ?_ ?_<;>conv=>arg 3;whnf
          ·refine Zg rfl ?_ ?_<;>conv=>arg 3;whnf
           ·refine Zc (Zb s0.1 x9.1 s0.2.2.1 x9.2) (hrc s0.1 x9.1 s0.2.2.1 x9.2) fun x10 hx10=>?_;conv=>arg 3;whnf
            exact Zd (ih _)
           ·refine Zc (Zb s0.1 x9.1 s0.2.2.1 x9.2) (hrc s0.1 x9.1 s0.2.2.1 x9.2) fun x11 hx11=>?_;conv=>arg 3;whnf
            exact Zd (ih _)
          ·refine Zg rfl ?_ ?_<;>conv=>arg 3;whnf
           ·refine Zc (Zb (w64 (x9.1+1)) s0.2.1 s0.2.2.1 x9.2) (hrc (w64 (x9.1+1)) s0.2.1 s0.2.2.1 x9.2) fun x12 hx12=>?_;conv=>arg 3;whnf
            exact Zd (ih _)
           ·refine Zc (Zb (w64 (x9.1+1)) s0.2.1 s0.2.2.1 x9.2) (hrc (w64 (x9.1+1)) s0.2.1 s0.2.2.1 x9.2) fun x13 hx13=>?_;conv=>arg 3;whnf
            exact Zd (ih _)
         ·conv=>arg 3;whnf
          refine ZO rfl ?_;conv=>arg 3;whnf
          refine ZO rfl ?_;conv=>arg 3;whnf
          refine Zg rfl ?_ ?_<;>conv=>arg 3;whnf
          ·refine Zg rfl ?_ ?_<;>conv=>arg 3;whnf
           ·refine Zc (Zb s0.1 x9.1 s0.2.2.1 x9.2) (hrc s0.1 x9.1 s0.2.2.1 x9.2) fun x14 hx14=>?_;conv=>arg 3;whnf
            exact Zd (ih _)
           ·refine Zc (Zb s0.1 x9.1 s0.2.2.1 x9.2) (hrc s0.1 x9.1 s0.2.2.1 x9.2) fun x15 hx15=>?_;conv=>arg 3;whnf
            exact Zd (ih _)
          ·refine Zg rfl ?_ ?_<;>conv=>arg 3;whnf
           ·refine Zc (Zb (w64 (x9.1+1)) s0.2.1 s0.2.2.1 x9.2) (hrc (w64 (x9.1+1)) s0.2.1 s0.2.2.1 x9.2) fun x16 hx16=>?_;conv=>arg 3;whnf
            exact Zd (ih _)
           ·refine Zc (Zb (w64 (x9.1+1)) s0.2.1 s0.2.2.1 x9.2) (hrc (w64 (x9.1+1)) s0.2.1 s0.2.2.1 x9.2) fun x17 hx17=>?_;conv=>arg 3;whnf
            exact Zd (ih _)
        ·refine Zc _ Z7 fun x18 hx18=>?_;conv=>arg 3;whnf
         exact Zd (ih _)
       ·refine Zc _ Zy fun x19 hx19=>?_
        clear hx19
        rcases x19 with x19 | x19
        ·conv=>arg 3;whnf
         refine Zbx rfl ?_;conv=>arg 3;whnf
         refine ZO rfl ?_;conv=>arg 3;whnf
         refine Zg rfl ?_ ?_<;>conv=>arg 3;whnf
         ·refine Zg rfl ?_ ?_<;>conv=>arg 3;whnf
          ·refine Zc (Zb s0.1 x19.1 s0.2.2.1 x19.2) (hrc s0.1 x19.1 s0.2.2.1 x19.2) fun x20 hx20=>?_;conv=>arg 3;whnf
           exact Zd (ih _)
          ·refine Zc (Zb s0.1 x19.1 s0.2.2.1 x19.2) (hrc s0.1 x19.1 s0.2.2.1 x19.2) fun x21 hx21=>?_;conv=>arg 3;whnf
           exact Zd (ih _)
         ·refine Zg rfl ?_ ?_<;>conv=>arg 3;whnf
          ·refine Zc (Zb (w64 (x19.1+1)) s0.2.1 s0.2.2.1 x19.2) (hrc (w64 (x19.1+1)) s0.2.1 s0.2.2.1 x19.2) fun x22 hx22=>?_;conv=>arg 3;whnf
           exact Zd (ih _)
          ·refine Zc (Zb (w64 (x19.1+1)) s0.2.1 s0.2.2.1 x19.2) (hrc (w64 (x19.1+1)) s0.2.1 s0.2.2.1 x19.2) fun x23 hx23=>?_;conv=>arg 3;whnf
           exact Zd (ih _)
        ·conv=>arg 3;whnf
         refine ZO rfl ?_;conv=>arg 3;whnf
         refine ZO rfl ?_;conv=>arg 3;whnf
         refine Zg rfl ?_ ?_<;>conv=>arg 3;whnf
         ·refine Zg rfl ?_ ?_<;>conv=>arg 3;whnf
          ·refine Zc (Zb s0.1 x19.1 s0.2.2.1 x19.2) (hrc s0.1 x19.1 s0.2.2.1 x19.2) fun x24 hx24=>?_;conv=>arg 3;whnf
           exact Zd (ih _)
          ·refine Zc (Zb s0.1 x19.1 s0.2.2.1 x19.2) (hrc s0.1 x19.1 s0.2.2.1 x19.2) fun x25 hx25=>?_;conv=>arg 3;whnf
           exact Zd (ih _)
         ·refine Zg rfl ?_ ?_<;>conv=>arg 3;whnf
          ·refine Zc (Zb (w64 (x19.1+1)) s0.2.1 s0.2.2.1 x19.2) (hrc (w64 (x19.1+1)) s0.2.1 s0.2.2.1 x19.2) fun x26 hx26=>?_;conv=>arg 3;whnf
           exact Zd (ih _)
          ·refine Zc (Zb (w64 (x19.1+1)) s0.2.1 s0.2.2.1 x19.2) (hrc (w64 (x19.1+1)) s0.2.1 s0.2.2.1 x19.2) fun x27 hx27=>?_;conv=>arg 3;whnf
           exact Zd (ih _)
     ·refine Zg rfl ?_ ?_<;>conv=>arg 3;whnf
      ·refine Zc _ Zdv fun x28 hx28=>?_
       clear hx28
       rcases x28 with x28 | x28
       ·conv=>arg 3;whnf
        exact Zh rfl
       ·conv=>arg 3;whnf
        refine Zg rfl ?_ ?_<;>conv=>arg 3;whnf
        ·refine Zj rfl rfl fun x29 hx29=>?_;conv=>arg 3;whnf
         refine Zf (Zl rfl hx29) ?_;conv=>arg 3;whnf
         refine Zj rfl rfl fun x30 hx30=>?_;conv=>arg 3;whnf
         refine Zf (Zl rfl hx30) ?_;conv=>arg 3;whnf
         refine Zr _ Z1 rfl fun x31 hx31=>?_;conv=>arg 3;whnf
         refine Zg rfl ?_ ?_<;>conv=>arg 3;whnf
         ·refine Zc _ Zy fun x32 hx32=>?_
          clear hx32
          rcases x32 with x32 | x32
          ·conv=>arg 3;whnf
           refine Zbx rfl ?_;conv=>arg 3;whnf
           refine ZO rfl ?_;conv=>arg 3;whnf
           refine Zg rfl ?_ ?_<;>conv=>arg 3;whnf
           ·refine Zg rfl ?_ ?_<;>conv=>arg 3;whnf
            ·refine Zc (Zb s0.1 x32.1 s0.2.2.1 x32.2) (hrc s0.1 x32.1 s0.2.2.1 x32.2) fun x33 hx33=>?_;conv=>arg 3;whnf
             exact Zd (ih _)
            ·refine Zc (Zb s0.1 x32.1 s0.2.2.1 x32.2) (hrc s0.1 x32.1 s0.2.2.1 x32.2) fun x34 hx34=>?_;conv=>arg 3;whnf
             exact Zd (ih _)
           ·refine Zg rfl ?_ ?_<;>conv=>arg 3;whnf
            ·refine Zc (Zb (w64 (x32.1+1)) s0.2.1 s0.2.2.1 x32.2) (hrc (w64 (x32.1+1)) s0.2.1 s0.2.2.1 x32.2) fun x35 hx35=>?_;conv=>arg 3;whnf
             exact Zd (ih _)
            ·refine Zc (Zb (w64 (x32.1+1)) s0.2.1 s0.2.2.1 x32.2) (hrc (w64 (x32.1+1)) s0.2.1 s0.2.2.1 x32.2) fun x36 hx36=>?_;conv=>arg 3;whnf
             exact Zd (ih _)
          ·conv=>arg 3;whnf
           refine ZO rfl ?_;conv=>arg 3;whnf
           refine ZO rfl ?_;conv=>arg 3;whnf
           refine Zg rfl ?_ ?_<;>conv=>arg 3;whnf
           ·refine Zg rfl ?_ ?_<;>conv=>arg 3;whnf
            ·refine Zc (Zb s0.1 x32.1 s0.2.2.1 x32.2) (hrc s0.1 x32.1 s0.2.2.1 x32.2) fun x37 hx37=>?_;conv=>arg 3;whnf
             exact Zd (ih _)
            ·refine Zc (Zb s0.1 x32.1 s0.2.2.1 x32.2) (hrc s0.1 x32.1 s0.2.2.1 x32.2) fun x38 hx38=>?_;conv=>arg 3;whnf
             exact Zd (ih _)
           ·refine Zg rfl ?_ ?_<;>conv=>arg 3;whnf
            ·refine Zc (Zb (w64 (x32.1+1)) s0.2.1 s0.2.2.1 x32.2) (hrc (w64 (x32.1+1)) s0.2.1 s0.2.2.1 x32.2) fun x39 hx39=>?_;conv=>arg 3;whnf
             exact Zd (ih _)
            ·refine Zc (Zb (w64 (x32.1+1)) s0.2.1 s0.2.2.1 x32.2) (hrc (w64 (x32.1+1)) s0.2.1 s0.2.2.1 x32.2) fun x40 hx40=>?_;conv=>arg 3;whnf
             exact Zd (ih _)
         ·refine Zc _ Z7 fun x41 hx41=>?_;conv=>arg 3;whnf
          exact Zd (ih _)
        ·refine Zc _ Zy fun x42 hx42=>?_
         clear hx42
         rcases x42 with x42 | x42
         ·conv=>arg 3;whnf
          refine Zbx rfl ?_;conv=>arg 3;whnf
          refine ZO rfl ?_;conv=>arg 3;whnf
          refine Zg rfl ?_ ?_<;>conv=>arg 3;whnf
          ·refine Zg rfl ?_ ?_<;>conv=>arg 3;whnf
           ·refine Zc (Zb s0.1 x42.1 s0.2.2.1 x42.2) (hrc s0.1 x42.1 s0.2.2.1 x42.2) fun x43 hx43=>?_;conv=>arg 3;whnf
            exact Zd (ih _)
           ·refine Zc (Zb s0.1 x42.1 s0.2.2.1 x42.2) (hrc s0.1 x42.1 s0.2.2.1 x42.2) fun x44 hx44=>?_;conv=>arg 3;whnf
            exact Zd (ih _)
          ·refine Zg rfl ?_ ?_<;>conv=>arg 3;whnf
           ·refine Zc (Zb (w64 (x42.1+1)) s0.2.1 s0.2.2.1 x42.2) (hrc (w64 (x42.1+1)) s0.2.1 s0.2.2.1 x42.2) fun x45 hx45=>?_;conv=>arg 3;whnf
            exact Zd (ih _)
           ·refine Zc (Zb (w64 (x42.1+1)) s0.2.1 s0.2.2.1 x42.2) (hrc (w64 (x42.1+1)) s0.2.1 s0.2.2.1 x42.2) fun x46 hx46=>?_;conv=>arg 3;whnf
            exact Zd (ih _)
         ·conv=>arg 3;whnf
          refine ZO rfl ?_;conv=>arg 3;whnf
          refine ZO rfl ?_;conv=>arg 3;whnf
          refine Zg rfl ?_ ?_<;>conv=>arg 3;whnf
          ·refine Zg rfl ?_ ?_<;>conv=>arg 3;whnf
           ·refine Zc (Zb s0.1 x42.1 s0.2.2.1 x42.2) (hrc s0.1 x42.1 s0.2.2.1 x42.2) fun x47 hx47=>?_;conv=>arg 3;whnf
            exact Zd (ih _)
           ·refine Zc (Zb s0.1 x42.1 s0.2.2.1 x42.2) (hrc s0.1 x42.1 s0.2.2.1 x42.2) fun x48 hx48=>?_;conv=>arg 3;whnf
            exact Zd (ih _)
          ·refine Zg rfl ?_ ?_<;>conv=>arg 3;whnf
           ·refine Zc (Zb (w64 (x42.1+1)) s0.2.1 s0.2.2.1 x42.2) (hrc (w64 (x42.1+1)) s0.2.1 s0.2.2.1 x42.2) fun x49 hx49=>?_;conv=>arg 3;whnf
            exact Zd (ih _)
           ·refine Zc (Zb (w64 (x42.1+1)) s0.2.1 s0.2.2.1 x42.2) (hrc (w64 (x42.1+1)) s0.2.1 s0.2.2.1 x42.2) fun x50 hx50=>?_;conv=>arg 3;whnf
            exact Zd (ih _)
      ·refine Zg rfl ?_ ?_<;>conv=>arg 3;whnf
       ·refine Zj rfl rfl fun x51 hx51=>?_;conv=>arg 3;whnf
        refine Zf (Zl rfl hx51) ?_;conv=>arg 3;whnf
        refine Zj rfl rfl fun x52 hx52=>?_;conv=>arg 3;whnf
        refine Zf (Zl rfl hx52) ?_;conv=>arg 3;whnf
        refine Zr _ Z1 rfl fun x53 hx53=>?_;conv=>arg 3;whnf
        refine Zg rfl ?_ ?_<;>conv=>arg 3;whnf
        ·refine Zc _ Zy fun x54 hx54=>?_
         clear hx54
         rcases x54 with x54 | x54
         ·conv=>arg 3;whnf
          refine Zbx rfl ?_;conv=>arg 3;whnf
          refine ZO rfl ?_;conv=>arg 3;whnf
          refine Zg rfl ?_ ?_<;>conv=>arg 3;whnf
          ·refine Zg rfl ?_ ?_<;>conv=>arg 3;whnf
           ·refine Zc (Zb s0.1 x54.1 s0.2.2.1 x54.2) (hrc s0.1 x54.1 s0.2.2.1 x54.2) fun x55 hx55=>?_;conv=>arg 3;whnf
            exact Zd (ih _)
           ·refine Zc (Zb s0.1 x54.1 s0.2.2.1 x54.2) (hrc s0.1 x54.1 s0.2.2.1 x54.2) fun x56 hx56=>?_;conv=>arg 3;whnf
            exact Zd (ih _)
          ·refine Zg rfl ?_ ?_<;>conv=>arg 3;whnf
           ·refine Zc (Zb (w64 (x54.1+1)) s0.2.1 s0.2.2.1 x54.2) (hrc (w64 (x54.1+1)) s0.2.1 s0.2.2.1 x54.2) fun x57 hx57=>?_;conv=>arg 3;whnf
            exact Zd (ih _)
           ·refine Zc (Zb (w64 (x54.1+1)) s0.2.1 s0.2.2.1 x54.2) (hrc (w64 (x54.1+1)) s0.2.1 s0.2.2.1 x54.2) fun x58 hx58=>?_;conv=>arg 3;whnf
            exact Zd (ih _)
         ·conv=>arg 3;whnf
          refine ZO rfl ?_;conv=>arg 3;whnf
          refine ZO rfl ?_;conv=>arg 3;whnf
          refine Zg rfl ?_ ?_<;>conv=>arg 3;whnf
          ·refine Zg rfl ?_ ?_<;>conv=>arg 3;whnf
           ·refine Zc (Zb s0.1 x54.1 s0.2.2.1 x54.2) (hrc s0.1 x54.1 s0.2.2.1 x54.2) fun x59 hx59=>?_;conv=>arg 3;whnf
            exact Zd (ih _)
           ·refine Zc (Zb s0.1 x54.1 s0.2.2.1 x54.2) (hrc s0.1 x54.1 s0.2.2.1 x54.2) fun x60 hx60=>?_;conv=>arg 3;whnf
            exact Zd (ih _)
          ·refine Zg rfl ?_ ?_<;>conv=>arg 3;whnf
           ·refine Zc (Zb (w64 (x54.1+1)) s0.2.1 s0.2.2.1 x54.2) (hrc (w64 (x54.1+1)) s0.2.1 s0.2.2.1 x54.2) fun x61 hx61=>?_;conv=>arg 3;whnf
            exact Zd (ih _)
           ·refine Zc (Zb (w64 (x54.1+1)) s0.2.1 s0.2.2.1 x54.2) (hrc (w64 (x54.1+1)) s0.2.1 s0.2.2.1 x54.2) fun x62 hx62=>?_;conv=>arg 3;whnf
            exact Zd (ih _)
        ·refine Zc _ Z7 fun x63 hx63=>?_;conv=>arg 3;whnf
         exact Zd (ih _)
       ·refine Zc _ Zy fun x64 hx64=>?_
        clear hx64
        rcases x64 with x64 | x64
        ·conv=>arg 3;whnf
         refine Zbx rfl ?_;conv=>arg 3;whnf
         refine ZO rfl ?_;conv=>arg 3;whnf
         refine Zg rfl ?_ ?_<;>conv=>arg 3;whnf
         ·refine Zg rfl ?_ ?_<;>conv=>arg 3;whnf
          ·refine Zc (Zb s0.1 x64.1 s0.2.2.1 x64.2) (hrc s0.1 x64.1 s0.2.2.1 x64.2) fun x65 hx65=>?_;conv=>arg 3;whnf
           exact Zd (ih _)
          ·refine Zc (Zb s0.1 x64.1 s0.2.2.1 x64.2) (hrc s0.1 x64.1 s0.2.2.1 x64.2) fun x66 hx66=>?_;conv=>arg 3;whnf
           exact Zd (ih _)
         ·refine Zg rfl ?_ ?_<;>conv=>arg 3;whnf
          ·refine Zc (Zb (w64 (x64.1+1)) s0.2.1 s0.2.2.1 x64.2) (hrc (w64 (x64.1+1)) s0.2.1 s0.2.2.1 x64.2) fun x67 hx67=>?_;conv=>arg 3;whnf
           exact Zd (ih _)
          ·refine Zc (Zb (w64 (x64.1+1)) s0.2.1 s0.2.2.1 x64.2) (hrc (w64 (x64.1+1)) s0.2.1 s0.2.2.1 x64.2) fun x68 hx68=>?_;conv=>arg 3;whnf
           exact Zd (ih _)
        ·conv=>arg 3;whnf
         refine ZO rfl ?_;conv=>arg 3;whnf
         refine ZO rfl ?_;conv=>arg 3;whnf
         refine Zg rfl ?_ ?_<;>conv=>arg 3;whnf
         ·refine Zg rfl ?_ ?_<;>conv=>arg 3;whnf
          ·refine Zc (Zb s0.1 x64.1 s0.2.2.1 x64.2) (hrc s0.1 x64.1 s0.2.2.1 x64.2) fun x69 hx69=>?_;conv=>arg 3;whnf
           exact Zd (ih _)
          ·refine Zc (Zb s0.1 x64.1 s0.2.2.1 x64.2) (hrc s0.1 x64.1 s0.2.2.1 x64.2) fun x70 hx70=>?_;conv=>arg 3;whnf
           exact Zd (ih _)
         ·refine Zg rfl ?_ ?_<;>conv=>arg 3;whnf
          ·refine Zc (Zb (w64 (x64.1+1)) s0.2.1 s0.2.2.1 x64.2) (hrc (w64 (x64.1+1)) s0.2.1 s0.2.2.1 x64.2) fun x71 hx71=>?_;conv=>arg 3;whnf
           exact Zd (ih _)
          ·refine Zc (Zb (w64 (x64.1+1)) s0.2.1 s0.2.2.1 x64.2) (hrc (w64 (x64.1+1)) s0.2.1 s0.2.2.1 x64.2) fun x72 hx72=>?_;conv=>arg 3;whnf
           exact Zd (ih _)
theorem ZhR (rc:Int→Int→Int→(List Int)→Option (List Int)) (hrc:∀(b:Int) (c:Int) (d:Int) (m0_0:(List Int)) (r:(List Int)),rc b c d m0_0=some r→evW ctx 140 [(.sl 0 1),(.d (Ze b)),(.d (Ze c)),(.d (Ze d))] [(.arr 1 (List.map Ze m0_0))]=some ((Zb b c d m0_0) r)) (b:Int) (c:Int) (d:Int) (m0_0:(List Int)):∀r,(Zb7 rc b c d m0_0)=some r→evW ctx 140 [(.sl 0 1),(.d (Ze b)),(.d (Ze c)),(.d (Ze d))] [(.arr 1 (List.map Ze m0_0))]=some ((Zb b c d m0_0) r):=by
 show Z6 _ (fun r rhs=>rhs=some ((Zb b c d m0_0) r)) _
 unfold Zb7
 rw[Zej ctx 140 ZxS _ _ rfl rfl]
 conv=>arg 3;whnf
 refine Zc _ (ZhJ hrc _) fun r219 hr219=>?_;conv=>arg 3;whnf
 exact Zh rfl
theorem Zft:∀(n:Nat) (b:Int) (c:Int) (d:Int) (m0_0:(List Int)) (r:(List Int)),Zbf n b c d m0_0=some r→evW ctx 140 [(.sl 0 1),(.d (Ze b)),(.d (Ze c)),(.d (Ze d))] [(.arr 1 (List.map Ze m0_0))]=some ((Zb b c d m0_0) r)
  | 0,b,c,d,m0_0,r,h=>by cases h
  | n+1,b,c,d,m0_0,r,h=>ZhR (Zbf n) (Zft n) b c d m0_0 r h
theorem Zif {b:Int}{c:Int}{d:Int}{m0_0:(List Int)}:∀r,ZeI b c d m0_0=some r→evW ctx 140 [(.sl 0 1),(.d (Ze b)),(.d (Ze c)),(.d (Ze d))] [(.arr 1 (List.map Ze m0_0))]=some ((Zb b c d m0_0) r):=fun r h=>by
  obtain⟨n,hn⟩:=Zu6 h
  exact Zft n b c d m0_0 r hn
def Zhb (m0_0:(List Int)):(List Int)→V×Zp
  | r=>((.d (D.tup [])),[(.arr 1 (List.map Ze r))])
theorem Zja {m0_0:(List Int)}:∀r,(Zcz m0_0)=some r→evW ctx 127 [(.sl 0 1)] [(.arr 1 (List.map Ze m0_0))]=some ((Zhb m0_0) r):=by
 show Z6 _ (fun r rhs=>rhs=some ((Zhb m0_0) r)) _
 unfold Zcz
 rw[Zej ctx 127 ZxO _ _ rfl rfl]
 conv=>arg 3;whnf
 refine Zq (Zal _ _) ?_;conv=>arg 3;whnf
 refine Zr _ ZhC rfl fun x0 hx0=>?_;conv=>arg 3;whnf
 refine Zc _ Zif fun x1 hx1=>?_;conv=>arg 3;whnf
 exact Zh rfl
def Zhr (r:(List Int)):D:=(D.list true (List.map Ze r))
def Zgz (t1:Bool) (a:ZbR) (b0:Int):(List Int)→Ex×List V×Zp
  | r=>(.exit 0,[(.sl 0 1)],[(.arr 1 (List.map Ze r))])
theorem ZiC {t1:Bool}{a:ZbR}{b0:Int}:∀(s0:Int×(List Int)) (r:(List Int)),lp (Zg0 a (fun z0=>ZfD z0 b0)) s0=some r→lpW ctx 0 [1,5,11,12,13] [5] ZuI [(.d (D.fn 104 [(D.rptr [(Ze b0)])])),(.sl 0 1),(.d (D.list t1 (List.map ZI a.edges))),(.d (Ze (a.edges.length:Int))),(.d (Ze s0.1))] [(.arr 1 (List.map Ze s0.2))]=some ((Zgz t1 a b0) r):=by
 refine Zbc (Zgz t1 a b0) ?_
 intro s0 rcl ih
 show Z6 _ _ (lpW _ _ _ _ _ _ _)
 unfold Zg0
 rw[Zbd]
 conv=>arg 3;whnf
 refine Zg rfl ?_ ?_<;>conv=>arg 3;whnf
 ·refine Zj rfl rfl fun x1 hx1=>?_;conv=>arg 3;whnf
  refine Zr _ ZnV rfl fun x2 hx2=>?_;conv=>arg 3;whnf
  refine Zg rfl ?_ ?_<;>conv=>arg 3;whnf
  ·refine Zbx rfl ?_;conv=>arg 3;whnf
   refine Zg (ZiW Ze s0.2 1) ?_ ?_
   ·conv=>arg 3;whnf
    refine Zq (ZiU Ze s0.2 [x2.1]) ?_;conv=>arg 3;whnf
    exact Zd (ih _)
   ·exact ZbA
  ·exact Zd (ih _)
 ·exact Zh rfl
theorem Zjv {t0:Bool}{t1:Bool}{a:ZbR}{b0:Int}:∀r,(ZlP a (fun z0=>ZfD z0 b0))=some r→evD ctx 103 [(.d (D.agg [(D.list t0 (List.map Ze a.work)),(D.list t1 (List.map ZI a.edges))])),(.d (D.fn 104 [(D.rptr [(Ze b0)])]))]=some (Zhr r):=by
 show Z6 _ (fun r rhs=>rhs=some (Zhr r)) _
 unfold ZlP
 rw[ZcG ctx 103 Zxm _ rfl rfl]
 conv=>arg 3;whnf
 refine Zq (Zal _ _) ?_;conv=>arg 3;whnf
 refine Zc _ (ZiC _) fun r3 hr3=>?_;conv=>arg 3;whnf
 refine Zc _ Zja fun x4 hx4=>?_;conv=>arg 3;whnf
 exact Zh rfl
def Zmi (r:(List Int)):D:=(D.list true (List.map Ze r))
theorem ZoY {t0:Bool}{t1:Bool}{a:ZbR}{b:Int}:∀r,(Zir a b)=some r→evD ctx 59 [(.d (D.agg [(D.list t0 (List.map Ze a.work)),(D.list t1 (List.map ZI a.edges))])),(.d (Ze b))]=some (Zmi r):=by
 show Z6 _ (fun r rhs=>rhs=some (Zmi r)) _
 unfold Zir
 rw[ZcG ctx 59 ZAc _ rfl rfl]
 conv=>arg 3;whnf
 refine Zr _ Zjv rfl fun x0 hx0=>?_;conv=>arg 3;whnf
 exact Zh rfl
def ZlB (r:Bool):D:=(D.bool r)
def ZjE (t0:Bool) (t1:Bool) (a:ZbR) (c:Int) (x0:(List Int)) (s1:Int×(List Int)) (x2:Int) (x3:(List Int)):(Unit⊕(List Int))→Ex×List V×Zp
  | (.inl r)=>(.ret,[(.d (Ze c)),(.ptr 0 0),(.d (D.bool true)),(.sl 1 1),(.d (D.list true (List.map Ze x0))),(.d (Ze (x0.length:Int))),(.d (Ze s1.1))],[(.cells [(.d (D.list t0 (List.map Ze a.work))),(.d (D.list t1 (List.map ZI a.edges)))]),(.arr 1 (List.map Ze s1.2))])
  | (.inr r)=>(.exit 2,[(.d (Ze c)),(.ptr 0 0),.bad,(.sl 1 1),(.d (D.list true (List.map Ze x0))),(.d (Ze (x0.length:Int))),(.d (Ze s1.1))],[(.cells [(.d (D.list t0 (List.map Ze a.work))),(.d (D.list t1 (List.map ZI a.edges)))]),(.arr 1 (List.map Ze r))])
theorem ZmG {t0:Bool}{t1:Bool}{a:ZbR}{c:Int}{x0:(List Int)}{s1:Int×(List Int)}{x2:Int}{x3:(List Int)}:∀(s4:Int) (r:(Unit⊕(List Int))),lp (Zfq c s1 x2 x3) s4=some r→lpW ctx 0 [2,3,7,9,15,16,17,23,24,25] [2,3,6,7,15,16,17] ZxK [(.d (Ze c)),(.ptr 0 0),(.sl 1 1),(.d (Ze x2)),(.d (D.list true (List.map Ze x0))),(.d (Ze (x0.length:Int))),(.d (Ze s1.1)),(.d (D.list true (List.map Ze x3))),(.d (Ze (x3.length:Int))),(.d (Ze s4))] [(.cells [(.d (D.list t0 (List.map Ze a.work))),(.d (D.list t1 (List.map ZI a.edges)))]),(.arr 1 (List.map Ze s1.2))]=some ((ZjE t0 t1 a c x0 s1 x2 x3) r):=by
 refine Zbc (ZjE t0 t1 a c x0 s1 x2 x3) ?_
 intro s4 rcl ih
 show Z6 _ _ (lpW _ _ _ _ _ _ _)
 unfold Zfq
 rw[Zbd]
 conv=>arg 3;whnf
 refine Zg rfl ?_ ?_<;>conv=>arg 3;whnf
 ·refine Zj rfl rfl fun x5 hx5=>?_;conv=>arg 3;whnf
  refine Zr _ ZfW rfl fun x6 hx6=>?_;conv=>arg 3;whnf
  refine Zg rfl ?_ ?_<;>conv=>arg 3;whnf
  ·refine Zg rfl ?_ ?_<;>conv=>arg 3;whnf
   ·exact Zh rfl
   ·refine Zbx rfl ?_;conv=>arg 3;whnf
    refine Zg (ZiW Ze s1.2 1) ?_ ?_
    ·conv=>arg 3;whnf
     refine Zq (ZiU Ze s1.2 [x2]) ?_;conv=>arg 3;whnf
     exact Zh rfl
    ·exact ZbA
  ·exact Zd (ih _)
 ·exact Zh rfl
def ZjJ (t0:Bool) (t1:Bool) (a:ZbR) (c:Int) (x0:(List Int)):(Unit⊕Unit)→Ex×List V×Zp
  | (.inl r)=>(.ret,[(.d (D.bool true))],[])
  | (.inr r)=>(.exit 0,[.bad],[])
theorem ZmC {t0:Bool}{t1:Bool}{a:ZbR}{c:Int}{x0:(List Int)}:∀(s1:Int×(List Int)) (r:(Unit⊕Unit)),lp (Zew a c x0) s1=some r→lpW ctx 0 [2,3,7,15,16,17] [6] Zyg [(.d (Ze c)),(.ptr 0 0),(.sl 1 1),(.d (D.list true (List.map Ze x0))),(.d (Ze (x0.length:Int))),(.d (Ze s1.1))] [(.cells [(.d (D.list t0 (List.map Ze a.work))),(.d (D.list t1 (List.map ZI a.edges)))]),(.arr 1 (List.map Ze s1.2))]=some ((ZjJ t0 t1 a c x0) r):=by
 refine Zbc (ZjJ t0 t1 a c x0) ?_
 intro s1 rcl ih
 show Z6 _ _ (lpW _ _ _ _ _ _ _)
 unfold Zew
 rw[Zbd]
 conv=>arg 3;whnf
 refine Zg rfl ?_ ?_<;>conv=>arg 3;whnf
 ·refine Zj rfl rfl fun x2 hx2=>?_;conv=>arg 3;whnf
  refine Zr _ ZoY rfl fun x3 hx3=>?_;conv=>arg 3;whnf
  refine Zq (Zal _ _) ?_;conv=>arg 3;whnf
  refine Zc _ (ZmG _) fun r7 hr7=>?_
  clear hr7
  rcases r7 with r7 | r7
  ·conv=>arg 3;whnf
   exact Zh rfl
  ·conv=>arg 3;whnf
   exact Zd (ih _)
 ·exact Zh rfl
theorem Zk8 {t0:Bool}{t1:Bool}{a:ZbR}{b:Int}{c:Int}:∀r,(ZgZ a b c)=some r→evD ctx 27 [(.d (D.agg [(D.list t0 (List.map Ze a.work)),(D.list t1 (List.map ZI a.edges))])),(.d (Ze b)),(.d (Ze c))]=some (ZlB r):=by
 show Z6 _ (fun r rhs=>rhs=some (ZlB r)) _
 unfold ZgZ
 rw[ZcG ctx 27 Zz7 _ rfl rfl]
 conv=>arg 3;whnf
 refine Zr _ ZoV rfl fun x0 hx0=>?_;conv=>arg 3;whnf
 refine Zq (Zal _ _) ?_;conv=>arg 3;whnf
 refine Zc _ (ZmC _) fun r8 hr8=>?_
 clear hr8
 rcases r8 with r8 | r8
 ·conv=>arg 3;whnf
  exact Zh rfl
 ·conv=>arg 3;whnf
  exact Zh rfl
def Zi6 (r:Bool):D:=(D.bool r)
theorem Zl9 {t0:Bool}{t1:Bool}{t2:Bool}{t3:Bool}{a:Zn}{b:Int}{c:Int}:∀r,(ZgY a b c)=some r→evD ctx 8 [(.d (D.agg (dA t0 t1 t2 t3 a))),(.d (Ze b)),(.d (Ze c))]=some (Zi6 r):=by
 show Z6 _ (fun r rhs=>rhs=some (Zi6 r)) _
 unfold ZgY
 rw[ZcG ctx 8 fn8 _ rfl rfl]
 conv=>arg 3;whnf
 refine Zr _ Zg6 rfl fun x0 hx0=>?_;conv=>arg 3;whnf
 refine Zg rfl ?_ ?_<;>conv=>arg 3;whnf
 ·refine Zr _ ZpR rfl fun x1 hx1=>?_;conv=>arg 3;whnf
  refine Zg rfl ?_ ?_<;>conv=>arg 3;whnf
  ·refine Zq (Zal _ _) ?_;conv=>arg 3;whnf
   refine Zg rfl ?_ ?_<;>conv=>arg 3;whnf
   ·refine Zr _ Zg6 rfl fun x2 hx2=>?_;conv=>arg 3;whnf
    refine Zg rfl ?_ ?_<;>conv=>arg 3;whnf
    ·exact Zh rfl
    ·exact Zh rfl
   ·refine Zc _ Zlj fun x3 hx3=>?_;conv=>arg 3;whnf
    refine Zr _ Zko rfl fun x4 hx4=>?_;conv=>arg 3;whnf
    refine Zg rfl ?_ ?_<;>conv=>arg 3;whnf
    ·exact Zh rfl
    ·refine Zc _ Zlj fun x5 hx5=>?_;conv=>arg 3;whnf
     refine Zbx rfl ?_;conv=>arg 3;whnf
     refine Zg (ZiW ZI a.edges 1) ?_ ?_
     ·conv=>arg 3;whnf
      refine Zq (ZiU ZI a.edges [(Zo.mk b c)]) ?_;conv=>arg 3;whnf
      refine Zr _ Zko rfl fun x6 hx6=>?_;conv=>arg 3;whnf
      refine Zg rfl ?_ ?_<;>conv=>arg 3;whnf
      ·refine Zg rfl ?_ ?_<;>conv=>arg 3;whnf
       ·exact Zh rfl
       ·refine Zg rfl ?_ ?_<;>conv=>arg 3;whnf
        ·exact Zh rfl
        ·refine Zq (Zal _ _) ?_;conv=>arg 3;whnf
         refine Zg rfl ?_ ?_<;>conv=>arg 3;whnf
         ·exact Zh rfl
         ·refine Zq (Zal _ _) ?_;conv=>arg 3;whnf
          refine Zg rfl ?_ ?_<;>conv=>arg 3;whnf
          ·exact Zh rfl
          ·refine Zg rfl ?_ ?_<;>conv=>arg 3;whnf
           ·exact Zh rfl
           ·refine Zr _ Zn2 rfl fun x7 hx7=>?_;conv=>arg 3;whnf
            refine Zg rfl ?_ ?_<;>conv=>arg 3;whnf
            ·exact Zh rfl
            ·exact Zh rfl
      ·refine Zg rfl ?_ ?_<;>conv=>arg 3;whnf
       ·refine Zr _ Zk7 rfl fun x8 hx8=>?_;conv=>arg 3;whnf
        refine Zr _ Zk3 rfl fun x9 hx9=>?_;conv=>arg 3;whnf
        refine Zr _ Zk8 rfl fun x10 hx10=>?_;conv=>arg 3;whnf
        refine Zg rfl ?_ ?_<;>conv=>arg 3;whnf
        ·refine Zbx rfl ?_;conv=>arg 3;whnf
         refine Zg rfl ?_ ?_<;>conv=>arg 3;whnf
         ·exact Zh rfl
         ·refine Zg rfl ?_ ?_<;>conv=>arg 3;whnf
          ·exact Zh rfl
          ·exact Zh rfl
        ·refine ZO rfl ?_;conv=>arg 3;whnf
         exact Zh rfl
       ·refine Zr _ Zk7 rfl fun x11 hx11=>?_;conv=>arg 3;whnf
        refine Zr _ Zk3 rfl fun x12 hx12=>?_;conv=>arg 3;whnf
        refine Zr _ Zk8 rfl fun x13 hx13=>?_;conv=>arg 3;whnf
        refine Zg rfl ?_ ?_<;>conv=>arg 3;whnf
        ·refine ZO rfl ?_;conv=>arg 3;whnf
         exact Zh rfl
        ·refine Zbx rfl ?_;conv=>arg 3;whnf
         refine Zg rfl ?_ ?_<;>conv=>arg 3;whnf
         ·exact Zh rfl
         ·refine Zg rfl ?_ ?_<;>conv=>arg 3;whnf
          ·exact Zh rfl
          ·exact Zh rfl
     ·exact ZbA
  ·refine Zr _ Zg6 rfl fun x14 hx14=>?_;conv=>arg 3;whnf
   refine Zg rfl ?_ ?_<;>conv=>arg 3;whnf
   ·exact Zh rfl
   ·exact Zh rfl
 ·refine Zr _ Zg6 rfl fun x15 hx15=>?_;conv=>arg 3;whnf
  refine Zg rfl ?_ ?_<;>conv=>arg 3;whnf
  ·exact Zh rfl
  ·exact Zh rfl
end Go.Proofs.YtljgncbdagmeeaaDoor
namespace Go.Proofs.YtljgncbdagmeeaaDoor
open Go Go.Proofs.YtljgncbdagmeeaaDoorE
abbrev Zqe:List Lf×Bool:=([.int .i64],false)
abbrev Zss:List Lf×Bool:=([.int .i64,.int .i64,.sl true [.int .i64,.int .i64,.int .i64],.sl true [.int .i64,.int .i64],.sl true [.int .i64,.int .i64,.int .i64],.sl true [.sl false [.int .i64],.sl false [.int .i64]]],true)
end Go.Proofs.YtljgncbdagmeeaaDoor
namespace Go.Proofs.YtljgncbdagmeeaaDoor
open Go Go.Proofs.YtljgncbdagmeeaaDoorE
set_option linter.unusedVariables false
set_option linter.unusedSimpArgs false
theorem ZxB {g g':ZbR}{s t:Int} (h:∀e,e∈g'.edges↔e∈g.edges∨e=⟨s,t⟩) {u v:Int} (w:Way g' u v):Way g u v∨(ZsQ g u s∧ZsQ g t v):=by
 induction w with
 | one he=>
  rcases(h _).1 he with h1 | rfl
  ·exact .inl (Way.one h1)
  ·exact .inr ⟨.inl rfl,.inl rfl⟩
 | more _ he ih=>
  rcases(h _).1 he with h1 | rfl
  ·rcases ih with h2 | ⟨h2,h3⟩
   ·exact .inl (Way.more h2 h1)
   ·exact .inr ⟨h2,.inr (h3.way (Way.one h1))⟩
  ·rcases ih with h2 | ⟨h2,_⟩
   ·exact .inr ⟨.inr h2,.inl rfl⟩
   ·exact .inr ⟨h2,.inl rfl⟩
theorem Zyd {g g':ZbR}{s t:Int} (h:∀e,e∈g'.edges↔e∈g.edges∨e=⟨s,t⟩) {u v:Int} (w:Way g u v):Way g' u v:=by
 induction w with
 | one he=>exact Way.one ((h _).2 (.inl he))
 | more _ he ih=>exact Way.more ih ((h _).2 (.inl he))
theorem ZsQ.trans {g:ZbR}{a b c:Int} (h1:ZsQ g a b) (h2:ZsQ g b c):ZsQ g a c:=by
 rcases h2 with rfl | h2
 ·exact h1
 ·exact .inr (h1.way h2)
theorem Zv3 {g g':ZbR}{s t:Int} (h:∀e,e∈g'.edges↔e∈g.edges∨e=⟨s,t⟩) (hA:Zmx g) (hne:t≠s):Zmx g'↔¬Way g t s:=by
 constructor
 ·intro hA' w
  exact hA' s ((Way.one (e:=⟨s,t⟩) ((h _).2 (.inr rfl)):Way g' s t).trans (Zyd h w))
 ·intro hn u w
  rcases ZxB h w with h1 | ⟨h1,h2⟩
  ·exact hA u h1
  ·rcases h2.trans h1 with h3 | h3
   ·exact hne h3
   ·exact hn h3
theorem ZuK {d x:Zn} (hf:x.futures=d.futures) (u:Int):∀k i,tl x u i k=tl d u i k
 | 0,i=>rfl
 | k+1,i=>by
  unfold tl Znl
  rw[hf,ZuK hf u k (i+1)]
theorem Zpt {d x:Zn} (hf:x.futures=d.futures):tch x=tch d:=funext fun n=>ZuK hf _ _ _
theorem ZjB {d x:Zn} (hf:x.futures=d.futures):ZU x=ZU d:=funext fun n=>by
 induction n with
 | zero=>rfl
 | succ n ih=>
  show ZU x n+(nt x n+1)=ZU d n+(nt d n+1)
  rw[ih]
  unfold nt
  rw[Zpt hf]
theorem Zlx {d x:Zn} (hf:x.futures=d.futures):Zgb x=Zgb d:=funext fun z=>by unfold Zgb;rw[ZjB hf]
theorem Zmz {d x:Zn} (hf:x.futures=d.futures):Zg7 x=Zg7 d:=funext fun z=>by unfold Zg7;rw[ZjB hf]
theorem Zvx {d x:Zn} (hf:x.futures=d.futures):ZrK x=ZrK d:=funext fun f=>by unfold ZrK;rw[Zlx hf,Zpt hf,hf]
theorem ZsL {d x:Zn} (hf:x.futures=d.futures):ZfX x=ZfX d:=funext fun n=>funext fun k=>by unfold ZfX;rw[ZjB hf]
theorem ZsK {d x:Zn} (hf:x.futures=d.futures) (k:Nat):Ze3 x k=Ze3 d k:=by unfold Ze3 nt;rw[ZsL hf,Zpt hf]
theorem ZsF {d x:Zn} (hf:x.futures=d.futures):ZiD x=ZiD d:=by unfold ZiD;rw[Zmz hf,Zvx hf,hf]
theorem Ztj {d x:Zn} (hf:x.futures=d.futures) (hp:x.parts=d.parts) (hb:x.barriers=d.barriers) (k:Nat):ZeF x k=ZeF d k:=by unfold ZeF ZoA ZhH;rw[Zmz hf,Zlx hf,ZjB hf,hp,hb]
def Zjm (d:Zn) (a b:Int):Zn:=Zn.mk d.period d.deadline d.parts (d.edges++[⟨a,b⟩]) d.futures d.barriers
theorem Ztk (d:Zn) (a b:Int):∀e,e∈(Zcv (Zjm d a b)).dag.edges↔e∈(Zcv d).dag.edges∨e=⟨Zg7 d a,Zgb d b⟩:=fun e=>by
 have hf:(Zjm d a b).futures=d.futures:=rfl
 show e∈Zhw (Zjm d a b)↔e∈Zhw d∨_
 have hE:Zie (Zjm d a b)=Zie d++[⟨Zg7 d a,Zgb d b⟩]:=by
  unfold Zie
  rw[Zmz hf,Zlx hf]
  show List.map _ (d.edges++[⟨a,b⟩])=_
  rw[List.map_append]
  rfl
 unfold Zhw ZjY
 rw[ZsK hf,ZsF hf,Ztj hf rfl rfl,hE]
 show e∈Ze3 d d.parts.length++(Zie d++[_])++ZiD d++ZeF d d.barriers.length↔_
 simp only[List.mem_append,List.mem_singleton]
 constructor
 ·rintro (((h | h | h) | h) | h)
  ·exact .inl (.inl (.inl (.inl h)))
  ·exact .inl (.inl (.inl (.inr h)))
  ·exact .inr h
  ·exact .inl (.inl (.inr h))
  ·exact .inl (.inr h)
 ·rintro ((((h | h) | h) | h) | h)
  ·exact .inl (.inl (.inl h))
  ·exact .inl (.inl (.inr (.inl h)))
  ·exact .inl (.inr h)
  ·exact .inr h
  ·exact .inl (.inl (.inr (.inr h)))
def ZnW (d:Zn) (a b:Int):Bool:=!(two d.parts.length a b) || d.edges.any (Zj8 ⟨a,b⟩)
theorem Ztx {d:Zn} (hc:Zeb d=0) (he:d.edges.length<48) (a b:Int):Zeb (Zjm d a b)=bif ZnW d a b then 53 else 0:=by
 have hx:Zgw (ZdI (Zjm d a b)) 0 (Zjm d a b).edges=ZnW d a b:=by
  rw[Bool.eq_iff_iff,Zhk]
  constructor
  ·rintro ⟨j,e,h1,h2⟩
   have h1:(d.edges++[⟨a,b⟩])[j]? = some e:=h1
   rw[Nat.zero_add] at h2
   rcases Nat.lt_or_ge j d.edges.length with hj | hj
   ·rw[List.getElem?_append_left hj] at h1
    have hb:ZdI d j e=true:=by
     unfold ZdI at h2 ⊢
     have e1:(Zjm d a b).edges.take j=d.edges.take j:=by show(d.edges++[_]).take j=_;rw[List.take_append_of_le_length (by omega)]
     rw[e1] at h2
     exact h2
    have:=(Zll hc).1
    rw[(Zhk _ _ 0).2 ⟨j,e,h1,by simpa using hb⟩] at this
    cases this
   ·have hj2:j<(d.edges++[(⟨a,b⟩:Zo)]).length:=(List.getElem?_eq_some_iff.1 h1).1
    rw[List.length_append] at hj2
    simp only[List.length_cons,List.length_nil] at hj2
    have hj3:j=d.edges.length:=by omega
    subst hj3
    rw[List.getElem?_append_right (Nat.le_refl _),Nat.sub_self] at h1
    have:e=⟨a,b⟩:=(Option.some.inj h1).symm
    subst this
    unfold ZdI at h2
    have e1:(Zjm d a b).edges.take d.edges.length=d.edges:=by show(d.edges++[_]).take _=_;rw[List.take_append_of_le_length (Nat.le_refl _),List.take_length]
    rw[e1] at h2
    exact h2
  ·intro h
   refine⟨d.edges.length,⟨a,b⟩,?_,?_⟩
   ·show(d.edges++[_])[d.edges.length]? = _
    rw[List.getElem?_append_right (Nat.le_refl _),Nat.sub_self];rfl
   ·rw[Nat.zero_add]
    unfold ZdI
    have e1:(Zjm d a b).edges.take d.edges.length=d.edges:=by show(d.edges++[_]).take _=_;rw[List.take_append_of_le_length (Nat.le_refl _),List.take_length]
    rw[e1]
    exact h
 have hm:ZiB (Zjm d a b)=ZiB d:=by
  unfold ZiB
  have e1:decide ((48:Int)<((Zjm d a b).edges.length:Int))=false:=decide_eq_false (by
   show ¬(48:Int)<(((d.edges++[(⟨a,b⟩:Zo)]).length:Nat):Int)
   rw[List.length_append];simp only[List.length_cons,List.length_nil];omega)
  have e2:decide ((48:Int)<(d.edges.length:Int))=false:=decide_eq_false (by omega)
  rw[e1,e2]
  rfl
 have hfu:Zgw (ZdF (Zjm d a b)) 0 (Zjm d a b).futures=Zgw (ZdF d) 0 d.futures:=rfl
 have ht:ZkZ (Zjm d a b)=ZkZ d:=rfl
 have hp:(Zjm d a b).parts=d.parts:=rfl
 have hb:(Zjm d a b).barriers=d.barriers:=rfl
 have hc2:=hc
 unfold Zeb at hc ⊢
 rw[hm,ht,hx,hfu,hp,hb]
 revert hc
 cases ZiB d<;>cases ZkZ d<;>cases d.parts.any ZgA<;>cases Zgw (ZdI d) 0 d.edges<;>cases Zgw (ZdF d) 0 d.futures<;>cases d.barriers.any (Zeo d.parts.length)<;>cases ZnW d a b<;>simp
theorem ZyS {d:Zn} (he:d.edges.length<48) (a b:Int):Zhi d a b=some (d.edges.any fun e=>(e.src==a)&&(e.dst==b)):=by
 have key:=Zhs d.edges (ZeP d a b) (fun _ e=>(e.src==a)&&(e.dst==b)) (fun _ _=>.inl ()) (.inr ()) (fun i e hi hx=>by
  simp only[ZeP,Zg5 hi,cond_true,Zci hx,Option.bind_some,ZaW hi (show d.edges.length<9223372036854775808 by omega)]
  cases (e.src==a)<;>cases (e.dst==b)<;>rfl) (by simp only[ZeP,ZhX];rfl)
 rw[ZfE,Zj9] at key
 unfold Zhi
 rw[key,Option.bind_some]
 cases d.edges.any (fun e=>(e.src==a)&&(e.dst==b))<;>rfl
theorem Zrw (d:Zn) (a b:Int):ZgY d a b=some true:=by
 have aw:Zgj=some true:=rfl
 unfold ZgY
 simp only[aw,cond_true,ZBd,Option.bind_some]
 cases hf:few d with
 | false=>rfl
 | true=>
  have hz:=Zvu hf
  by_cases he:(48:Int)≤(d.edges.length:Int)
  ·rw[decide_eq_true he];rfl
  have he2:d.edges.length<48:=by omega
  have hzx:Zmc (Zjm d a b):=⟨hz.p,by show(d.edges++[_]).length≤60;rw[List.length_append];simp only[List.length_cons,List.length_nil];omega,hz.f,hz.b,hz.i⟩
  rw[decide_eq_false he]
  simp only[cond_true,cond_false,ZC7 d hz,Option.bind_some,show Zn.mk d.period d.deadline d.parts d.edges d.futures d.barriers=d from rfl,ZuU hz,Zjf (show d.edges.length+1≤1073741824 by omega),show Zn.mk d.period d.deadline d.parts (d.edges++[Zo.mk a b]) d.futures d.barriers=Zjm d a b from rfl,ZuU hzx]
  rcases ZtJ d with⟨h1,h2,h3⟩ | ⟨h1,h2⟩
  ·have g:=Zki h2
   have hcx:=Ztx h2 he2 a b
   rw[h1]
   simp only[bne_self_eq_false,cond_false]
   cases hb:ZnW d a b with
   | true=>
    rw[hb] at hcx
    have hl:(ZnS (Zjm d a b)).2=53:=by unfold ZnS;rw[hcx];rfl
    rw[hl]
    simp only[beq_self_eq_true,cond_true]
    by_cases c1:a<0
    ·rw[decide_eq_true c1];rfl
    by_cases c2:b<0
    ·rw[decide_eq_false c1,decide_eq_true c2];rfl
    by_cases c3:(d.parts.length:Int)≤a
    ·rw[decide_eq_false c1,decide_eq_false c2,decide_eq_true c3];rfl
    by_cases c4:(d.parts.length:Int)≤b
    ·rw[decide_eq_false c1,decide_eq_false c2,decide_eq_false c3,decide_eq_true c4];rfl
    by_cases c5:a=b
    ·rw[decide_eq_false c1,decide_eq_false c2,decide_eq_false c3,decide_eq_false c4,show(a==b)=true by simpa using c5];rfl
    have htw:two d.parts.length a b=true:=by
     unfold two ZdS
     simp only[Bool.and_eq_true,decide_eq_true_eq,bne_iff_ne]
     omega
    unfold ZnW at hb
    rw[htw,Bool.not_true,Bool.false_or] at hb
    have hany:(d.edges.any fun e=>(e.src==a)&&(e.dst==b))=true:=by
     obtain⟨e,he1,he3⟩:=List.any_eq_true.1 hb
     refine List.any_eq_true.2 ⟨e,he1,?_⟩
     unfold Zj8 at he3
     simp only[Bool.and_true,Bool.and_eq_true,beq_iff_eq] at he3 ⊢
     exact⟨he3.1.symm,he3.2.symm⟩
    rw[decide_eq_false c1,decide_eq_false c2,decide_eq_false c3,decide_eq_false c4,beq_false_of_ne c5,ZyS he2,hany]
    rfl
   | false=>
    rw[hb] at hcx
    have hcx:Zeb (Zjm d a b)=0:=hcx
    unfold ZnW at hb
    rw[Bool.or_eq_false_iff,Bool.not_eq_false'] at hb
    obtain⟨ra,rb,rne⟩:=Zlz hb.1
    have ra:inR d a:=ra
    have rb:inR d b:=rb
    have hA:=(Zn5 h3).2
    have hne:Zgb d b≠Zg7 d a:=fun hc=>by
     rw[Zkp,Zjj] at hc
     have:=(Zgl d (Nat.zero_le _) (Nat.le_refl _) (Int.ofNat.inj hc)).1
     have:=ra.1;have:=rb.1
     omega
    have hiff:=Zv3 (Ztk d a b) hA hne
    obtain⟨q1,q2⟩:=Zs0 hcx
    by_cases hw:Way (Zcv d).dag (Zgb d b) (Zg7 d a)
    ·have hl:(ZnS (Zjm d a b)).2=70:=by unfold ZnS;rw[hcx,q2 (fun h=>(hiff.1 h) hw)];rfl
     rw[hl]
     simp only[show((70:Int)==53)=false from rfl,show((70:Int)==70)=true from rfl,show((70:Int)==0)=false from rfl,cond_true,cond_false,ZsZ g rb,Zsn g ra,Option.bind_some,Zsp h3,Zxl hw]
    ·have hl:(ZnS (Zjm d a b)).2=0:=by unfold ZnS;rw[hcx,q1 (hiff.2 hw)];rfl
     rw[hl]
     simp only[show((0:Int)==53)=false from rfl,show((0:Int)==70)=false from rfl,show((0:Int)==0)=true from rfl,cond_true,cond_false,ZsZ g rb,Zsn g ra,Option.bind_some,Zsp h3,ZwI hw]
  ·have hne:((ZnS d).2 != 0)=true:=by rw[bne,beq_false_of_ne h2];rfl
   rw[hne]
   rfl
theorem Zr8 (xs:List D) (h:ZhY Zss.1 xs) (ys:List D) (k:ZhY Zqe.1 ys) (zs:List D) (m:ZhY Zqe.1 zs) :
  ∃H',evW ctx 8 (ZdP [ZpC Zss.2 xs,ZpC Zqe.2 ys,ZpC Zqe.2 zs]) []=some (.d (.bool true),H'):=by
 obtain⟨d,hd,_⟩:=ZyO h
 obtain⟨a,ha,_⟩:=ZxQ k
 obtain⟨b,hb,_⟩:=ZxQ m
 show ∃H',evW ctx 8 [.d (D.agg xs),.d (ZpC false ys),.d (ZpC false zs)] []=_
 rw[hd,ha,hb]
 exact ZyE (Zl9 true (Zrw d a b))
end Go.Proofs.YtljgncbdagmeeaaDoor
namespace Go.Proofs.YtljgncbdagmeeaaDoor.LawLowRound
open Go.ChangeShapes Go.WideShapes Go.ChangeAt Go.RowKit Go.Proofs.YtljgncbdagmeeaaDoorE
set_option linter.unusedVariables false
theorem own:ownKnob Tryd.prog.godebug=none:=by kernel_rfl
theorem ZrJ:laidOutB Tryd.prog=true:=by kernel_rfl
def Zp8 : List (String × DataW Unit) := [("math/bits.deBruijn32tab", Rows.laid_math_bits_deBruijn32tab), ("math/bits.deBruijn64tab", Rows.laid_math_bits_deBruijn64tab)]
theorem Zyi (os:Os) (args:Array Value):laidMetH Tryd.prog Zp8 ((World.doorLaid Tryd.prog 19 os).forCall (fun _ _=>0) ⟨#[],args,[]⟩).memory:=
 laidMetH_of_parts3 (fuel:=8) (laidMet_of_run' 8 (by kernel_rfl) (by kernel_rfl)) (by kernel_rfl) (by kernel_rfl)
theorem ZwR {W:World} (h:laidMetH Tryd.prog Zp8 W):GOK ZC R0 W:=by
 intro g l hg
 unfold ZC at hg
 split at hg
 ·cases hg
  exact ZpJ (t := 170) (N := 32) (e := 5) (k := .u8) h (by kernel_rfl) (n := "math/bits.deBruijn32tab") (by rw [show DataW.agg (ZmM ZzX) = Rows.laid_math_bits_deBruijn32tab by kernel_rfl]; simp [Zp8]) (by kernel_rfl) (by kernel_rfl) (by kernel_rfl) (by kernel_rfl) (by kernel_rfl) (by kernel_rfl) (by decide)
 ·cases hg
  exact ZpJ (t := 171) (N := 64) (e := 5) (k := .u8) h (by kernel_rfl) (n := "math/bits.deBruijn64tab") (by rw [show DataW.agg (ZmM ZzO) = Rows.laid_math_bits_deBruijn64tab by kernel_rfl]; simp [Zp8]) (by kernel_rfl) (by kernel_rfl) (by kernel_rfl) (by kernel_rfl) (by kernel_rfl) (by kernel_rfl) (by decide)
 ·cases hg
theorem ZAD (os:Os) (started:os.Started) (H:Type) (enc:TypeId×Value→H) :
  ReturnsInHanded {} Tryd.checked os 8 .any (fun w args=>(Rows.lowRoundSpec.pre enc Tryd.prog Tryd.f8 [] false w args∧laidMetH Tryd.prog Zp8 w)∧sizedMet enc Tryd.prog Tryd.f8 (OpenSpec.ofChange Rows.lowRoundSpec) false w args) (Rows.lowRoundSpec.post enc Tryd.prog Tryd.f8 false true false false):=by
 refine returnsInHanded_of_change_and (C:=Tryd.checked) (X:=fun w _=>laidMetH Tryd.prog Zp8 w) (fun _ _ _ hh h=>h.of_heap hh) own started (by kernel_rfl) Tryd.func8
  (ChangeSpec.witness_shaped (enc:=enc) (C:=Tryd.checked) (os:=os) (X:=fun w _=>laidMetH Tryd.prog Zp8 w) false (World.doorLaid Tryd.prog 19 os) #[.agg #[.int .i64 0,.int .i64 0,.slice none 0 0,.slice none 0 0,.slice none 0 0,.slice none 0 0],.int .i64 0,.int .i64 0] 8 rfl (World.shaped_of_RefB (by kernel_rfl) (by kernel_rfl)) (by kernel_rfl) (by kernel_rfl) (by kernel_rfl) (Zyi os _)) ?_
 intro W base args ds gs before hval0 hW _ _ hL _
 have hval:∀(j:Nat) t v,Tryd.f8.params[j]? = some t→args[j]? = some v→Value.okWide Tryd.prog W .any base t v:=hval0
 have hW':=hW
 obtain⟨p,q,hA0,hV,rfl,hfz,hnd⟩:=hW
 have hA:DataW.TrodAll enc Tryd.prog W 0 (fun _=>true) true Tryd.f8.params.toList args.toList ds p:=hA0
 rw[Tryd.params8] at hA hval
 obtain⟨v0,vs0,d0,ds0,p0,q0,hargs,rfl,rfl,h0,r0⟩:=trodAll_cons hA
 obtain⟨v1,vs1,d1,ds1,p1,q1,rfl,rfl,rfl,h1,r1⟩:=trodAll_cons r0
 obtain⟨v2,vs2,d2,ds2,p2,q2,rfl,rfl,rfl,h2,r2⟩:=trodAll_cons r1
 obtain⟨rfl,rfl,rfl⟩:=trodAll_nil r2
 obtain rfl:args = #[v0,v1,v2]:=by cases args;simp_all
 obtain⟨rfl,rfl⟩:=trodVars_none hV
 have lt0:∀x∈p0,x.block<W.heap.size:=by obtain⟨m,hm⟩:=h0;exact DataW.trod_lt m _ _ _ hm
 obtain⟨x0,ok0,den0⟩:=ZtD (P:=Tryd.prog) (n:=8) (t:=27) (l:=Zss.1) (ag:=Zss.2) (by kernel_rfl) (hval 0 27 v0 rfl rfl) h0
 have lt1:∀x∈p1,x.block<W.heap.size:=by obtain⟨m,hm⟩:=h1;exact DataW.trod_lt m _ _ _ hm
 obtain⟨x1,ok1,den1⟩:=ZtD (P:=Tryd.prog) (n:=8) (t:=3) (l:=Zqe.1) (ag:=Zqe.2) (by kernel_rfl) (hval 1 3 v1 rfl rfl) h1
 have lt2:∀x∈p2,x.block<W.heap.size:=by obtain⟨m,hm⟩:=h2;exact DataW.trod_lt m _ _ _ hm
 obtain⟨x2,ok2,den2⟩:=ZtD (P:=Tryd.prog) (n:=8) (t:=3) (l:=Zqe.1) (ag:=Zqe.2) (by kernel_rfl) (hval 2 3 v2 rfl rfl) h2
 obtain⟨H1,ev⟩:=Zr8 x0 ok0 x1 ok1 x2 ok2
 have den:ZbI All All All W [ZpC Zss.2 x0,ZpC Zqe.2 x1,ZpC Zqe.2 x2] [v0,v1,v2]:=⟨_,_,rfl,den0,⟨_,_,rfl,den1,⟨_,_,rfl,den2,rfl⟩⟩⟩
 refine(ZvZ ZB9 (ZwR hL) den ev).mono fun e W' ⟨he,bel⟩=>?_
 subst he
 exact⟨_,rfl,_,_,_,[],_,[],hW',trodAll_mk1 (shut_bool Tryd.underlying4 _),(trodAll_cons_mk (Below.trod ZrJ (by kernel_rfl) (of_decide_eq_true (by kernel_rfl)) h0 bel lt0) (trodAll_cons_mk (Below.trod ZrJ (by kernel_rfl) (of_decide_eq_true (by kernel_rfl)) h1 bel lt1) (trodAll_cons_mk (Below.trod ZrJ (by kernel_rfl) (of_decide_eq_true (by kernel_rfl)) h2 bel lt2) trodAll_mk0))),rfl,bel.frame _,fun h=>by cases h⟩
theorem over:Rows.lowRoundRow.holds Tryd.pinned (OpenSpec.ofChange Rows.lowRoundSpec):=
 OpenClaim.holds_of_wide 8 Tryd.f8 rfl rfl rfl rfl rfl rfl rfl ⟨rfl,rfl,rfl,rfl,rfl⟩ rfl rfl rfl rfl rfl (by kernel_rfl) Tryd.func8 (by kernel_rfl)
  (of_decide_eq_true (by kernel_rfl)) (by unfold Func.isWrapper;first | (rw[if_pos (by decide +kernel)];kernel_rfl) | (rw[if_neg (by decide +kernel)];exact⟨rfl,rfl⟩))
  (fun os started H enc _=>ZAD os started H enc)
theorem proved:Rows.LowRoundSaid:=over
theorem carded:Rows.LowRoundCardSaid:=
 Claim7.holds_tied_plain_at .later [] [.data, .data] true (true, "d907b5d9381713682315e2e2b6cdc9b83e8277611de7aab9efce85a6aaa9d615") false
  proved (fun _ h=>by cases h) (by kernel_rfl) (fun _ h=>by cases h) lowRound_row_tie rfl ⟨rfl,rfl⟩ (by kernel_rfl) rfl
  (fun f fn hf hfn=>by
   obtain rfl : f = 8 := Option.some.inj ((show Tryd.prog.funcNamed "trefoil/trefoillaw07.LowRound" = some 8 by kernel_rfl).symm.trans hf) |>.symm
   obtain rfl:fn=Tryd.f8:=(Option.some.inj (Tryd.func8.symm.trans hfn)).symm
   exact⟨by kernel_rfl,fun j t ht=>by
    rw[Tryd.params8] at ht
    have hm:t∈[27,3,3]:=by simpa using Array.mem_of_getElem? ht
    have hall:([27,3,3].all fun u=>!Tryd.prog.wantsStandIn u)=true:=by kernel_rfl
    exact(show Tryd.prog.wantsStandIn t=false by simpa using List.all_eq_true.1 hall t hm)⟩)
  (by kernel_rfl)
end Go.Proofs.YtljgncbdagmeeaaDoor.LawLowRound
namespace Go.Proofs.YtljgncbdagmeeaaDoor
theorem lowRound_holds:Rows.LowRoundCardSaid:=LawLowRound.carded
#print axioms lowRound_holds
end Go.Proofs.YtljgncbdagmeeaaDoor
