/- LowLess: part 6 of 6 of the proof: the row and the card of the law, out of what the evaluator says of it; without conditions. -/
import Derived.Test.YtljgncbdagmeeaaDoorZLowLesse
import Derived.KernelRfl
import Derived.Test.YtljgncbdagmeeaaDoorRows
import Derived.Test.YtljgncbdagmeeaaDoorCards
import Derived.Test.YtljgncbdagmeeaaDoorTie
import Derived.WalkKit
import Derived.ProofKit
import Derived.OpenShut
import Derived.ShutString
import Derived.ChangeOld
import Derived.Below
import Derived.SizedLaws
import Derived.Handed
import Derived.LaidMore
import Derived.Stop.Joined
import Derived.ChangeShapes
import Derived.Carry
import Derived.SevenTiedAt
set_option maxRecDepth 100000
set_option maxHeartbeats 40000000
namespace Go.Proofs.YtljgncbdagmeeaaDoor
open Go Go.Proofs.YtljgncbdagmeeaaDoorE
set_option linter.unusedVariables false
set_option linter.unusedSimpArgs false
def ZhT (b:Int) (c:Int) (m1_0:(List Int)) (m2_0:(List Zo)) (m3_0:(List Zi)) (m4_0:(List (Int×Int))) (m5_0:(List (Int×Int))) (m6_0:(List (Zk×Int))):Unit→V×Zp
  | r=>((.d (D.tup [])),[(.cells [(.sl 1 1),(.sl 7 2),(.sl 3 2),(.mp 4),(.mp 5),(.mp 6)]),(.arr 1 (List.map Ze m1_0)),.dead,(.arr 2 (List.map ZcF m3_0)),(.mp (mpD Ze Ze m4_0)),(.mp (mpD Ze Ze m5_0)),(.mp (mpD Zt Ze m6_0)),(.arr 2 (List.map ZJ (m2_0++[(Zo.mk b c)])))])
theorem Zbc {b:Int}{c:Int}{m1_0:(List Int)}{m2_0:(List Zo)}{m3_0:(List Zi)}{m4_0:(List (Int×Int))}{m5_0:(List (Int×Int))}{m6_0:(List (Zk×Int))}:∀r,(ZX b c m2_0)=some r→evW ctx 43 [(.ptr 0 0),(.d (Ze b)),(.d (Ze c))] [(.cells [(.sl 1 1),(.sl 2 2),(.sl 3 2),(.mp 4),(.mp 5),(.mp 6)]),(.arr 1 (List.map Ze m1_0)),(.arr 2 (List.map ZJ m2_0)),(.arr 2 (List.map ZcF m3_0)),(.mp (mpD Ze Ze m4_0)),(.mp (mpD Ze Ze m5_0)),(.mp (mpD Zt Ze m6_0))]=some ((ZhT b c m1_0 m2_0 m3_0 m4_0 m5_0 m6_0) r):=by
 show Z6 _ (fun r rhs=>rhs=some ((ZhT b c m1_0 m2_0 m3_0 m4_0 m5_0 m6_0) r)) _
 unfold ZX
 rw[Zeh ctx 43 ZAs _ _ rfl rfl]
 conv=>arg 3;whnf
 refine ZbI rfl ?_;conv=>arg 3;whnf
 refine Zg (ZkK ZJ m2_0 1) ?_ ?_
 ·conv=>arg 3;whnf
  refine Zq (ZkG ZJ m2_0 [(Zo.mk b c)]) ?_;conv=>arg 3;whnf
  exact Zh rfl
 ·exact ZbF
def ZhR (t0:Bool) (t1:Bool) (t2:Bool) (t3:Bool) (b:Zn) (c:Int) (m1_0:(List Int)) (m2_0:(List Zo)) (m3_0:(List Zi)) (m4_0:(List (Int×Int))) (m5_0:(List (Int×Int))) (m6_0:(List (Zk×Int))):(((List (Int×Int))×(List (Zk×Int))×(List Int)×(List Zo)×(List Zi))⊕((List Int)⊕Unit))→V×Zp
  | (.inl r)=>((.d (D.tup [])),[(.cells [(.sl 7 1),(.sl 8 2),(.sl 9 2),(.mp 4),(.mp 5),(.mp 6)]),.dead,.dead,.dead,(.mp (mpD Ze Ze (Zx (fun ka kb:Int=>(ka==kb)) m4_0 c (m3_0.length:Int)))),(.mp (mpD Ze Ze r.1)),(.mp (mpD Zt Ze r.2.1)),(.arr 1 (List.map Ze r.2.2.1)),(.arr 2 (List.map ZJ r.2.2.2.1)),(.arr 2 (List.map ZcF r.2.2.2.2))])
  | (.inr (.inl r))=>((.d (D.tup [])),[(.cells [(.sl 7 1),(.sl 2 2),(.sl 8 2),(.mp 4),(.mp 5),(.mp 6)]),.dead,(.arr 2 (List.map ZJ m2_0)),.dead,(.mp (mpD Ze Ze (Zx (fun ka kb:Int=>(ka==kb)) m4_0 c (m3_0.length:Int)))),(.mp (mpD Ze Ze (Zx (fun ka kb:Int=>(ka==kb)) m5_0 c (w64 ((List.length (m3_0++[(Zi.mk c 0)]):Int)-1))))),(.mp (mpD Zt Ze m6_0)),(.arr 1 (List.map Ze r)),(.arr 2 (List.map ZcF (m3_0++[(Zi.mk c 0)])))])
  | (.inr (.inr r))=>((.d (D.tup [])),[(.cells [(.sl 1 1),(.sl 2 2),(.sl 3 2),(.mp 4),(.mp 5),(.mp 6)]),(.arr 1 (List.map Ze m1_0)),(.arr 2 (List.map ZJ m2_0)),(.arr 2 (List.map ZcF m3_0)),(.mp (mpD Ze Ze (Zx (fun ka kb:Int=>(ka==kb)) m4_0 c (m3_0.length:Int)))),(.mp (mpD Ze Ze m5_0)),(.mp (mpD Zt Ze m6_0))])
def Zhj (t0:Bool) (t1:Bool) (t2:Bool) (t3:Bool) (b:Zn) (c:Int) (m3_0:(List Zi)) (m4_0:(List (Int×Int))) (x0:(List Int)):((List (Int×Int))×(List (Zk×Int))×(List Int)×(List Zo)×(List Zi))→Ex×List V×Zp
  | r=>(.exit 0,[],[(.cells [(.sl 7 1),(.sl 8 2),(.sl 9 2),(.mp 4),(.mp 5),(.mp 6)]),.dead,.dead,.dead,(.mp (mpD Ze Ze (Zx (fun ka kb:Int=>(ka==kb)) m4_0 c (m3_0.length:Int)))),(.mp (mpD Ze Ze r.1)),(.mp (mpD Zt Ze r.2.1)),(.arr 1 (List.map Ze r.2.2.1)),(.arr 2 (List.map ZJ r.2.2.2.1)),(.arr 2 (List.map ZcF r.2.2.2.2))])
theorem ZdJ {t0:Bool}{t1:Bool}{t2:Bool}{t3:Bool}{b:Zn}{c:Int}{m3_0:(List Zi)}{m4_0:(List (Int×Int))}{x0:(List Int)}:∀(s14:Int×Int×(List (Int×Int))×(List (Zk×Int))×(List Int)×(List Zo)×(List Zi)) (r:((List (Int×Int))×(List (Zk×Int))×(List Int)×(List Zo)×(List Zi))),lp (ZF b c x0) s14=some r→lpW ctx 7 [0,2,4,6,7,26,27] [] ZpL [(.ptr 0 0),(.d (Ze c)),(.ptr 7 0),(.d (Ze s14.1)),(.d (D.list true (List.map Ze x0))),(.d (Ze (w64 ((x0.length:Int)+1)))),(.d (Ze s14.2.1))] [(.cells [(.sl 8 1),(.sl 9 2),(.sl 10 2),(.mp 4),(.mp 5),(.mp 6)]),.dead,.dead,.dead,(.mp (mpD Ze Ze (Zx (fun ka kb:Int=>(ka==kb)) m4_0 c (m3_0.length:Int)))),(.mp (mpD Ze Ze s14.2.2.1)),(.mp (mpD Zt Ze s14.2.2.2.1)),(.cells (dV t0 t1 t2 t3 b)),(.arr 1 (List.map Ze s14.2.2.2.2.1)),(.arr 2 (List.map ZJ s14.2.2.2.2.2.1)),(.arr 2 (List.map ZcF s14.2.2.2.2.2.2))]=some ((Zhj t0 t1 t2 t3 b c m3_0 m4_0 x0) r):=by
 refine Zbe (Zhj t0 t1 t2 t3 b c m3_0 m4_0 x0) ?_
 intro s14 rcl ih
 show Z6 _ _ (lpW _ _ _ _ _ _ _)
 unfold ZF
 rw[Zbg]
 conv=>arg 3;whnf
 refine Zg rfl ?_ ?_<;>conv=>arg 3;whnf
 ·refine Zj rfl rfl fun x15 hx15=>?_;conv=>arg 3;whnf
  refine Zq (Zal _ _) ?_;conv=>arg 3;whnf
  refine Zg rfl ?_ ?_<;>conv=>arg 3;whnf
  ·refine Zj rfl rfl fun x16 hx16=>?_;conv=>arg 3;whnf
   refine Zj rfl rfl fun x17 hx17=>?_;conv=>arg 3;whnf
   refine Zc _ Zbs fun x18 hx18=>?_;conv=>arg 3;whnf
   refine Zf (Ze1 (f:=Ze) (g:=Ze) (fun ka kb:Int=>(ka==kb)) (fun _ _=>rfl) s14.2.2.1 c (w64 ((List.length (s14.2.2.2.2.2.2++[(Zi.mk c s14.2.1)]):Int)-1))) ?_;conv=>arg 3;whnf
   refine Zg rfl ?_ ?_<;>conv=>arg 3;whnf
   ·refine Zf (Zcu (f:=Ze) (g:=Ze) (fun ka kb:Int=>(ka==kb)) (fun _ _=>rfl) (Zx (fun ka kb:Int=>(ka==kb)) s14.2.2.1 c (w64 ((List.length (s14.2.2.2.2.2.2++[(Zi.mk c s14.2.1)]):Int)-1))) c 0) ?_;conv=>arg 3;whnf
    refine Zf (Zcu (f:=Ze) (g:=Ze) (fun ka kb:Int=>(ka==kb)) (fun _ _=>rfl) (Zx (fun ka kb:Int=>(ka==kb)) s14.2.2.1 c (w64 ((List.length (s14.2.2.2.2.2.2++[(Zi.mk c s14.2.1)]):Int)-1))) c 0) ?_;conv=>arg 3;whnf
    refine Zc _ Zbc fun x19 hx19=>?_;conv=>arg 3;whnf
    refine Zj rfl rfl fun x20 hx20=>?_;conv=>arg 3;whnf
    refine Zj rfl rfl fun x21 hx21=>?_;conv=>arg 3;whnf
    refine Zf (Zcu (f:=Ze) (g:=Ze) (fun ka kb:Int=>(ka==kb)) (fun _ _=>rfl) (Zx (fun ka kb:Int=>(ka==kb)) s14.2.2.1 c (w64 ((List.length (s14.2.2.2.2.2.2++[(Zi.mk c s14.2.1)]):Int)-1))) c 0) ?_;conv=>arg 3;whnf
    refine Zf (Ze1 (f:=Zt) (g:=Ze) (fun ka kb:Zk=>((ka.maker==kb.maker)&&((ka.user==kb.user)&&((ka.pos==kb.pos)&&true)))) (fun _ _=>rfl) s14.2.2.2.1 x21 (ZaL (fun ka kb:Int=>(ka==kb)) (Zx (fun ka kb:Int=>(ka==kb)) s14.2.2.1 c (w64 ((List.length (s14.2.2.2.2.2.2++[(Zi.mk c s14.2.1)]):Int)-1))) c 0)) ?_;conv=>arg 3;whnf
    exact Zd (ih _)
   ·exact Zd (ih _)
  ·refine Zc _ Zbs fun x22 hx22=>?_;conv=>arg 3;whnf
   refine Zf (Ze1 (f:=Ze) (g:=Ze) (fun ka kb:Int=>(ka==kb)) (fun _ _=>rfl) s14.2.2.1 c (w64 ((List.length (s14.2.2.2.2.2.2++[(Zi.mk c s14.2.1)]):Int)-1))) ?_;conv=>arg 3;whnf
   refine Zg rfl ?_ ?_<;>conv=>arg 3;whnf
   ·refine Zf (Zcu (f:=Ze) (g:=Ze) (fun ka kb:Int=>(ka==kb)) (fun _ _=>rfl) (Zx (fun ka kb:Int=>(ka==kb)) s14.2.2.1 c (w64 ((List.length (s14.2.2.2.2.2.2++[(Zi.mk c s14.2.1)]):Int)-1))) c 0) ?_;conv=>arg 3;whnf
    refine Zf (Zcu (f:=Ze) (g:=Ze) (fun ka kb:Int=>(ka==kb)) (fun _ _=>rfl) (Zx (fun ka kb:Int=>(ka==kb)) s14.2.2.1 c (w64 ((List.length (s14.2.2.2.2.2.2++[(Zi.mk c s14.2.1)]):Int)-1))) c 0) ?_;conv=>arg 3;whnf
    refine Zc _ Zbc fun x23 hx23=>?_;conv=>arg 3;whnf
    refine Zj rfl rfl fun x24 hx24=>?_;conv=>arg 3;whnf
    refine Zj rfl rfl fun x25 hx25=>?_;conv=>arg 3;whnf
    refine Zf (Zcu (f:=Ze) (g:=Ze) (fun ka kb:Int=>(ka==kb)) (fun _ _=>rfl) (Zx (fun ka kb:Int=>(ka==kb)) s14.2.2.1 c (w64 ((List.length (s14.2.2.2.2.2.2++[(Zi.mk c s14.2.1)]):Int)-1))) c 0) ?_;conv=>arg 3;whnf
    refine Zf (Ze1 (f:=Zt) (g:=Ze) (fun ka kb:Zk=>((ka.maker==kb.maker)&&((ka.user==kb.user)&&((ka.pos==kb.pos)&&true)))) (fun _ _=>rfl) s14.2.2.2.1 x25 (ZaL (fun ka kb:Int=>(ka==kb)) (Zx (fun ka kb:Int=>(ka==kb)) s14.2.2.1 c (w64 ((List.length (s14.2.2.2.2.2.2++[(Zi.mk c s14.2.1)]):Int)-1))) c 0)) ?_;conv=>arg 3;whnf
    exact Zd (ih _)
   ·exact Zd (ih _)
 ·exact Zh rfl
def ZgL (t0:Bool) (t1:Bool) (t2:Bool) (t3:Bool) (b:Zn) (c:Int) (m1_0:(List Int)) (m2_0:(List Zo)) (m3_0:(List Zi)) (m4_0:(List (Int×Int))) (m5_0:(List (Int×Int))) (m6_0:(List (Zk×Int))) (x0:(List Int)) (x4:Zk):(((List (Int×Int))×(List (Zk×Int))×(List Int)×(List Zo)×(List Zi))⊕Unit)→Ex×List V×Zp
  | (.inl r)=>(.exit 0,[],[(.cells [(.sl 7 1),(.sl 8 2),(.sl 9 2),(.mp 4),(.mp 5),(.mp 6)]),.dead,.dead,.dead,(.mp (mpD Ze Ze (Zx (fun ka kb:Int=>(ka==kb)) m4_0 c (m3_0.length:Int)))),(.mp (mpD Ze Ze r.1)),(.mp (mpD Zt Ze r.2.1)),(.arr 1 (List.map Ze r.2.2.1)),(.arr 2 (List.map ZJ r.2.2.2.1)),(.arr 2 (List.map ZcF r.2.2.2.2))])
  | (.inr r)=>(.exit 0,[],[(.cells [(.sl 7 1),(.sl 2 2),(.sl 8 2),(.mp 4),(.mp 5),(.mp 6)]),.dead,(.arr 2 (List.map ZJ m2_0)),.dead,(.mp (mpD Ze Ze (Zx (fun ka kb:Int=>(ka==kb)) m4_0 c (m3_0.length:Int)))),(.mp (mpD Ze Ze (Zx (fun ka kb:Int=>(ka==kb)) m5_0 c (w64 ((List.length (m3_0++[(Zi.mk c 0)]):Int)-1))))),(.mp (mpD Zt Ze m6_0)),(.arr 1 (List.map Ze (m1_0++[(w64 (x4.pos-0))]))),(.arr 2 (List.map ZcF (m3_0++[(Zi.mk c 0)])))])
theorem ZiN {t0:Bool}{t1:Bool}{t2:Bool}{t3:Bool}{b:Zn}{c:Int}{m1_0:(List Int)}{m2_0:(List Zo)}{m3_0:(List Zi)}{m4_0:(List (Int×Int))}{m5_0:(List (Int×Int))}{m6_0:(List (Zk×Int))}{x0:(List Int)}{x4:Zk}:∀(s6:Unit) (r:(((List (Int×Int))×(List (Zk×Int))×(List Int)×(List Zo)×(List Zi))⊕Unit)),lp (Zci b c m1_0 m2_0 m3_0 m5_0 m6_0 x0 x4) s6=some r→lpW ctx 7 [0,2,4,6,7,26,27] [] ZpL [(.ptr 0 0),(.d (Ze c)),(.ptr 7 0),(.d (Ze x4.pos)),(.d (D.list true (List.map Ze x0))),(.d (Ze (w64 ((x0.length:Int)+1)))),(.d (Ze 1))] [(.cells [(.sl 8 1),(.sl 2 2),(.sl 9 2),(.mp 4),(.mp 5),(.mp 6)]),.dead,(.arr 2 (List.map ZJ m2_0)),.dead,(.mp (mpD Ze Ze (Zx (fun ka kb:Int=>(ka==kb)) m4_0 c (m3_0.length:Int)))),(.mp (mpD Ze Ze (Zx (fun ka kb:Int=>(ka==kb)) m5_0 c (w64 ((List.length (m3_0++[(Zi.mk c 0)]):Int)-1))))),(.mp (mpD Zt Ze m6_0)),(.cells (dV t0 t1 t2 t3 b)),(.arr 1 (List.map Ze (m1_0++[(w64 (x4.pos-0))]))),(.arr 2 (List.map ZcF (m3_0++[(Zi.mk c 0)])))]=some ((ZgL t0 t1 t2 t3 b c m1_0 m2_0 m3_0 m4_0 m5_0 m6_0 x0 x4) r):=by
 refine Zbe (ZgL t0 t1 t2 t3 b c m1_0 m2_0 m3_0 m4_0 m5_0 m6_0 x0 x4) ?_
 intro s6 rcl ih
 show Z6 _ _ (lpW _ _ _ _ _ _ _)
 unfold Zci
 rw[Zbg]
 conv=>arg 3;whnf
 refine Zg rfl ?_ ?_<;>conv=>arg 3;whnf
 ·refine Zj rfl rfl fun x7 hx7=>?_;conv=>arg 3;whnf
  refine Zq (Zal _ _) ?_;conv=>arg 3;whnf
  refine Zg rfl ?_ ?_<;>conv=>arg 3;whnf
  ·refine Zj rfl rfl fun x8 hx8=>?_;conv=>arg 3;whnf
   refine Zj rfl rfl fun x9 hx9=>?_;conv=>arg 3;whnf
   refine Zc _ Zbs fun x10 hx10=>?_;conv=>arg 3;whnf
   refine Zf (Ze1 (f:=Ze) (g:=Ze) (fun ka kb:Int=>(ka==kb)) (fun _ _=>rfl) (Zx (fun ka kb:Int=>(ka==kb)) m5_0 c (w64 ((List.length (m3_0++[(Zi.mk c 0)]):Int)-1))) c (w64 ((List.length ((m3_0++[(Zi.mk c 0)])++[(Zi.mk c 1)]):Int)-1))) ?_;conv=>arg 3;whnf
   refine ZbI rfl ?_;conv=>arg 3;whnf
   refine Zf (Zcu (f:=Ze) (g:=Ze) (fun ka kb:Int=>(ka==kb)) (fun _ _=>rfl) (Zx (fun ka kb:Int=>(ka==kb)) (Zx (fun ka kb:Int=>(ka==kb)) m5_0 c (w64 ((List.length (m3_0++[(Zi.mk c 0)]):Int)-1))) c (w64 ((List.length ((m3_0++[(Zi.mk c 0)])++[(Zi.mk c 1)]):Int)-1))) c 0) ?_;conv=>arg 3;whnf
   refine Zf (Zcu (f:=Ze) (g:=Ze) (fun ka kb:Int=>(ka==kb)) (fun _ _=>rfl) (Zx (fun ka kb:Int=>(ka==kb)) (Zx (fun ka kb:Int=>(ka==kb)) m5_0 c (w64 ((List.length (m3_0++[(Zi.mk c 0)]):Int)-1))) c (w64 ((List.length ((m3_0++[(Zi.mk c 0)])++[(Zi.mk c 1)]):Int)-1))) c 0) ?_;conv=>arg 3;whnf
   refine Zc _ Zbc fun x11 hx11=>?_;conv=>arg 3;whnf
   refine Zj rfl rfl fun x12 hx12=>?_;conv=>arg 3;whnf
   refine Zj rfl rfl fun x13 hx13=>?_;conv=>arg 3;whnf
   refine Zf (Zcu (f:=Ze) (g:=Ze) (fun ka kb:Int=>(ka==kb)) (fun _ _=>rfl) (Zx (fun ka kb:Int=>(ka==kb)) (Zx (fun ka kb:Int=>(ka==kb)) m5_0 c (w64 ((List.length (m3_0++[(Zi.mk c 0)]):Int)-1))) c (w64 ((List.length ((m3_0++[(Zi.mk c 0)])++[(Zi.mk c 1)]):Int)-1))) c 0) ?_;conv=>arg 3;whnf
   refine Zf (Ze1 (f:=Zt) (g:=Ze) (fun ka kb:Zk=>((ka.maker==kb.maker)&&((ka.user==kb.user)&&((ka.pos==kb.pos)&&true)))) (fun _ _=>rfl) m6_0 x13 (ZaL (fun ka kb:Int=>(ka==kb)) (Zx (fun ka kb:Int=>(ka==kb)) (Zx (fun ka kb:Int=>(ka==kb)) m5_0 c (w64 ((List.length (m3_0++[(Zi.mk c 0)]):Int)-1))) c (w64 ((List.length ((m3_0++[(Zi.mk c 0)])++[(Zi.mk c 1)]):Int)-1))) c 0)) ?_;conv=>arg 3;whnf
   refine Zc _ (ZdJ _) fun r26 hr26=>?_;conv=>arg 3;whnf
   exact Zh rfl
  ·refine Zc _ Zbs fun x27 hx27=>?_;conv=>arg 3;whnf
   refine Zf (Ze1 (f:=Ze) (g:=Ze) (fun ka kb:Int=>(ka==kb)) (fun _ _=>rfl) (Zx (fun ka kb:Int=>(ka==kb)) m5_0 c (w64 ((List.length (m3_0++[(Zi.mk c 0)]):Int)-1))) c (w64 ((List.length ((m3_0++[(Zi.mk c 0)])++[(Zi.mk c 1)]):Int)-1))) ?_;conv=>arg 3;whnf
   refine ZbI rfl ?_;conv=>arg 3;whnf
   refine Zf (Zcu (f:=Ze) (g:=Ze) (fun ka kb:Int=>(ka==kb)) (fun _ _=>rfl) (Zx (fun ka kb:Int=>(ka==kb)) (Zx (fun ka kb:Int=>(ka==kb)) m5_0 c (w64 ((List.length (m3_0++[(Zi.mk c 0)]):Int)-1))) c (w64 ((List.length ((m3_0++[(Zi.mk c 0)])++[(Zi.mk c 1)]):Int)-1))) c 0) ?_;conv=>arg 3;whnf
   refine Zf (Zcu (f:=Ze) (g:=Ze) (fun ka kb:Int=>(ka==kb)) (fun _ _=>rfl) (Zx (fun ka kb:Int=>(ka==kb)) (Zx (fun ka kb:Int=>(ka==kb)) m5_0 c (w64 ((List.length (m3_0++[(Zi.mk c 0)]):Int)-1))) c (w64 ((List.length ((m3_0++[(Zi.mk c 0)])++[(Zi.mk c 1)]):Int)-1))) c 0) ?_;conv=>arg 3;whnf
   refine Zc _ Zbc fun x28 hx28=>?_;conv=>arg 3;whnf
   refine Zj rfl rfl fun x29 hx29=>?_;conv=>arg 3;whnf
   refine Zj rfl rfl fun x30 hx30=>?_;conv=>arg 3;whnf
   refine Zf (Zcu (f:=Ze) (g:=Ze) (fun ka kb:Int=>(ka==kb)) (fun _ _=>rfl) (Zx (fun ka kb:Int=>(ka==kb)) (Zx (fun ka kb:Int=>(ka==kb)) m5_0 c (w64 ((List.length (m3_0++[(Zi.mk c 0)]):Int)-1))) c (w64 ((List.length ((m3_0++[(Zi.mk c 0)])++[(Zi.mk c 1)]):Int)-1))) c 0) ?_;conv=>arg 3;whnf
   refine Zf (Ze1 (f:=Zt) (g:=Ze) (fun ka kb:Zk=>((ka.maker==kb.maker)&&((ka.user==kb.user)&&((ka.pos==kb.pos)&&true)))) (fun _ _=>rfl) m6_0 x30 (ZaL (fun ka kb:Int=>(ka==kb)) (Zx (fun ka kb:Int=>(ka==kb)) (Zx (fun ka kb:Int=>(ka==kb)) m5_0 c (w64 ((List.length (m3_0++[(Zi.mk c 0)]):Int)-1))) c (w64 ((List.length ((m3_0++[(Zi.mk c 0)])++[(Zi.mk c 1)]):Int)-1))) c 0)) ?_;conv=>arg 3;whnf
   refine Zc _ (ZdJ _) fun r43 hr43=>?_;conv=>arg 3;whnf
   exact Zh rfl
 ·exact Zh rfl
def ZgQ (t0:Bool) (t1:Bool) (t2:Bool) (t3:Bool) (b:Zn) (c:Int) (m1_0:(List Int)) (m2_0:(List Zo)) (m3_0:(List Zi)) (m4_0:(List (Int×Int))) (m5_0:(List (Int×Int))) (m6_0:(List (Zk×Int))) (x0:(List Int)) (x2:Zam):(((List (Int×Int))×(List (Zk×Int))×(List Int)×(List Zo)×(List Zi))⊕Unit)→Ex×List V×Zp
  | (.inl r)=>(.exit 0,[],[(.cells [(.sl 7 1),(.sl 8 2),(.sl 9 2),(.mp 4),(.mp 5),(.mp 6)]),.dead,.dead,.dead,(.mp (mpD Ze Ze (Zx (fun ka kb:Int=>(ka==kb)) m4_0 c (m3_0.length:Int)))),(.mp (mpD Ze Ze r.1)),(.mp (mpD Zt Ze r.2.1)),(.arr 1 (List.map Ze r.2.2.1)),(.arr 2 (List.map ZJ r.2.2.2.1)),(.arr 2 (List.map ZcF r.2.2.2.2))])
  | (.inr r)=>(.exit 0,[],[(.cells [(.sl 7 1),(.sl 2 2),(.sl 8 2),(.mp 4),(.mp 5),(.mp 6)]),.dead,(.arr 2 (List.map ZJ m2_0)),.dead,(.mp (mpD Ze Ze (Zx (fun ka kb:Int=>(ka==kb)) m4_0 c (m3_0.length:Int)))),(.mp (mpD Ze Ze (Zx (fun ka kb:Int=>(ka==kb)) m5_0 c (w64 ((List.length (m3_0++[(Zi.mk c 0)]):Int)-1))))),(.mp (mpD Zt Ze m6_0)),(.arr 1 (List.map Ze (m1_0++[(w64 (x2.work-0))]))),(.arr 2 (List.map ZcF (m3_0++[(Zi.mk c 0)])))])
theorem ZiU {t0:Bool}{t1:Bool}{t2:Bool}{t3:Bool}{b:Zn}{c:Int}{m1_0:(List Int)}{m2_0:(List Zo)}{m3_0:(List Zi)}{m4_0:(List (Int×Int))}{m5_0:(List (Int×Int))}{m6_0:(List (Zk×Int))}{x0:(List Int)}{x2:Zam}:∀(s46:Unit) (r:(((List (Int×Int))×(List (Zk×Int))×(List Int)×(List Zo)×(List Zi))⊕Unit)),lp (Zdd b c m1_0 m2_0 m3_0 m5_0 m6_0 x0 x2) s46=some r→lpW ctx 7 [0,2,4,6,7,26,27] [] ZpL [(.ptr 0 0),(.d (Ze c)),(.ptr 7 0),(.d (Ze x2.work)),(.d (D.list true (List.map Ze x0))),(.d (Ze (w64 ((x0.length:Int)+1)))),(.d (Ze 1))] [(.cells [(.sl 8 1),(.sl 2 2),(.sl 9 2),(.mp 4),(.mp 5),(.mp 6)]),.dead,(.arr 2 (List.map ZJ m2_0)),.dead,(.mp (mpD Ze Ze (Zx (fun ka kb:Int=>(ka==kb)) m4_0 c (m3_0.length:Int)))),(.mp (mpD Ze Ze (Zx (fun ka kb:Int=>(ka==kb)) m5_0 c (w64 ((List.length (m3_0++[(Zi.mk c 0)]):Int)-1))))),(.mp (mpD Zt Ze m6_0)),(.cells (dV t0 t1 t2 t3 b)),(.arr 1 (List.map Ze (m1_0++[(w64 (x2.work-0))]))),(.arr 2 (List.map ZcF (m3_0++[(Zi.mk c 0)])))]=some ((ZgQ t0 t1 t2 t3 b c m1_0 m2_0 m3_0 m4_0 m5_0 m6_0 x0 x2) r):=by
 refine Zbe (ZgQ t0 t1 t2 t3 b c m1_0 m2_0 m3_0 m4_0 m5_0 m6_0 x0 x2) ?_
 intro s46 rcl ih
 show Z6 _ _ (lpW _ _ _ _ _ _ _)
 unfold Zdd
 rw[Zbg]
 conv=>arg 3;whnf
 refine Zg rfl ?_ ?_<;>conv=>arg 3;whnf
 ·refine Zj rfl rfl fun x47 hx47=>?_;conv=>arg 3;whnf
  refine Zq (Zal _ _) ?_;conv=>arg 3;whnf
  refine Zg rfl ?_ ?_<;>conv=>arg 3;whnf
  ·refine Zj rfl rfl fun x48 hx48=>?_;conv=>arg 3;whnf
   refine Zj rfl rfl fun x49 hx49=>?_;conv=>arg 3;whnf
   refine Zc _ Zbs fun x50 hx50=>?_;conv=>arg 3;whnf
   refine Zf (Ze1 (f:=Ze) (g:=Ze) (fun ka kb:Int=>(ka==kb)) (fun _ _=>rfl) (Zx (fun ka kb:Int=>(ka==kb)) m5_0 c (w64 ((List.length (m3_0++[(Zi.mk c 0)]):Int)-1))) c (w64 ((List.length ((m3_0++[(Zi.mk c 0)])++[(Zi.mk c 1)]):Int)-1))) ?_;conv=>arg 3;whnf
   refine ZbI rfl ?_;conv=>arg 3;whnf
   refine Zf (Zcu (f:=Ze) (g:=Ze) (fun ka kb:Int=>(ka==kb)) (fun _ _=>rfl) (Zx (fun ka kb:Int=>(ka==kb)) (Zx (fun ka kb:Int=>(ka==kb)) m5_0 c (w64 ((List.length (m3_0++[(Zi.mk c 0)]):Int)-1))) c (w64 ((List.length ((m3_0++[(Zi.mk c 0)])++[(Zi.mk c 1)]):Int)-1))) c 0) ?_;conv=>arg 3;whnf
   refine Zf (Zcu (f:=Ze) (g:=Ze) (fun ka kb:Int=>(ka==kb)) (fun _ _=>rfl) (Zx (fun ka kb:Int=>(ka==kb)) (Zx (fun ka kb:Int=>(ka==kb)) m5_0 c (w64 ((List.length (m3_0++[(Zi.mk c 0)]):Int)-1))) c (w64 ((List.length ((m3_0++[(Zi.mk c 0)])++[(Zi.mk c 1)]):Int)-1))) c 0) ?_;conv=>arg 3;whnf
   refine Zc _ Zbc fun x51 hx51=>?_;conv=>arg 3;whnf
   refine Zj rfl rfl fun x52 hx52=>?_;conv=>arg 3;whnf
   refine Zj rfl rfl fun x53 hx53=>?_;conv=>arg 3;whnf
   refine Zf (Zcu (f:=Ze) (g:=Ze) (fun ka kb:Int=>(ka==kb)) (fun _ _=>rfl) (Zx (fun ka kb:Int=>(ka==kb)) (Zx (fun ka kb:Int=>(ka==kb)) m5_0 c (w64 ((List.length (m3_0++[(Zi.mk c 0)]):Int)-1))) c (w64 ((List.length ((m3_0++[(Zi.mk c 0)])++[(Zi.mk c 1)]):Int)-1))) c 0) ?_;conv=>arg 3;whnf
   refine Zf (Ze1 (f:=Zt) (g:=Ze) (fun ka kb:Zk=>((ka.maker==kb.maker)&&((ka.user==kb.user)&&((ka.pos==kb.pos)&&true)))) (fun _ _=>rfl) m6_0 x53 (ZaL (fun ka kb:Int=>(ka==kb)) (Zx (fun ka kb:Int=>(ka==kb)) (Zx (fun ka kb:Int=>(ka==kb)) m5_0 c (w64 ((List.length (m3_0++[(Zi.mk c 0)]):Int)-1))) c (w64 ((List.length ((m3_0++[(Zi.mk c 0)])++[(Zi.mk c 1)]):Int)-1))) c 0)) ?_;conv=>arg 3;whnf
   refine Zc _ (ZdJ _) fun r66 hr66=>?_;conv=>arg 3;whnf
   exact Zh rfl
  ·refine Zc _ Zbs fun x67 hx67=>?_;conv=>arg 3;whnf
   refine Zf (Ze1 (f:=Ze) (g:=Ze) (fun ka kb:Int=>(ka==kb)) (fun _ _=>rfl) (Zx (fun ka kb:Int=>(ka==kb)) m5_0 c (w64 ((List.length (m3_0++[(Zi.mk c 0)]):Int)-1))) c (w64 ((List.length ((m3_0++[(Zi.mk c 0)])++[(Zi.mk c 1)]):Int)-1))) ?_;conv=>arg 3;whnf
   refine ZbI rfl ?_;conv=>arg 3;whnf
   refine Zf (Zcu (f:=Ze) (g:=Ze) (fun ka kb:Int=>(ka==kb)) (fun _ _=>rfl) (Zx (fun ka kb:Int=>(ka==kb)) (Zx (fun ka kb:Int=>(ka==kb)) m5_0 c (w64 ((List.length (m3_0++[(Zi.mk c 0)]):Int)-1))) c (w64 ((List.length ((m3_0++[(Zi.mk c 0)])++[(Zi.mk c 1)]):Int)-1))) c 0) ?_;conv=>arg 3;whnf
   refine Zf (Zcu (f:=Ze) (g:=Ze) (fun ka kb:Int=>(ka==kb)) (fun _ _=>rfl) (Zx (fun ka kb:Int=>(ka==kb)) (Zx (fun ka kb:Int=>(ka==kb)) m5_0 c (w64 ((List.length (m3_0++[(Zi.mk c 0)]):Int)-1))) c (w64 ((List.length ((m3_0++[(Zi.mk c 0)])++[(Zi.mk c 1)]):Int)-1))) c 0) ?_;conv=>arg 3;whnf
   refine Zc _ Zbc fun x68 hx68=>?_;conv=>arg 3;whnf
   refine Zj rfl rfl fun x69 hx69=>?_;conv=>arg 3;whnf
   refine Zj rfl rfl fun x70 hx70=>?_;conv=>arg 3;whnf
   refine Zf (Zcu (f:=Ze) (g:=Ze) (fun ka kb:Int=>(ka==kb)) (fun _ _=>rfl) (Zx (fun ka kb:Int=>(ka==kb)) (Zx (fun ka kb:Int=>(ka==kb)) m5_0 c (w64 ((List.length (m3_0++[(Zi.mk c 0)]):Int)-1))) c (w64 ((List.length ((m3_0++[(Zi.mk c 0)])++[(Zi.mk c 1)]):Int)-1))) c 0) ?_;conv=>arg 3;whnf
   refine Zf (Ze1 (f:=Zt) (g:=Ze) (fun ka kb:Zk=>((ka.maker==kb.maker)&&((ka.user==kb.user)&&((ka.pos==kb.pos)&&true)))) (fun _ _=>rfl) m6_0 x70 (ZaL (fun ka kb:Int=>(ka==kb)) (Zx (fun ka kb:Int=>(ka==kb)) (Zx (fun ka kb:Int=>(ka==kb)) m5_0 c (w64 ((List.length (m3_0++[(Zi.mk c 0)]):Int)-1))) c (w64 ((List.length ((m3_0++[(Zi.mk c 0)])++[(Zi.mk c 1)]):Int)-1))) c 0)) ?_;conv=>arg 3;whnf
   refine Zc _ (ZdJ _) fun r83 hr83=>?_;conv=>arg 3;whnf
   exact Zh rfl
 ·exact Zh rfl
def ZgF (t0:Bool) (t1:Bool) (t2:Bool) (t3:Bool) (b:Zn) (c:Int) (m1_0:(List Int)) (m2_0:(List Zo)) (m3_0:(List Zi)) (m4_0:(List (Int×Int))) (m5_0:(List (Int×Int))) (m6_0:(List (Zk×Int))) (x0:(List Int)):(((List (Int×Int))×(List (Zk×Int))×(List Int)×(List Zo)×(List Zi))⊕((List Int)⊕Unit))→Ex×List V×Zp
  | (.inl r)=>(.exit 0,[],[(.cells [(.sl 7 1),(.sl 8 2),(.sl 9 2),(.mp 4),(.mp 5),(.mp 6)]),.dead,.dead,.dead,(.mp (mpD Ze Ze (Zx (fun ka kb:Int=>(ka==kb)) m4_0 c (m3_0.length:Int)))),(.mp (mpD Ze Ze r.1)),(.mp (mpD Zt Ze r.2.1)),(.arr 1 (List.map Ze r.2.2.1)),(.arr 2 (List.map ZJ r.2.2.2.1)),(.arr 2 (List.map ZcF r.2.2.2.2))])
  | (.inr (.inl r))=>(.exit 0,[],[(.cells [(.sl 7 1),(.sl 2 2),(.sl 8 2),(.mp 4),(.mp 5),(.mp 6)]),.dead,(.arr 2 (List.map ZJ m2_0)),.dead,(.mp (mpD Ze Ze (Zx (fun ka kb:Int=>(ka==kb)) m4_0 c (m3_0.length:Int)))),(.mp (mpD Ze Ze (Zx (fun ka kb:Int=>(ka==kb)) m5_0 c (w64 ((List.length (m3_0++[(Zi.mk c 0)]):Int)-1))))),(.mp (mpD Zt Ze m6_0)),(.arr 1 (List.map Ze r)),(.arr 2 (List.map ZcF (m3_0++[(Zi.mk c 0)])))])
  | (.inr (.inr r))=>(.exit 0,[],[(.cells [(.sl 1 1),(.sl 2 2),(.sl 3 2),(.mp 4),(.mp 5),(.mp 6)]),(.arr 1 (List.map Ze m1_0)),(.arr 2 (List.map ZJ m2_0)),(.arr 2 (List.map ZcF m3_0)),(.mp (mpD Ze Ze (Zx (fun ka kb:Int=>(ka==kb)) m4_0 c (m3_0.length:Int)))),(.mp (mpD Ze Ze m5_0)),(.mp (mpD Zt Ze m6_0))])
theorem ZiV {t0:Bool}{t1:Bool}{t2:Bool}{t3:Bool}{b:Zn}{c:Int}{m1_0:(List Int)}{m2_0:(List Zo)}{m3_0:(List Zi)}{m4_0:(List (Int×Int))}{m5_0:(List (Int×Int))}{m6_0:(List (Zk×Int))}{x0:(List Int)}:∀(s1:Unit) (r:(((List (Int×Int))×(List (Zk×Int))×(List Int)×(List Zo)×(List Zi))⊕((List Int)⊕Unit))),lp (Zcj b c m1_0 m2_0 m3_0 m5_0 m6_0 x0) s1=some r→lpW ctx 7 [0,2,4,6,7,26,27] [] ZpL [(.ptr 0 0),(.d (Ze c)),(.ptr 7 0),(.d (Ze 0)),(.d (D.list true (List.map Ze x0))),(.d (Ze (w64 ((x0.length:Int)+1)))),(.d (Ze 0))] [(.cells [(.sl 1 1),(.sl 2 2),(.sl 3 2),(.mp 4),(.mp 5),(.mp 6)]),(.arr 1 (List.map Ze m1_0)),(.arr 2 (List.map ZJ m2_0)),(.arr 2 (List.map ZcF m3_0)),(.mp (mpD Ze Ze (Zx (fun ka kb:Int=>(ka==kb)) m4_0 c (m3_0.length:Int)))),(.mp (mpD Ze Ze m5_0)),(.mp (mpD Zt Ze m6_0)),(.cells (dV t0 t1 t2 t3 b))]=some ((ZgF t0 t1 t2 t3 b c m1_0 m2_0 m3_0 m4_0 m5_0 m6_0 x0) r):=by
 refine Zbe (ZgF t0 t1 t2 t3 b c m1_0 m2_0 m3_0 m4_0 m5_0 m6_0 x0) ?_
 intro s1 rcl ih
 show Z6 _ _ (lpW _ _ _ _ _ _ _)
 unfold Zcj
 rw[Zbg]
 conv=>arg 3;whnf
 refine Zg rfl ?_ ?_<;>conv=>arg 3;whnf
 ·refine Zj rfl rfl fun x2 hx2=>?_;conv=>arg 3;whnf
  refine Zq (Zal _ _) ?_;conv=>arg 3;whnf
  refine Zg rfl ?_ ?_<;>conv=>arg 3;whnf
  ·refine Zj rfl rfl fun x3 hx3=>?_;conv=>arg 3;whnf
   refine Zj rfl rfl fun x4 hx4=>?_;conv=>arg 3;whnf
   refine Zc _ Zbs fun x5 hx5=>?_;conv=>arg 3;whnf
   refine Zf (Ze1 (f:=Ze) (g:=Ze) (fun ka kb:Int=>(ka==kb)) (fun _ _=>rfl) m5_0 c (w64 ((List.length (m3_0++[(Zi.mk c 0)]):Int)-1))) ?_;conv=>arg 3;whnf
   refine ZQ rfl ?_;conv=>arg 3;whnf
   refine Zc _ (ZiN _) fun r44 hr44=>?_
   clear hr44
   rcases r44 with r44 | r44
   ·conv=>arg 3;whnf
    exact Zh rfl
   ·conv=>arg 3;whnf
    exact Zh rfl
  ·refine Zc _ Zbs fun x45 hx45=>?_;conv=>arg 3;whnf
   refine Zf (Ze1 (f:=Ze) (g:=Ze) (fun ka kb:Int=>(ka==kb)) (fun _ _=>rfl) m5_0 c (w64 ((List.length (m3_0++[(Zi.mk c 0)]):Int)-1))) ?_;conv=>arg 3;whnf
   refine ZQ rfl ?_;conv=>arg 3;whnf
   refine Zc _ (ZiU _) fun r84 hr84=>?_
   clear hr84
   rcases r84 with r84 | r84
   ·conv=>arg 3;whnf
    exact Zh rfl
   ·conv=>arg 3;whnf
    exact Zh rfl
 ·exact Zh rfl
theorem ZkP {t0:Bool}{t1:Bool}{t2:Bool}{t3:Bool}{b:Zn}{c:Int}{m1_0:(List Int)}{m2_0:(List Zo)}{m3_0:(List Zi)}{m4_0:(List (Int×Int))}{m5_0:(List (Int×Int))}{m6_0:(List (Zk×Int))}:∀r,(ZeB b c m1_0 m2_0 m3_0 m5_0 m6_0)=some r→evW ctx 42 [(.ptr 0 0),(.d (D.agg (dA t0 t1 t2 t3 b))),(.d (Ze c))] [(.cells [(.sl 1 1),(.sl 2 2),(.sl 3 2),(.mp 4),(.mp 5),(.mp 6)]),(.arr 1 (List.map Ze m1_0)),(.arr 2 (List.map ZJ m2_0)),(.arr 2 (List.map ZcF m3_0)),(.mp (mpD Ze Ze m4_0)),(.mp (mpD Ze Ze m5_0)),(.mp (mpD Zt Ze m6_0))]=some ((ZhR t0 t1 t2 t3 b c m1_0 m2_0 m3_0 m4_0 m5_0 m6_0) r):=by
 show Z6 _ (fun r rhs=>rhs=some ((ZhR t0 t1 t2 t3 b c m1_0 m2_0 m3_0 m4_0 m5_0 m6_0) r)) _
 unfold ZeB
 rw[Zeh ctx 42 ZAT _ _ rfl rfl]
 conv=>arg 3;whnf
 refine Zq (Zal _ _) ?_;conv=>arg 3;whnf
 refine Zf (Ze1 (f:=Ze) (g:=Ze) (fun ka kb:Int=>(ka==kb)) (fun _ _=>rfl) m4_0 c (m3_0.length:Int)) ?_;conv=>arg 3;whnf
 refine Zs _ Znk rfl fun x0 hx0=>?_;conv=>arg 3;whnf
 refine Zq (Zal _ _) ?_;conv=>arg 3;whnf
 refine Zc _ (ZiV _) fun r85 hr85=>?_
 clear hr85
 rcases r85 with r85 | (r85 | r85)
 ·conv=>arg 3;whnf
  exact Zh rfl
 ·conv=>arg 3;whnf
  exact Zh rfl
 ·conv=>arg 3;whnf
  exact Zh rfl
def Zk2 (r:Bool):D:=(D.bool r)
theorem ZnR {a:Int}:∀r,(ZdY a)=some r→evD ctx 54 [(.d (Ze a))]=some (Zk2 r):=by
 show Z6 _ (fun r rhs=>rhs=some (Zk2 r)) _
 unfold ZdY
 rw[ZcX ctx 54 ZAm _ rfl rfl]
 conv=>arg 3;whnf
 refine Zg rfl ?_ ?_<;>conv=>arg 3;whnf
 ·exact Zh rfl
 ·refine Zg rfl ?_ ?_<;>conv=>arg 3;whnf
  ·exact Zh rfl
  ·exact Zh rfl
def Zdx (r:Int):D:=(Ze r)
def Zdb (t0:Bool) (a:(List Int)):(Int⊕Unit)→Ex×List V×Zp
  | (.inl r)=>(.ret,[(.d (Ze r))],[])
  | (.inr r)=>(.exit 0,[.bad],[])
theorem Zfs {t0:Bool}{a:(List Int)}:∀(s0:Int) (r:(Int⊕Unit)),lp (Za4 a (fun z0=>ZdY z0)) s0=some r→lpW ctx 0 [0,1,7,8] [4] Zr0 [(.d (D.list t0 (List.map Ze a))),(.d (D.fn 54 [])),(.d (Ze (a.length:Int))),(.d (Ze s0))] []=some ((Zdb t0 a) r):=by
 refine Zbe (Zdb t0 a) ?_
 intro s0 rcl ih
 show Z6 _ _ (lpW _ _ _ _ _ _ _)
 unfold Za4
 rw[Zbg]
 conv=>arg 3;whnf
 refine Zg rfl ?_ ?_<;>conv=>arg 3;whnf
 ·refine Zj rfl rfl fun x1 hx1=>?_;conv=>arg 3;whnf
  refine Zs _ ZnR rfl fun x2 hx2=>?_;conv=>arg 3;whnf
  refine Zg rfl ?_ ?_<;>conv=>arg 3;whnf
  ·exact Zh rfl
  ·exact Zd (ih _)
 ·exact Zh rfl
theorem Zf0 {t0:Bool}{a:(List Int)}:∀r,(ZbC a (fun z0=>ZdY z0))=some r→evD ctx 101 [(.d (D.list t0 (List.map Ze a))),(.d (D.fn 54 []))]=some (Zdx r):=by
 show Z6 _ (fun r rhs=>rhs=some (Zdx r)) _
 unfold ZbC
 rw[ZcX ctx 101 Zuo _ rfl rfl]
 conv=>arg 3;whnf
 refine Zq (Zal _ _) ?_;conv=>arg 3;whnf
 refine Zc _ (Zfs _) fun r3 hr3=>?_
 clear hr3
 rcases r3 with r3 | r3
 ·conv=>arg 3;whnf
  exact Zh rfl
 ·conv=>arg 3;whnf
  exact Zh rfl
def Zde (r:Bool):D:=(D.bool r)
theorem Zft {t0:Bool}{a:(List Int)}:∀r,(ZaH a (fun z0=>ZdY z0))=some r→evD ctx 53 [(.d (D.list t0 (List.map Ze a))),(.d (D.fn 54 []))]=some (Zde r):=by
 show Z6 _ (fun r rhs=>rhs=some (Zde r)) _
 unfold ZaH
 rw[ZcX ctx 53 Zzx _ rfl rfl]
 conv=>arg 3;whnf
 refine Zs _ Zf0 rfl fun x0 hx0=>?_;conv=>arg 3;whnf
 refine Zg rfl ?_ ?_<;>conv=>arg 3;whnf
 ·exact Zh rfl
 ·exact Zh rfl
def Zk5 (r:Bool):D:=(D.bool r)
theorem Zka {t0:Bool}{t1:Bool}{a:Int}{b0:(List Int)}{b1:(List Zo)}:∀r,(Zgi a b0)=some r→evD ctx 55 [(.d (Ze a)),(.d (D.rptr [(D.list t0 (List.map Ze b0)),(D.list t1 (List.map ZJ b1))]))]=some (Zk5 r):=by
 show Z6 _ (fun r rhs=>rhs=some (Zk5 r)) _
 unfold Zgi
 rw[ZcX ctx 55 ZAg _ rfl rfl]
 conv=>arg 3;whnf
 refine Zg rfl ?_ ?_<;>conv=>arg 3;whnf
 ·refine Zq (Zal _ _) ?_;conv=>arg 3;whnf
  refine Zg rfl ?_ ?_<;>conv=>arg 3;whnf
  ·exact Zh rfl
  ·exact Zh rfl
 ·exact Zh rfl
def Zl3 (r:((List Int)×Bool)):D:=(D.tup [(D.list true (List.map Ze r.1)),(D.bool r.2)])
def Zks (t0:Bool) (t1:Bool) (a:ZbS) (s0:(List Int)×(List Bool)) (s1:Int):(Unit⊕Unit)→Ex×List V×Zp
  | (.inl r)=>(.exit 3,[(.ptr 0 0),(.sl 1 1),(.sl 2 1),(.d (Ze s1)),(.d (Ze (a.work.length:Int))),(.d (Ze s1))],[(.cells [(.d (D.list t0 (List.map Ze a.work))),(.d (D.list t1 (List.map ZJ a.edges)))]),(.arr 1 (List.map Ze s0.1)),(.arr 1 (List.map D.bool s0.2))])
  | (.inr r)=>(.exit 4,[(.ptr 0 0),(.sl 1 1),(.sl 2 1),(.d (Ze s1)),(.d (Ze (a.work.length:Int))),(.d (Ze s1))],[(.cells [(.d (D.list t0 (List.map Ze a.work))),(.d (D.list t1 (List.map ZJ a.edges)))]),(.arr 1 (List.map Ze s0.1)),(.arr 1 (List.map D.bool s0.2))])
theorem Znb {t0:Bool}{t1:Bool}{a:ZbS}{s0:(List Int)×(List Bool)}{s1:Int}:∀(s3:Int) (r:(Unit⊕Unit)),lp (ZfZ a s0 s1) s3=some r→lpW ctx 0 [1,4,5,6,21,22,30,31,32] [1,4,5,6,21,22] Zw0 [(.ptr 0 0),(.sl 1 1),(.sl 2 1),(.d (Ze s1)),(.d (Ze (a.work.length:Int))),(.d (Ze s1)),(.d (D.list t1 (List.map ZJ a.edges))),(.d (Ze (a.edges.length:Int))),(.d (Ze s3))] [(.cells [(.d (D.list t0 (List.map Ze a.work))),(.d (D.list t1 (List.map ZJ a.edges)))]),(.arr 1 (List.map Ze s0.1)),(.arr 1 (List.map D.bool s0.2))]=some ((Zks t0 t1 a s0 s1) r):=by
 refine Zbe (Zks t0 t1 a s0 s1) ?_
 intro s3 rcl ih
 show Z6 _ _ (lpW _ _ _ _ _ _ _)
 unfold ZfZ
 rw[Zbg]
 conv=>arg 3;whnf
 refine Zg rfl ?_ ?_<;>conv=>arg 3;whnf
 ·refine Zj rfl rfl fun x4 hx4=>?_;conv=>arg 3;whnf
  refine Zg rfl ?_ ?_<;>conv=>arg 3;whnf
  ·refine Zj rfl rfl fun x5 hx5=>?_;conv=>arg 3;whnf
   refine Zf (Zl rfl hx5) ?_;conv=>arg 3;whnf
   refine Zg rfl ?_ ?_<;>conv=>arg 3;whnf
   ·exact Zd (ih _)
   ·exact Zh rfl
  ·exact Zd (ih _)
 ·exact Zh rfl
def Zkl (t0:Bool) (t1:Bool) (a:ZbS) (s0:(List Int)×(List Bool)):(((List Int)×(List Bool))⊕Unit)→Ex×List V×Zp
  | (.inl r)=>(.exit 1,[(.ptr 0 0),(.sl 1 1),(.sl 2 1)],[(.cells [(.d (D.list t0 (List.map Ze a.work))),(.d (D.list t1 (List.map ZJ a.edges)))]),(.arr 1 (List.map Ze r.1)),(.arr 1 (List.map D.bool r.2))])
  | (.inr r)=>(.exit 2,[(.ptr 0 0),(.sl 1 1),(.sl 2 1)],[(.cells [(.d (D.list t0 (List.map Ze a.work))),(.d (D.list t1 (List.map ZJ a.edges)))]),(.arr 1 (List.map Ze s0.1)),(.arr 1 (List.map D.bool s0.2))])
theorem Zni {t0:Bool}{t1:Bool}{a:ZbS}{s0:(List Int)×(List Bool)}:∀(s1:Int) (r:(((List Int)×(List Bool))⊕Unit)),lp (ZeV a s0) s1=some r→lpW ctx 0 [1,4,5,21,22] [1,4,5] Zxt [(.ptr 0 0),(.sl 1 1),(.sl 2 1),(.d (Ze (a.work.length:Int))),(.d (Ze s1))] [(.cells [(.d (D.list t0 (List.map Ze a.work))),(.d (D.list t1 (List.map ZJ a.edges)))]),(.arr 1 (List.map Ze s0.1)),(.arr 1 (List.map D.bool s0.2))]=some ((Zkl t0 t1 a s0) r):=by
 refine Zbe (Zkl t0 t1 a s0) ?_
 intro s1 rcl ih
 show Z6 _ _ (lpW _ _ _ _ _ _ _)
 unfold ZeV
 rw[Zbg]
 conv=>arg 3;whnf
 refine Zg rfl ?_ ?_<;>conv=>arg 3;whnf
 ·refine Zj rfl rfl fun x2 hx2=>?_;conv=>arg 3;whnf
  refine Zf (Zl rfl hx2) ?_;conv=>arg 3;whnf
  refine Zg rfl ?_ ?_<;>conv=>arg 3;whnf
  ·exact Zd (ih _)
  ·refine Zq (Zal _ _) ?_;conv=>arg 3;whnf
   refine Zc _ (Znb _) fun r6 hr6=>?_
   clear hr6
   rcases r6 with r6 | r6
   ·conv=>arg 3;whnf
    exact Zd (ih _)
   ·conv=>arg 3;whnf
    refine Zf (Zay rfl hx2) ?_;conv=>arg 3;whnf
    refine Zf (Zl rfl hx2) ?_;conv=>arg 3;whnf
    refine Zq (ZZ D.bool s0.2 s1.toNat true) ?_;conv=>arg 3;whnf
    refine ZbI rfl ?_;conv=>arg 3;whnf
    refine Zg (ZkK Ze s0.1 1) ?_ ?_
    ·conv=>arg 3;whnf
     refine Zq (ZkG Ze s0.1 [s1]) ?_;conv=>arg 3;whnf
     exact Zh rfl
    ·exact ZbF
 ·exact Zh rfl
def Zj6 (t0:Bool) (t1:Bool) (a:ZbS):((List Int)⊕(List Int))→Ex×List V×Zp
  | (.inl r)=>(.ret,[(.nilsl 1),(.d (D.bool false)),(.sl 0 1)],[(.arr 1 (List.map Ze r))])
  | (.inr r)=>(.exit 0,[.bad,.bad,(.sl 0 1)],[(.arr 1 (List.map Ze r))])
theorem Zny {t0:Bool}{t1:Bool}{a:ZbS}:∀(s0:(List Int)×(List Bool)) (r:((List Int)⊕(List Int))),lp (Zf1 a) s0=some r→lpW ctx 0 [1,4,5] [2,3,4] ZxG [(.ptr 0 0),(.sl 1 1),(.sl 2 1)] [(.cells [(.d (D.list t0 (List.map Ze a.work))),(.d (D.list t1 (List.map ZJ a.edges)))]),(.arr 1 (List.map Ze s0.1)),(.arr 1 (List.map D.bool s0.2))]=some ((Zj6 t0 t1 a) r):=by
 refine Zbe (Zj6 t0 t1 a) ?_
 intro s0 rcl ih
 show Z6 _ _ (lpW _ _ _ _ _ _ _)
 unfold Zf1
 rw[Zbg]
 conv=>arg 3;whnf
 refine Zq (Zal _ _) ?_;conv=>arg 3;whnf
 refine Zq (Zal _ _) ?_;conv=>arg 3;whnf
 refine Zg rfl ?_ ?_<;>conv=>arg 3;whnf
 ·refine Zq (Zal _ _) ?_;conv=>arg 3;whnf
  refine Zc _ (Zni _) fun r7 hr7=>?_
  clear hr7
  rcases r7 with r7 | r7
  ·conv=>arg 3;whnf
   exact Zd (ih _)
  ·conv=>arg 3;whnf
   exact Zh rfl
 ·exact Zh rfl
theorem Zlh {t0:Bool}{t1:Bool}{a:ZbS}:∀r,(Zf3 a)=some r→evD ctx 57 [(.d (D.agg [(D.list t0 (List.map Ze a.work)),(D.list t1 (List.map ZJ a.edges))]))]=some (Zl3 r):=by
 show Z6 _ (fun r rhs=>rhs=some (Zl3 r)) _
 unfold Zf3
 rw[ZcX ctx 57 ZAH _ rfl rfl]
 conv=>arg 3;whnf
 refine Zq (Zal _ _) ?_;conv=>arg 3;whnf
 refine Zg rfl ?_ ?_
 ·conv=>arg 3;whnf
  refine Zq (ZuH D.bool (false:Bool) (a.work.length:Int)) ?_;conv=>arg 3;whnf
  refine Zc _ (Zny _) fun r8 hr8=>?_
  clear hr8
  rcases r8 with r8 | r8
  ·conv=>arg 3;whnf
   exact Zh rfl
  ·conv=>arg 3;whnf
   exact Zh rfl
 ·exact ZbF
def Zl9 (r:Int):D:=(Ze r)
def Zkb (t0:Bool) (t1:Bool) (a:ZbS):(Unit⊕Unit)→Ex×List V×Zp
  | (.inl r)=>(.ret,[(.ptr 0 0),(.d (Ze 42))],[(.cells [(.d (D.list t0 (List.map Ze a.work))),(.d (D.list t1 (List.map ZJ a.edges)))])])
  | (.inr r)=>(.exit 0,[(.ptr 0 0),.bad],[(.cells [(.d (D.list t0 (List.map Ze a.work))),(.d (D.list t1 (List.map ZJ a.edges)))])])
theorem Znz {t0:Bool}{t1:Bool}{a:ZbS}:∀(s1:Int) (r:(Unit⊕Unit)),lp (Zfb a) s1=some r→lpW ctx 0 [1,3,23,24,25] [1,2] Zxx [(.ptr 0 0),(.fn 55 [(.ptr 0 0)]),(.d (D.list t1 (List.map ZJ a.edges))),(.d (Ze (a.edges.length:Int))),(.d (Ze s1))] [(.cells [(.d (D.list t0 (List.map Ze a.work))),(.d (D.list t1 (List.map ZJ a.edges)))])]=some ((Zkb t0 t1 a) r):=by
 refine Zbe (Zkb t0 t1 a) ?_
 intro s1 rcl ih
 show Z6 _ _ (lpW _ _ _ _ _ _ _)
 unfold Zfb
 rw[Zbg]
 conv=>arg 3;whnf
 refine Zg rfl ?_ ?_<;>conv=>arg 3;whnf
 ·refine Zj rfl rfl fun x2 hx2=>?_;conv=>arg 3;whnf
  refine Zs _ Zka rfl fun x3 hx3=>?_;conv=>arg 3;whnf
  refine Zg rfl ?_ ?_<;>conv=>arg 3;whnf
  ·refine Zs _ Zka rfl fun x4 hx4=>?_;conv=>arg 3;whnf
   refine Zg rfl ?_ ?_<;>conv=>arg 3;whnf
   ·refine Zg rfl ?_ ?_<;>conv=>arg 3;whnf
    ·exact Zh rfl
    ·refine Zg rfl ?_ ?_
     ·conv=>arg 3;whnf
      refine Zg (Zxa ZJ a.edges s1.toNat) ?_ ?_
      ·conv=>arg 3;whnf
       refine ZbI rfl ?_;conv=>arg 3;whnf
       refine Zq (ZrT ZJ a.edges s1.toNat) ?_;conv=>arg 3;whnf
       refine Zs _ Zfu rfl fun x5 hx5=>?_;conv=>arg 3;whnf
       refine Zg rfl ?_ ?_<;>conv=>arg 3;whnf
       ·exact Zh rfl
       ·exact Zd (ih _)
      ·exact ZbF
     ·exact ZbF
   ·exact Zh rfl
  ·exact Zh rfl
 ·exact Zh rfl
theorem Zjk {t0:Bool}{t1:Bool}{a:ZbS}:∀r,(ZgM a)=some r→evD ctx 25 [(.d (D.agg [(D.list t0 (List.map Ze a.work)),(D.list t1 (List.map ZJ a.edges))]))]=some (Zl9 r):=by
 show Z6 _ (fun r rhs=>rhs=some (Zl9 r)) _
 unfold ZgM
 rw[ZcX ctx 25 ZAD _ rfl rfl]
 conv=>arg 3;whnf
 refine Zq (Zal _ _) ?_;conv=>arg 3;whnf
 refine Zg rfl ?_ ?_<;>conv=>arg 3;whnf
 ·exact Zh rfl
 ·refine Zq (Zal _ _) ?_;conv=>arg 3;whnf
  refine Zg rfl ?_ ?_<;>conv=>arg 3;whnf
  ·exact Zh rfl
  ·refine Zs _ Zft rfl fun x0 hx0=>?_;conv=>arg 3;whnf
   refine Zg rfl ?_ ?_<;>conv=>arg 3;whnf
   ·exact Zh rfl
   ·refine Zq (Zal _ _) ?_;conv=>arg 3;whnf
    refine Zc _ (Znz _) fun r6 hr6=>?_
    clear hr6
    rcases r6 with r6 | r6
    ·conv=>arg 3;whnf
     exact Zh rfl
    ·conv=>arg 3;whnf
     refine Zs _ Zlh rfl fun x7 hx7=>?_;conv=>arg 3;whnf
     refine Zg rfl ?_ ?_<;>conv=>arg 3;whnf
     ·exact Zh rfl
     ·exact Zh rfl
def ZkW (r:(Ztn×Int)):D:=(D.tup [(D.agg [(D.list true (List.map Ze r.1.dag.work)),(D.list true (List.map ZJ r.1.dag.edges)),(D.list true (List.map ZcF r.1.pieces))]),(Ze r.2)])
def Zjb (t0:Bool) (t1:Bool) (t2:Bool) (t3:Bool) (a:Zn):((List Int)×(List Zo)×(List Zi)×(List (Int×Int))×(List (Int×Int))×(List (Zk×Int)))→Ex×List V×Zp
  | r=>(.exit 0,[(.ptr 0 0),(.ptr 1 0),(.ptr 2 0)],[(.cells (dV t0 t1 t2 t3 a)),(.cells [(.sl 3 1),(.sl 4 2),(.sl 5 2)]),(.cells [(.sl 6 1),(.sl 7 2),(.sl 8 2),(.mp 9),(.mp 10),(.mp 11)]),(.arr 1 []),(.arr 2 []),(.arr 2 []),(.arr 1 (List.map Ze r.1)),(.arr 2 (List.map ZJ r.2.1)),(.arr 2 (List.map ZcF r.2.2.1)),(.mp (mpD Ze Ze r.2.2.2.1)),(.mp (mpD Ze Ze r.2.2.2.2.1)),(.mp (mpD Zt Ze r.2.2.2.2.2))])
theorem ZlV {t0:Bool}{t1:Bool}{t2:Bool}{t3:Bool}{a:Zn}:∀(s1:Int×(List Int)×(List Zo)×(List Zi)×(List (Int×Int))×(List (Int×Int))×(List (Zk×Int))) (r:((List Int)×(List Zo)×(List Zi)×(List (Int×Int))×(List (Int×Int))×(List (Zk×Int)))),lp (Zdr a) s1=some r→lpW ctx 0 [1,2,5,31,32] [1,2,5] Zwe [(.ptr 0 0),(.ptr 1 0),(.ptr 2 0),(.d (Ze (a.parts.length:Int))),(.d (Ze s1.1))] [(.cells (dV t0 t1 t2 t3 a)),(.cells [(.sl 3 1),(.sl 4 2),(.sl 5 2)]),(.cells [(.sl 6 1),(.sl 7 2),(.sl 8 2),(.mp 9),(.mp 10),(.mp 11)]),(.arr 1 []),(.arr 2 []),(.arr 2 []),(.arr 1 (List.map Ze s1.2.1)),(.arr 2 (List.map ZJ s1.2.2.1)),(.arr 2 (List.map ZcF s1.2.2.2.1)),(.mp (mpD Ze Ze s1.2.2.2.2.1)),(.mp (mpD Ze Ze s1.2.2.2.2.2.1)),(.mp (mpD Zt Ze s1.2.2.2.2.2.2))]=some ((Zjb t0 t1 t2 t3 a) r):=by
 refine Zbe (Zjb t0 t1 t2 t3 a) ?_
 intro s1 rcl ih
 show Z6 _ _ (lpW _ _ _ _ _ _ _)
 unfold Zdr
 rw[Zbg]
 conv=>arg 3;whnf
 refine Zg rfl ?_ ?_<;>conv=>arg 3;whnf
 ·refine Zc _ ZkP fun x2 hx2=>?_
  clear hx2
  rcases x2 with x2 | (x2 | x2)
  ·conv=>arg 3;whnf
   exact Zd (ih _)
  ·conv=>arg 3;whnf
   exact Zd (ih _)
  ·conv=>arg 3;whnf
   exact Zd (ih _)
 ·exact Zh rfl
def Zja (t0:Bool) (t1:Bool) (t2:Bool) (t3:Bool) (a:Zn) (r3:((List Int)×(List Zo)×(List Zi)×(List (Int×Int))×(List (Int×Int))×(List (Zk×Int)))):(List Zo)→Ex×List V×Zp
  | r=>(.exit 2,[(.ptr 0 0),(.ptr 1 0),(.ptr 2 0)],[(.cells (dV t0 t1 t2 t3 a)),(.cells [(.sl 3 1),(.sl 4 2),(.sl 5 2)]),(.cells [(.sl 6 1),(.sl 7 2),(.sl 8 2),(.mp 9),(.mp 10),(.mp 11)]),(.arr 1 []),(.arr 2 []),(.arr 2 []),(.arr 1 (List.map Ze r3.1)),(.arr 2 (List.map ZJ r)),(.arr 2 (List.map ZcF r3.2.2.1)),(.mp (mpD Ze Ze r3.2.2.2.1)),(.mp (mpD Ze Ze r3.2.2.2.2.1)),(.mp (mpD Zt Ze r3.2.2.2.2.2))])
theorem ZlU {t0:Bool}{t1:Bool}{t2:Bool}{t3:Bool}{a:Zn}{r3:((List Int)×(List Zo)×(List Zi)×(List (Int×Int))×(List (Int×Int))×(List (Zk×Int)))}:∀(s4:Int×(List Zo)) (r:(List Zo)),lp (ZdR a r3) s4=some r→lpW ctx 0 [1,2,5,41,42,43] [1,2,5] ZwW [(.ptr 0 0),(.ptr 1 0),(.ptr 2 0),(.d (D.list t1 (List.map ZJ a.edges))),(.d (Ze (a.edges.length:Int))),(.d (Ze s4.1))] [(.cells (dV t0 t1 t2 t3 a)),(.cells [(.sl 3 1),(.sl 4 2),(.sl 5 2)]),(.cells [(.sl 6 1),(.sl 7 2),(.sl 8 2),(.mp 9),(.mp 10),(.mp 11)]),(.arr 1 []),(.arr 2 []),(.arr 2 []),(.arr 1 (List.map Ze r3.1)),(.arr 2 (List.map ZJ s4.2)),(.arr 2 (List.map ZcF r3.2.2.1)),(.mp (mpD Ze Ze r3.2.2.2.1)),(.mp (mpD Ze Ze r3.2.2.2.2.1)),(.mp (mpD Zt Ze r3.2.2.2.2.2))]=some ((Zja t0 t1 t2 t3 a r3) r):=by
 refine Zbe (Zja t0 t1 t2 t3 a r3) ?_
 intro s4 rcl ih
 show Z6 _ _ (lpW _ _ _ _ _ _ _)
 unfold ZdR
 rw[Zbg]
 conv=>arg 3;whnf
 refine Zg rfl ?_ ?_<;>conv=>arg 3;whnf
 ·refine Zj rfl rfl fun x5 hx5=>?_;conv=>arg 3;whnf
  refine Zf (Zcu (f:=Ze) (g:=Ze) (fun ka kb:Int=>(ka==kb)) (fun _ _=>rfl) r3.2.2.2.2.1 x5.src 0) ?_;conv=>arg 3;whnf
  refine Zf (Zcu (f:=Ze) (g:=Ze) (fun ka kb:Int=>(ka==kb)) (fun _ _=>rfl) r3.2.2.2.1 x5.dst 0) ?_;conv=>arg 3;whnf
  refine Zc _ Zbc fun x6 hx6=>?_;conv=>arg 3;whnf
  exact Zd (ih _)
 ·exact Zh rfl
def Zjn (t0:Bool) (t1:Bool) (t2:Bool) (t3:Bool) (a:Zn) (r3:((List Int)×(List Zo)×(List Zi)×(List (Int×Int))×(List (Int×Int))×(List (Zk×Int)))):(List Zo)→Ex×List V×Zp
  | r=>(.exit 4,[(.ptr 0 0),(.ptr 1 0),(.ptr 2 0)],[(.cells (dV t0 t1 t2 t3 a)),(.cells [(.sl 3 1),(.sl 4 2),(.sl 5 2)]),(.cells [(.sl 6 1),(.sl 7 2),(.sl 8 2),(.mp 9),(.mp 10),(.mp 11)]),(.arr 1 []),(.arr 2 []),(.arr 2 []),(.arr 1 (List.map Ze r3.1)),(.arr 2 (List.map ZJ r)),(.arr 2 (List.map ZcF r3.2.2.1)),(.mp (mpD Ze Ze r3.2.2.2.1)),(.mp (mpD Ze Ze r3.2.2.2.2.1)),(.mp (mpD Zt Ze r3.2.2.2.2.2))])
theorem ZlS {t0:Bool}{t1:Bool}{t2:Bool}{t3:Bool}{a:Zn}{r3:((List Int)×(List Zo)×(List Zi)×(List (Int×Int))×(List (Int×Int))×(List (Zk×Int)))}:∀(s8:Int×(List Zo)) (r:(List Zo)),lp (ZdT a r3) s8=some r→lpW ctx 0 [1,2,5,65,66,67] [1,2,5] ZwA [(.ptr 0 0),(.ptr 1 0),(.ptr 2 0),(.d (D.list t2 (List.map Zt a.futures))),(.d (Ze (a.futures.length:Int))),(.d (Ze s8.1))] [(.cells (dV t0 t1 t2 t3 a)),(.cells [(.sl 3 1),(.sl 4 2),(.sl 5 2)]),(.cells [(.sl 6 1),(.sl 7 2),(.sl 8 2),(.mp 9),(.mp 10),(.mp 11)]),(.arr 1 []),(.arr 2 []),(.arr 2 []),(.arr 1 (List.map Ze r3.1)),(.arr 2 (List.map ZJ s8.2)),(.arr 2 (List.map ZcF r3.2.2.1)),(.mp (mpD Ze Ze r3.2.2.2.1)),(.mp (mpD Ze Ze r3.2.2.2.2.1)),(.mp (mpD Zt Ze r3.2.2.2.2.2))]=some ((Zjn t0 t1 t2 t3 a r3) r):=by
 refine Zbe (Zjn t0 t1 t2 t3 a r3) ?_
 intro s8 rcl ih
 show Z6 _ _ (lpW _ _ _ _ _ _ _)
 unfold ZdT
 rw[Zbg]
 conv=>arg 3;whnf
 refine Zg rfl ?_ ?_<;>conv=>arg 3;whnf
 ·refine Zj rfl rfl fun x9 hx9=>?_;conv=>arg 3;whnf
  refine Zf (Zcu (f:=Ze) (g:=Ze) (fun ka kb:Int=>(ka==kb)) (fun _ _=>rfl) r3.2.2.2.2.1 x9.maker 0) ?_;conv=>arg 3;whnf
  refine Zf (Zcu (f:=Zt) (g:=Ze) (fun ka kb:Zk=>((ka.maker==kb.maker)&&((ka.user==kb.user)&&((ka.pos==kb.pos)&&true)))) (fun _ _=>rfl) r3.2.2.2.2.2 x9 0) ?_;conv=>arg 3;whnf
  refine Zc _ Zbc fun x10 hx10=>?_;conv=>arg 3;whnf
  exact Zd (ih _)
 ·exact Zh rfl
def Zjo (t3:Bool) (a:Zn) (r3:((List Int)×(List Zo)×(List Zi)×(List (Int×Int))×(List (Int×Int))×(List (Zk×Int)))) (s12:Int×(List Int)×(List Zo)×(List Zi)) (x13:Zu):(List Zo)→Ex×List V×Zp
  | r=>(.exit 8,[(.ptr 0 0),(.ptr 1 0),(.ptr 2 0),(.d (Ze (w64 ((List.length (s12.2.2.2++[(Zi.mk (-1) s12.1)]):Int)-1)))),(.d (D.list t3 (List.map ZA a.barriers))),(.d (Ze (a.barriers.length:Int))),(.d (Ze s12.1))],[(.cells [(.sl 3 1),(.sl 4 2),(.sl 5 2)]),(.cells [(.sl 6 1),(.sl 7 2),(.sl 8 2),(.mp 9),(.mp 10),(.mp 11)]),(.cells [(.d (D.list true (List.map Ze x13.ins))),(.d (D.list true (List.map Ze x13.outs)))]),(.arr 1 []),(.arr 2 []),(.arr 2 []),(.arr 1 (List.map Ze (s12.2.1++[1]))),(.arr 2 (List.map ZJ r)),(.arr 2 (List.map ZcF (s12.2.2.2++[(Zi.mk (-1) s12.1)]))),(.mp (mpD Ze Ze r3.2.2.2.1)),(.mp (mpD Ze Ze r3.2.2.2.2.1)),(.mp (mpD Zt Ze r3.2.2.2.2.2))])
theorem ZlT {t3:Bool}{a:Zn}{r3:((List Int)×(List Zo)×(List Zi)×(List (Int×Int))×(List (Int×Int))×(List (Zk×Int)))}{s12:Int×(List Int)×(List Zo)×(List Zi)}{x13:Zu}:∀(s15:Int×(List Zo)) (r:(List Zo)),lp (ZeP r3 s12 x13) s15=some r→lpW ctx 0 [2,5,12,13,88,89,90,100,101,102] [2,5,12,13,88,89,90] Zyj [(.ptr 0 0),(.ptr 1 0),(.ptr 2 0),(.d (Ze (w64 ((List.length (s12.2.2.2++[(Zi.mk (-1) s12.1)]):Int)-1)))),(.d (D.list t3 (List.map ZA a.barriers))),(.d (Ze (a.barriers.length:Int))),(.d (Ze s12.1)),(.d (D.list true (List.map Ze x13.ins))),(.d (Ze (x13.ins.length:Int))),(.d (Ze s15.1))] [(.cells [(.sl 3 1),(.sl 4 2),(.sl 5 2)]),(.cells [(.sl 6 1),(.sl 7 2),(.sl 8 2),(.mp 9),(.mp 10),(.mp 11)]),(.cells [(.d (D.list true (List.map Ze x13.ins))),(.d (D.list true (List.map Ze x13.outs)))]),(.arr 1 []),(.arr 2 []),(.arr 2 []),(.arr 1 (List.map Ze (s12.2.1++[1]))),(.arr 2 (List.map ZJ s15.2)),(.arr 2 (List.map ZcF (s12.2.2.2++[(Zi.mk (-1) s12.1)]))),(.mp (mpD Ze Ze r3.2.2.2.1)),(.mp (mpD Ze Ze r3.2.2.2.2.1)),(.mp (mpD Zt Ze r3.2.2.2.2.2))]=some ((Zjo t3 a r3 s12 x13) r):=by
 refine Zbe (Zjo t3 a r3 s12 x13) ?_
 intro s15 rcl ih
 show Z6 _ _ (lpW _ _ _ _ _ _ _)
 unfold ZeP
 rw[Zbg]
 conv=>arg 3;whnf
 refine Zg rfl ?_ ?_<;>conv=>arg 3;whnf
 ·refine Zj rfl rfl fun x16 hx16=>?_;conv=>arg 3;whnf
  refine Zf (Zcu (f:=Ze) (g:=Ze) (fun ka kb:Int=>(ka==kb)) (fun _ _=>rfl) r3.2.2.2.2.1 x16 0) ?_;conv=>arg 3;whnf
  refine Zc _ Zbc fun x17 hx17=>?_;conv=>arg 3;whnf
  exact Zd (ih _)
 ·exact Zh rfl
def Zjj (t3:Bool) (a:Zn) (r3:((List Int)×(List Zo)×(List Zi)×(List (Int×Int))×(List (Int×Int))×(List (Zk×Int)))) (s12:Int×(List Int)×(List Zo)×(List Zi)) (x13:Zu):(List Zo)→Ex×List V×Zp
  | r=>(.exit 10,[(.ptr 0 0),(.ptr 1 0),(.d (D.list t3 (List.map ZA a.barriers))),(.d (Ze (a.barriers.length:Int))),(.d (Ze s12.1))],[(.cells [(.sl 2 1),(.sl 3 2),(.sl 4 2)]),(.cells [(.sl 5 1),(.sl 6 2),(.sl 7 2),(.mp 8),(.mp 9),(.mp 10)]),(.arr 1 []),(.arr 2 []),(.arr 2 []),(.arr 1 (List.map Ze (s12.2.1++[1]))),(.arr 2 (List.map ZJ r)),(.arr 2 (List.map ZcF (s12.2.2.2++[(Zi.mk (-1) s12.1)]))),(.mp (mpD Ze Ze r3.2.2.2.1)),(.mp (mpD Ze Ze r3.2.2.2.2.1)),(.mp (mpD Zt Ze r3.2.2.2.2.2))])
theorem ZlW {t3:Bool}{a:Zn}{r3:((List Int)×(List Zo)×(List Zi)×(List (Int×Int))×(List (Int×Int))×(List (Zk×Int)))}{s12:Int×(List Int)×(List Zo)×(List Zi)}{x13:Zu}:∀(s19:Int×(List Zo)) (r:(List Zo)),lp (ZeQ r3 s12 x13) s19=some r→lpW ctx 0 [2,5,13,88,89,90,117,118,119] [2,5,88,89,90] ZwT [(.ptr 0 0),(.ptr 1 0),(.d (Ze (w64 ((List.length (s12.2.2.2++[(Zi.mk (-1) s12.1)]):Int)-1)))),(.d (D.list t3 (List.map ZA a.barriers))),(.d (Ze (a.barriers.length:Int))),(.d (Ze s12.1)),(.d (D.list true (List.map Ze x13.outs))),(.d (Ze (x13.outs.length:Int))),(.d (Ze s19.1))] [(.cells [(.sl 2 1),(.sl 3 2),(.sl 4 2)]),(.cells [(.sl 5 1),(.sl 6 2),(.sl 7 2),(.mp 8),(.mp 9),(.mp 10)]),(.arr 1 []),(.arr 2 []),(.arr 2 []),(.arr 1 (List.map Ze (s12.2.1++[1]))),(.arr 2 (List.map ZJ s19.2)),(.arr 2 (List.map ZcF (s12.2.2.2++[(Zi.mk (-1) s12.1)]))),(.mp (mpD Ze Ze r3.2.2.2.1)),(.mp (mpD Ze Ze r3.2.2.2.2.1)),(.mp (mpD Zt Ze r3.2.2.2.2.2))]=some ((Zjj t3 a r3 s12 x13) r):=by
 refine Zbe (Zjj t3 a r3 s12 x13) ?_
 intro s19 rcl ih
 show Z6 _ _ (lpW _ _ _ _ _ _ _)
 unfold ZeQ
 rw[Zbg]
 conv=>arg 3;whnf
 refine Zg rfl ?_ ?_<;>conv=>arg 3;whnf
 ·refine Zj rfl rfl fun x20 hx20=>?_;conv=>arg 3;whnf
  refine Zf (Zcu (f:=Ze) (g:=Ze) (fun ka kb:Int=>(ka==kb)) (fun _ _=>rfl) r3.2.2.2.1 x20 0) ?_;conv=>arg 3;whnf
  refine Zc _ Zbc fun x21 hx21=>?_;conv=>arg 3;whnf
  exact Zd (ih _)
 ·exact Zh rfl
def Zjh (t3:Bool) (a:Zn) (r3:((List Int)×(List Zo)×(List Zi)×(List (Int×Int))×(List (Int×Int))×(List (Zk×Int)))):((List Int)×(List Zo)×(List Zi))→Ex×List V×Zp
  | r=>(.exit 6,[(.ptr 0 0),(.ptr 1 0)],[(.cells [(.sl 2 1),(.sl 3 2),(.sl 4 2)]),(.cells [(.sl 5 1),(.sl 6 2),(.sl 7 2),(.mp 8),(.mp 9),(.mp 10)]),(.arr 1 []),(.arr 2 []),(.arr 2 []),(.arr 1 (List.map Ze r.1)),(.arr 2 (List.map ZJ r.2.1)),(.arr 2 (List.map ZcF r.2.2)),(.mp (mpD Ze Ze r3.2.2.2.1)),(.mp (mpD Ze Ze r3.2.2.2.2.1)),(.mp (mpD Zt Ze r3.2.2.2.2.2))])
theorem ZlX {t3:Bool}{a:Zn}{r3:((List Int)×(List Zo)×(List Zi)×(List (Int×Int))×(List (Int×Int))×(List (Zk×Int)))}:∀(s12:Int×(List Int)×(List Zo)×(List Zi)) (r:((List Int)×(List Zo)×(List Zi))),lp (ZdS a r3) s12=some r→lpW ctx 0 [2,5,88,89,90] [2,5] Zwc [(.ptr 0 0),(.ptr 1 0),(.d (D.list t3 (List.map ZA a.barriers))),(.d (Ze (a.barriers.length:Int))),(.d (Ze s12.1))] [(.cells [(.sl 2 1),(.sl 3 2),(.sl 4 2)]),(.cells [(.sl 5 1),(.sl 6 2),(.sl 7 2),(.mp 8),(.mp 9),(.mp 10)]),(.arr 1 []),(.arr 2 []),(.arr 2 []),(.arr 1 (List.map Ze s12.2.1)),(.arr 2 (List.map ZJ s12.2.2.1)),(.arr 2 (List.map ZcF s12.2.2.2)),(.mp (mpD Ze Ze r3.2.2.2.1)),(.mp (mpD Ze Ze r3.2.2.2.2.1)),(.mp (mpD Zt Ze r3.2.2.2.2.2))]=some ((Zjh t3 a r3) r):=by
 refine Zbe (Zjh t3 a r3) ?_
 intro s12 rcl ih
 show Z6 _ _ (lpW _ _ _ _ _ _ _)
 unfold ZdS
 rw[Zbg]
 conv=>arg 3;whnf
 refine Zg rfl ?_ ?_<;>conv=>arg 3;whnf
 ·refine Zj rfl rfl fun x13 hx13=>?_;conv=>arg 3;whnf
  refine Zc _ Zbs fun x14 hx14=>?_;conv=>arg 3;whnf
  refine Zq (Zal _ _) ?_;conv=>arg 3;whnf
  refine Zc _ (ZlT _) fun r18 hr18=>?_;conv=>arg 3;whnf
  refine Zq (Zal _ _) ?_;conv=>arg 3;whnf
  refine Zc _ (ZlW _) fun r22 hr22=>?_;conv=>arg 3;whnf
  exact Zd (ih _)
 ·exact Zh rfl
theorem Zkh {t0:Bool}{t1:Bool}{t2:Bool}{t3:Bool}{a:Zn}:∀r,(Zgl a)=some r→evD ctx 16 [(.d (D.agg (dA t0 t1 t2 t3 a)))]=some (ZkW r):=by
 show Z6 _ (fun r rhs=>rhs=some (ZkW r)) _
 unfold Zgl
 rw[ZcX ctx 16 ZAP _ rfl rfl]
 conv=>arg 3;whnf
 refine Zs _ ZkZ rfl fun x0 hx0=>?_;conv=>arg 3;whnf
 refine Zg rfl ?_ ?_<;>conv=>arg 3;whnf
 ·exact Zh rfl
 ·refine Zq (Zal _ _) ?_;conv=>arg 3;whnf
  refine Zc _ (ZlV _) fun r3 hr3=>?_;conv=>arg 3;whnf
  refine Zq (Zal _ _) ?_;conv=>arg 3;whnf
  refine Zc _ (ZlU _) fun r7 hr7=>?_;conv=>arg 3;whnf
  refine Zq (Zal _ _) ?_;conv=>arg 3;whnf
  refine Zc _ (ZlS _) fun r11 hr11=>?_;conv=>arg 3;whnf
  refine Zq (Zal _ _) ?_;conv=>arg 3;whnf
  refine Zc _ (ZlX _) fun r23 hr23=>?_;conv=>arg 3;whnf
  refine Zs _ Zjk rfl fun x24 hx24=>?_;conv=>arg 3;whnf
  refine Zg rfl ?_ ?_<;>conv=>arg 3;whnf
  ·exact Zh rfl
  ·exact Zh rfl
def Zma (r:(List Int)):D:=(D.list true (List.map Ze r))
theorem ZoO {t0:Bool}{t1:Bool}{a:ZbS}:∀r,(Zim a)=some r→evD ctx 58 [(.d (D.agg [(D.list t0 (List.map Ze a.work)),(D.list t1 (List.map ZJ a.edges))]))]=some (Zma r):=by
 show Z6 _ (fun r rhs=>rhs=some (Zma r)) _
 unfold Zim
 rw[ZcX ctx 58 ZAf _ rfl rfl]
 conv=>arg 3;whnf
 refine Zs _ Zjk rfl fun x0 hx0=>?_;conv=>arg 3;whnf
 refine Zg rfl ?_ ?_<;>conv=>arg 3;whnf
 ·exact Zh rfl
 ·refine Zs _ Zlh rfl fun x1 hx1=>?_;conv=>arg 3;whnf
  refine Zg rfl ?_ ?_<;>conv=>arg 3;whnf
  ·exact Zh rfl
  ·exact Zh rfl
def Zk1 (r:(Int×Bool)):D:=(D.tup [(Ze r.1),(D.bool r.2)])
theorem ZnP {a:Zo}{b0:Int}:∀r,(Zfz a b0)=some r→evD ctx 104 [(.d (D.agg [(Ze a.src),(Ze a.dst)])),(.d (D.rptr [(Ze b0)]))]=some (Zk1 r):=by
 show Z6 _ (fun r rhs=>rhs=some (Zk1 r)) _
 unfold Zfz
 rw[ZcX ctx 104 ZwO _ rfl rfl]
 conv=>arg 3;whnf
 refine Zg rfl ?_ ?_<;>conv=>arg 3;whnf
 ·exact Zh rfl
 ·exact Zh rfl
def ZjA (r:Bool):D:=(D.bool r)
theorem Zi8 {a:Int}:∀r,(Zgd a)=some r→evD ctx 169 [(.d (Ze a))]=some (ZjA r):=by
 show Z6 _ (fun r rhs=>rhs=some (ZjA r)) _
 unfold Zgd
 rw[ZcX ctx 169 Zxl _ rfl rfl]
 conv=>arg 3;whnf
 refine Zg rfl ?_ ?_<;>conv=>arg 3;whnf
 ·exact Zh rfl
 ·exact Zh rfl
def Zkc (r:Bool):D:=(D.bool r)
theorem Z2 {a:Int}{b:Int}:∀r,(Z8 a b)=some r→evD ctx 158 [(.d (Ze a)),(.d (Ze b))]=some (Zkc r):=by
 show Z6 _ (fun r rhs=>rhs=some (Zkc r)) _
 unfold Z8
 rw[ZcX ctx 158 Zw1 _ rfl rfl]
 conv=>arg 3;whnf
 refine Zs _ Zi8 rfl fun x0 hx0=>?_;conv=>arg 3;whnf
 refine Zg rfl ?_ ?_<;>conv=>arg 3;whnf
 ·refine Zs _ Zi8 rfl fun x1 hx1=>?_;conv=>arg 3;whnf
  refine Zg rfl ?_ ?_<;>conv=>arg 3;whnf
  ·refine Zg rfl ?_ ?_<;>conv=>arg 3;whnf
   ·exact Zh rfl
   ·exact Zh rfl
  ·exact Zh rfl
 ·refine Zg rfl ?_ ?_<;>conv=>arg 3;whnf
  ·exact Zh rfl
  ·exact Zh rfl
def ZeL (b:Int) (c:Int) (m0_0:(List Int)):(List Int)→V×Zp
  | r=>((.d (D.tup [])),[(.arr 1 (List.map Ze r))])
def Zd5 (b:Int) (c:Int) (s0:Int×(List Int)):(List Int)→Ex×List V×Zp
  | r=>(.exit 2,[(.sl 0 1),(.d (Ze b)),(.d (Ze c)),(.d (Ze s0.1))],[(.arr 1 (List.map Ze r))])
theorem ZgA {b:Int}{c:Int}{s0:Int×(List Int)}:∀(s1:Int×(List Int)) (r:(List Int)),lp (Zbp b) s1=some r→lpW ctx 1 [0,1,2,6,7] [0,1,2,6] Zu5 [(.sl 0 1),(.d (Ze b)),(.d (Ze c)),(.d (Ze s0.1)),(.d (Ze s1.1))] [(.arr 1 (List.map Ze s1.2))]=some ((Zd5 b c s0) r):=by
 refine Zbe (Zd5 b c s0) ?_
 intro s1 rcl ih
 show Z6 _ _ (lpW _ _ _ _ _ _ _)
 unfold Zbp
 rw[Zbg]
 conv=>arg 3;whnf
 refine Zg rfl ?_ ?_<;>conv=>arg 3;whnf
 ·refine Zj rfl rfl fun x2 hx2=>?_;conv=>arg 3;whnf
  refine Zf (Zl rfl hx2) ?_;conv=>arg 3;whnf
  refine Zj rfl rfl fun x3 hx3=>?_;conv=>arg 3;whnf
  refine Zf (Zl rfl hx3) ?_;conv=>arg 3;whnf
  refine Zs _ Z2 rfl fun x4 hx4=>?_;conv=>arg 3;whnf
  refine Zg rfl ?_ ?_<;>conv=>arg 3;whnf
  ·refine Zf (Zay rfl hx3) ?_;conv=>arg 3;whnf
   refine Zf (Zl rfl hx3) ?_;conv=>arg 3;whnf
   refine Zf (Zay rfl hx2) ?_;conv=>arg 3;whnf
   refine Zf (Zl rfl hx2) ?_;conv=>arg 3;whnf
   refine Zf (Zay rfl hx2) ?_;conv=>arg 3;whnf
   refine Zf (Zl rfl hx2) ?_;conv=>arg 3;whnf
   refine Zq (ZZ Ze s1.2 s1.1.toNat x3) ?_;conv=>arg 3;whnf
   refine Zj rfl rfl fun x5 hx5=>?_;conv=>arg 3;whnf
   refine Zf (Zl rfl hx5) ?_;conv=>arg 3;whnf
   refine Zq (ZZ Ze (List.set s1.2 s1.1.toNat x3) (w64 (s1.1-1)).toNat x2) ?_;conv=>arg 3;whnf
   exact Zd (ih _)
  ·exact Zh rfl
 ·exact Zh rfl
def Zd3 (b:Int) (c:Int):(List Int)→Ex×List V×Zp
  | r=>(.exit 0,[],[(.arr 1 (List.map Ze r))])
theorem ZgC {b:Int}{c:Int}:∀(s0:Int×(List Int)) (r:(List Int)),lp (Zbo b c) s0=some r→lpW ctx 1 [0,1,2,6] [] Zum [(.sl 0 1),(.d (Ze b)),(.d (Ze c)),(.d (Ze s0.1))] [(.arr 1 (List.map Ze s0.2))]=some ((Zd3 b c) r):=by
 refine Zbe (Zd3 b c) ?_
 intro s0 rcl ih
 show Z6 _ _ (lpW _ _ _ _ _ _ _)
 unfold Zbo
 rw[Zbg]
 conv=>arg 3;whnf
 refine Zg rfl ?_ ?_<;>conv=>arg 3;whnf
 ·refine Zc _ (ZgA _) fun r6 hr6=>?_;conv=>arg 3;whnf
  exact Zd (ih _)
 ·exact Zh rfl
theorem Zb1 {b:Int}{c:Int}{m0_0:(List Int)}:∀r,(Zat b c m0_0)=some r→evW ctx 152 [(.sl 0 1),(.d (Ze b)),(.d (Ze c))] [(.arr 1 (List.map Ze m0_0))]=some ((ZeL b c m0_0) r):=by
 show Z6 _ (fun r rhs=>rhs=some ((ZeL b c m0_0) r)) _
 unfold Zat
 rw[Zeh ctx 152 Zxm _ _ rfl rfl]
 conv=>arg 3;whnf
 refine Zc _ (ZgC _) fun r7 hr7=>?_;conv=>arg 3;whnf
 exact Zh rfl
def ZfV (b:Int) (c:Int) (d:Int) (m0_0:(List Int)):(List Int)→V×Zp
  | r=>((.d (D.tup [])),[(.arr 1 (List.map Ze r))])
def Zfd (c:Int) (d:Int):((List Int)⊕(List Int))→Ex×List V×Zp
  | (.inl r)=>(.exit 0,[],[(.arr 1 (List.map Ze r))])
  | (.inr r)=>(.ret,[],[(.arr 1 (List.map Ze r))])
theorem Zhp {c:Int}{d:Int}:∀(s0:Int×(List Int)) (r:((List Int)⊕(List Int))),lp (ZbW c d) s0=some r→lpW ctx 1 [0,2,3,8] [] Zvb [(.sl 0 1),(.d (Ze c)),(.d (Ze d)),(.d (Ze s0.1))] [(.arr 1 (List.map Ze s0.2))]=some ((Zfd c d) r):=by
 refine Zbe (Zfd c d) ?_
 intro s0 rcl ih
 show Z6 _ _ (lpW _ _ _ _ _ _ _)
 unfold ZbW
 rw[Zbg]
 conv=>arg 3;whnf
 refine Zg rfl ?_ ?_<;>conv=>arg 3;whnf
 ·exact Zh rfl
 ·refine Zg rfl ?_ ?_<;>conv=>arg 3;whnf
  ·refine Zj rfl rfl fun x1 hx1=>?_;conv=>arg 3;whnf
   refine Zf (Zl rfl hx1) ?_;conv=>arg 3;whnf
   refine Zj rfl rfl fun x2 hx2=>?_;conv=>arg 3;whnf
   refine Zf (Zl rfl hx2) ?_;conv=>arg 3;whnf
   refine Zs _ Z2 rfl fun x3 hx3=>?_;conv=>arg 3;whnf
   refine Zg rfl ?_ ?_<;>conv=>arg 3;whnf
   ·refine Zj rfl rfl fun x4 hx4=>?_;conv=>arg 3;whnf
    refine Zf (Zl rfl hx4) ?_;conv=>arg 3;whnf
    refine Zj rfl rfl fun x5 hx5=>?_;conv=>arg 3;whnf
    refine Zf (Zl rfl hx5) ?_;conv=>arg 3;whnf
    refine Zs _ Z2 rfl fun x6 hx6=>?_;conv=>arg 3;whnf
    refine Zg rfl ?_ ?_<;>conv=>arg 3;whnf
    ·refine Zf (Zay rfl hx5) ?_;conv=>arg 3;whnf
     refine Zf (Zl rfl hx5) ?_;conv=>arg 3;whnf
     refine Zf (Zay rfl hx4) ?_;conv=>arg 3;whnf
     refine Zf (Zl rfl hx4) ?_;conv=>arg 3;whnf
     refine Zf (Zay rfl hx4) ?_;conv=>arg 3;whnf
     refine Zf (Zl rfl hx4) ?_;conv=>arg 3;whnf
     refine Zq (ZZ Ze s0.2 (w64 (d+s0.1)).toNat x5) ?_;conv=>arg 3;whnf
     refine Zj rfl rfl fun x7 hx7=>?_;conv=>arg 3;whnf
     refine Zf (Zl rfl hx7) ?_;conv=>arg 3;whnf
     refine Zq (ZZ Ze (List.set s0.2 (w64 (d+s0.1)).toNat x5) (w64 (d+(w64 ((w64 ((w64 (2*s0.1))+1))+1)))).toNat x4) ?_;conv=>arg 3;whnf
     exact Zd (ih _)
    ·exact Zh rfl
   ·refine Zj rfl rfl fun x8 hx8=>?_;conv=>arg 3;whnf
    refine Zf (Zl rfl hx8) ?_;conv=>arg 3;whnf
    refine Zf (Zay rfl hx1) ?_;conv=>arg 3;whnf
    refine Zf (Zl rfl hx1) ?_;conv=>arg 3;whnf
    refine Zs _ Z2 rfl fun x9 hx9=>?_;conv=>arg 3;whnf
    refine Zg rfl ?_ ?_<;>conv=>arg 3;whnf
    ·refine Zf (Zay rfl hx1) ?_;conv=>arg 3;whnf
     refine Zf (Zl rfl hx1) ?_;conv=>arg 3;whnf
     refine Zf (Zay rfl hx8) ?_;conv=>arg 3;whnf
     refine Zf (Zl rfl hx8) ?_;conv=>arg 3;whnf
     refine Zf (Zay rfl hx8) ?_;conv=>arg 3;whnf
     refine Zf (Zl rfl hx8) ?_;conv=>arg 3;whnf
     refine Zq (ZZ Ze s0.2 (w64 (d+s0.1)).toNat x1) ?_;conv=>arg 3;whnf
     refine Zj rfl rfl fun x10 hx10=>?_;conv=>arg 3;whnf
     refine Zf (Zl rfl hx10) ?_;conv=>arg 3;whnf
     refine Zq (ZZ Ze (List.set s0.2 (w64 (d+s0.1)).toNat x1) (w64 (d+(w64 ((w64 (2*s0.1))+1)))).toNat x8) ?_;conv=>arg 3;whnf
     exact Zd (ih _)
    ·exact Zh rfl
  ·refine Zj rfl rfl fun x11 hx11=>?_;conv=>arg 3;whnf
   refine Zf (Zl rfl hx11) ?_;conv=>arg 3;whnf
   refine Zj rfl rfl fun x12 hx12=>?_;conv=>arg 3;whnf
   refine Zf (Zl rfl hx12) ?_;conv=>arg 3;whnf
   refine Zs _ Z2 rfl fun x13 hx13=>?_;conv=>arg 3;whnf
   refine Zg rfl ?_ ?_<;>conv=>arg 3;whnf
   ·refine Zf (Zay rfl hx12) ?_;conv=>arg 3;whnf
    refine Zf (Zl rfl hx12) ?_;conv=>arg 3;whnf
    refine Zf (Zay rfl hx11) ?_;conv=>arg 3;whnf
    refine Zf (Zl rfl hx11) ?_;conv=>arg 3;whnf
    refine Zf (Zay rfl hx11) ?_;conv=>arg 3;whnf
    refine Zf (Zl rfl hx11) ?_;conv=>arg 3;whnf
    refine Zq (ZZ Ze s0.2 (w64 (d+s0.1)).toNat x12) ?_;conv=>arg 3;whnf
    refine Zj rfl rfl fun x14 hx14=>?_;conv=>arg 3;whnf
    refine Zf (Zl rfl hx14) ?_;conv=>arg 3;whnf
    refine Zq (ZZ Ze (List.set s0.2 (w64 (d+s0.1)).toNat x12) (w64 (d+(w64 ((w64 (2*s0.1))+1)))).toNat x11) ?_;conv=>arg 3;whnf
    exact Zd (ih _)
   ·exact Zh rfl
theorem ZfJ {b:Int}{c:Int}{d:Int}{m0_0:(List Int)}:∀r,(ZbE b c d m0_0)=some r→evW ctx 166 [(.sl 0 1),(.d (Ze b)),(.d (Ze c)),(.d (Ze d))] [(.arr 1 (List.map Ze m0_0))]=some ((ZfV b c d m0_0) r):=by
 show Z6 _ (fun r rhs=>rhs=some ((ZfV b c d m0_0) r)) _
 unfold ZbE
 rw[Zeh ctx 166 ZwI _ _ rfl rfl]
 conv=>arg 3;whnf
 refine Zc _ (Zhp _) fun r15 hr15=>?_
 clear hr15
 rcases r15 with r15 | r15
 ·conv=>arg 3;whnf
  exact Zh rfl
 ·conv=>arg 3;whnf
  exact Zh rfl
def Zf2 (b:Int) (c:Int) (m0_0:(List Int)):(List Int)→V×Zp
  | r=>((.d (D.tup [])),[(.arr 1 (List.map Ze r))])
def Zff (b:Int) (c:Int):(List Int)→Ex×List V×Zp
  | r=>(.exit 0,[(.sl 0 1),(.d (Ze b)),(.d (Ze 0)),(.d (Ze (w64 (c-b))))],[(.arr 1 (List.map Ze r))])
theorem Zht {b:Int}{c:Int}:∀(s0:Int×(List Int)) (r:(List Int)),lp (ZbT b c) s0=some r→lpW ctx 1 [0,6,7,8,9] [0,6,7,8] Zt2 [(.sl 0 1),(.d (Ze b)),(.d (Ze 0)),(.d (Ze (w64 (c-b)))),(.d (Ze s0.1))] [(.arr 1 (List.map Ze s0.2))]=some ((Zff b c) r):=by
 refine Zbe (Zff b c) ?_
 intro s0 rcl ih
 show Z6 _ _ (lpW _ _ _ _ _ _ _)
 unfold ZbT
 rw[Zbg]
 conv=>arg 3;whnf
 refine Zg rfl ?_ ?_<;>conv=>arg 3;whnf
 ·refine Zc _ ZfJ fun x1 hx1=>?_;conv=>arg 3;whnf
  exact Zd (ih _)
 ·exact Zh rfl
def Zfg (b:Int):(List Int)→Ex×List V×Zp
  | r=>(.exit 2,[],[(.arr 1 (List.map Ze r))])
theorem Zhs {b:Int}:∀(s3:Int×(List Int)) (r:(List Int)),lp (ZbV b) s3=some r→lpW ctx 1 [0,6,7,10] [] ZuL [(.sl 0 1),(.d (Ze b)),(.d (Ze 0)),(.d (Ze s3.1))] [(.arr 1 (List.map Ze s3.2))]=some ((Zfg b) r):=by
 refine Zbe (Zfg b) ?_
 intro s3 rcl ih
 show Z6 _ _ (lpW _ _ _ _ _ _ _)
 unfold ZbV
 rw[Zbg]
 conv=>arg 3;whnf
 refine Zg rfl ?_ ?_<;>conv=>arg 3;whnf
 ·refine Zj rfl rfl fun x4 hx4=>?_;conv=>arg 3;whnf
  refine Zf (Zl rfl hx4) ?_;conv=>arg 3;whnf
  refine Zj rfl rfl fun x5 hx5=>?_;conv=>arg 3;whnf
  refine Zf (Zl rfl hx5) ?_;conv=>arg 3;whnf
  refine Zf (Zay rfl hx5) ?_;conv=>arg 3;whnf
  refine Zf (Zl rfl hx5) ?_;conv=>arg 3;whnf
  refine Zq (ZZ Ze s3.2 b.toNat x4) ?_;conv=>arg 3;whnf
  refine Zj rfl rfl fun x6 hx6=>?_;conv=>arg 3;whnf
  refine Zf (Zl rfl hx6) ?_;conv=>arg 3;whnf
  refine Zq (ZZ Ze (List.set s3.2 b.toNat x4) (w64 (b+s3.1)).toNat x5) ?_;conv=>arg 3;whnf
  refine Zc _ ZfJ fun x7 hx7=>?_;conv=>arg 3;whnf
  exact Zd (ih _)
 ·exact Zh rfl
theorem ZcB {b:Int}{c:Int}{m0_0:(List Int)}:∀r,(Za3 b c m0_0)=some r→evW ctx 153 [(.sl 0 1),(.d (Ze b)),(.d (Ze c))] [(.arr 1 (List.map Ze m0_0))]=some ((Zf2 b c m0_0) r):=by
 show Z6 _ (fun r rhs=>rhs=some ((Zf2 b c m0_0) r)) _
 unfold Za3
 rw[Zeh ctx 153 ZwU _ _ rfl rfl]
 conv=>arg 3;whnf
 refine ZQ rfl ?_;conv=>arg 3;whnf
 refine Zc _ (Zht _) fun r2 hr2=>?_;conv=>arg 3;whnf
 refine Zc _ (Zhs _) fun r8 hr8=>?_;conv=>arg 3;whnf
 exact Zh rfl
def Zgc (b:Int) (c:Int) (m0_0:(List Int)) (m1_0:Int):(Int×Int×Int)→V×Zp
  | r=>((.d (D.tup [(Ze r.1),(Ze r.2.1)])),[(.arr 1 (List.map Ze m0_0)),(.cells [(.d (Ze r.2.2))])])
theorem Zd2 {b:Int}{c:Int}{m0_0:(List Int)}{m1_0:Int}:∀r,(Zbw b c m0_0 m1_0)=some r→evW ctx 171 [(.sl 0 1),(.d (Ze b)),(.d (Ze c)),(.ptr 1 0)] [(.arr 1 (List.map Ze m0_0)),(.cells [(.d (Ze m1_0))])]=some ((Zgc b c m0_0 m1_0) r):=by
 show Z6 _ (fun r rhs=>rhs=some ((Zgc b c m0_0 m1_0) r)) _
 unfold Zbw
 rw[Zeh ctx 171 ZwP _ _ rfl rfl]
 conv=>arg 3;whnf
 refine Zj rfl rfl fun x0 hx0=>?_;conv=>arg 3;whnf
 refine Zf (Zl rfl hx0) ?_;conv=>arg 3;whnf
 refine Zj rfl rfl fun x1 hx1=>?_;conv=>arg 3;whnf
 refine Zf (Zl rfl hx1) ?_;conv=>arg 3;whnf
 refine Zs _ Z2 rfl fun x2 hx2=>?_;conv=>arg 3;whnf
 refine Zg rfl ?_ ?_<;>conv=>arg 3;whnf
 ·exact Zh rfl
 ·exact Zh rfl
def Zgg (b:Int) (c:Int) (d:Int) (m0_0:(List Int)) (m1_0:Int):(Int×Int)→V×Zp
  | r=>((.d (Ze r.1)),[(.arr 1 (List.map Ze m0_0)),(.cells [(.d (Ze r.2))])])
theorem Zd6 {b:Int}{c:Int}{d:Int}{m0_0:(List Int)}{m1_0:Int}:∀r,(Zbx b c d m0_0 m1_0)=some r→evW ctx 168 [(.sl 0 1),(.d (Ze b)),(.d (Ze c)),(.d (Ze d)),(.ptr 1 0)] [(.arr 1 (List.map Ze m0_0)),(.cells [(.d (Ze m1_0))])]=some ((Zgg b c d m0_0 m1_0) r):=by
 show Z6 _ (fun r rhs=>rhs=some ((Zgg b c d m0_0 m1_0) r)) _
 unfold Zbx
 rw[Zeh ctx 168 Zyf _ _ rfl rfl]
 conv=>arg 3;whnf
 refine Zc _ Zd2 fun x0 hx0=>?_;conv=>arg 3;whnf
 refine Zc _ Zd2 fun x1 hx1=>?_;conv=>arg 3;whnf
 refine Zc _ Zd2 fun x2 hx2=>?_;conv=>arg 3;whnf
 exact Zh rfl
def Zew (b:Int) (m0_0:(List Int)) (m1_0:Int):(Int×Int)→V×Zp
  | r=>((.d (Ze r.1)),[(.arr 1 (List.map Ze m0_0)),(.cells [(.d (Ze r.2))])])
theorem ZcU {b:Int}{m0_0:(List Int)}{m1_0:Int}:∀r,(ZaM b m0_0 m1_0)=some r→evW ctx 167 [(.sl 0 1),(.d (Ze b)),(.ptr 1 0)] [(.arr 1 (List.map Ze m0_0)),(.cells [(.d (Ze m1_0))])]=some ((Zew b m0_0 m1_0) r):=by
 show Z6 _ (fun r rhs=>rhs=some ((Zew b m0_0 m1_0) r)) _
 unfold ZaM
 rw[Zeh ctx 167 Zwf _ _ rfl rfl]
 conv=>arg 3;whnf
 refine Zc _ Zd6 fun x0 hx0=>?_;conv=>arg 3;whnf
 exact Zh rfl
def Zfe (b:Int) (c:Int) (m0_0:(List Int)):(Int×Int)→V×Zp
  | r=>((.d (D.tup [(Ze r.1),(Ze r.2)])),[(.arr 1 (List.map Ze m0_0))])
theorem Zb8 {b:Int}{c:Int}{m0_0:(List Int)}:∀r,(ZaI b c m0_0)=some r→evW ctx 155 [(.sl 0 1),(.d (Ze b)),(.d (Ze c))] [(.arr 1 (List.map Ze m0_0))]=some ((Zfe b c m0_0) r):=by
 show Z6 _ (fun r rhs=>rhs=some ((Zfe b c m0_0) r)) _
 unfold ZaI
 rw[Zeh ctx 155 ZwG _ _ rfl rfl]
 conv=>arg 3;whnf
 refine ZQ rfl ?_;conv=>arg 3;whnf
 refine ZQ rfl ?_;conv=>arg 3;whnf
 refine ZQ rfl ?_;conv=>arg 3;whnf
 refine Zg rfl ?_ ?_<;>conv=>arg 3;whnf
 ·refine Zg rfl ?_ ?_<;>conv=>arg 3;whnf
  ·refine Zc _ ZcU fun x0 hx0=>?_;conv=>arg 3;whnf
   refine Zc _ ZcU fun x1 hx1=>?_;conv=>arg 3;whnf
   refine Zc _ ZcU fun x2 hx2=>?_;conv=>arg 3;whnf
   refine Zc _ Zd6 fun x3 hx3=>?_;conv=>arg 3;whnf
   refine Zg rfl ?_ ?_<;>conv=>arg 3;whnf
   ·exact Zh rfl
   ·refine Zg rfl ?_ ?_<;>conv=>arg 3;whnf
    ·exact Zh rfl
    ·exact Zh rfl
  ·refine Zc _ Zd6 fun x4 hx4=>?_;conv=>arg 3;whnf
   refine Zg rfl ?_ ?_<;>conv=>arg 3;whnf
   ·exact Zh rfl
   ·refine Zg rfl ?_ ?_<;>conv=>arg 3;whnf
    ·exact Zh rfl
    ·exact Zh rfl
 ·refine ZbI rfl ?_;conv=>arg 3;whnf
  exact Zh rfl
def Ze7 (b:Int) (c:Int) (m0_0:(List Int)):(List Int)→V×Zp
  | r=>((.d (D.tup [])),[(.arr 1 (List.map Ze r))])
def Zei:(List Int)→Ex×List V×Zp
  | r=>(.exit 0,[],[(.arr 1 (List.map Ze r))])
theorem ZgI:∀(s0:Int×Int×(List Int)) (r:(List Int)),lp (Zbu) s0=some r→lpW ctx 1 [0,6,7] [] Zt3 [(.sl 0 1),(.d (Ze s0.1)),(.d (Ze s0.2.1))] [(.arr 1 (List.map Ze s0.2.2))]=some (Zei r):=by
 refine Zbe Zei ?_
 intro s0 rcl ih
 show Z6 _ _ (lpW _ _ _ _ _ _ _)
 unfold Zbu
 rw[Zbg]
 conv=>arg 3;whnf
 refine Zg rfl ?_ ?_<;>conv=>arg 3;whnf
 ·refine Zj rfl rfl fun x1 hx1=>?_;conv=>arg 3;whnf
  refine Zf (Zl rfl hx1) ?_;conv=>arg 3;whnf
  refine Zj rfl rfl fun x2 hx2=>?_;conv=>arg 3;whnf
  refine Zf (Zl rfl hx2) ?_;conv=>arg 3;whnf
  refine Zf (Zay rfl hx2) ?_;conv=>arg 3;whnf
  refine Zf (Zl rfl hx2) ?_;conv=>arg 3;whnf
  refine Zq (ZZ Ze s0.2.2 s0.1.toNat x1) ?_;conv=>arg 3;whnf
  refine Zj rfl rfl fun x3 hx3=>?_;conv=>arg 3;whnf
  refine Zf (Zl rfl hx3) ?_;conv=>arg 3;whnf
  refine Zq (ZZ Ze (List.set s0.2.2 s0.1.toNat x1) s0.2.1.toNat x2) ?_;conv=>arg 3;whnf
  exact Zd (ih _)
 ·exact Zh rfl
theorem Zb5 {b:Int}{c:Int}{m0_0:(List Int)}:∀r,(ZaB b c m0_0)=some r→evW ctx 156 [(.sl 0 1),(.d (Ze b)),(.d (Ze c))] [(.arr 1 (List.map Ze m0_0))]=some ((Ze7 b c m0_0) r):=by
 show Z6 _ (fun r rhs=>rhs=some ((Ze7 b c m0_0) r)) _
 unfold ZaB
 rw[Zeh ctx 156 Zx0 _ _ rfl rfl]
 conv=>arg 3;whnf
 refine Zc _ (ZgI _) fun r4 hr4=>?_;conv=>arg 3;whnf
 exact Zh rfl
def ZdB (b:Int) (c:Int) (m0_0:(List Int)):((List Int)⊕(List Int))→V×Zp
  | (.inl r)=>((.d (D.bool true)),[(.arr 1 (List.map Ze r))])
  | (.inr r)=>((.d (D.bool false)),[(.arr 1 (List.map Ze r))])
def Zdm (b:Int) (c:Int) (s0:Int×Int×(List Int)):Int→Ex×List V×Zp
  | r=>(.exit 2,[(.sl 0 1),(.d (Ze b)),(.d (Ze c)),(.d (Ze r)),(.d (Ze s0.2.1))],[(.arr 1 (List.map Ze s0.2.2))])
theorem ZfG {b:Int}{c:Int}{s0:Int×Int×(List Int)}:∀(s1:Int) (r:Int),lp (ZaT c s0) s1=some r→lpW ctx 1 [0,1,2,7,8] [0,1,2,7,8] Zuq [(.sl 0 1),(.d (Ze b)),(.d (Ze c)),(.d (Ze s1)),(.d (Ze s0.2.1))] [(.arr 1 (List.map Ze s0.2.2))]=some ((Zdm b c s0) r):=by
 refine Zbe (Zdm b c s0) ?_
 intro s1 rcl ih
 show Z6 _ _ (lpW _ _ _ _ _ _ _)
 unfold ZaT
 rw[Zbg]
 conv=>arg 3;whnf
 refine Zg rfl ?_ ?_<;>conv=>arg 3;whnf
 ·refine Zj rfl rfl fun x2 hx2=>?_;conv=>arg 3;whnf
  refine Zf (Zl rfl hx2) ?_;conv=>arg 3;whnf
  refine Zj rfl rfl fun x3 hx3=>?_;conv=>arg 3;whnf
  refine Zf (Zl rfl hx3) ?_;conv=>arg 3;whnf
  refine Zs _ Z2 rfl fun x4 hx4=>?_;conv=>arg 3;whnf
  refine Zg rfl ?_ ?_<;>conv=>arg 3;whnf
  ·exact Zh rfl
  ·exact Zd (ih _)
 ·exact Zh rfl
def Zdl (b:Int) (c:Int) (s0:Int×Int×(List Int)) (r5:Int):(List Int)→Ex×List V×Zp
  | r=>(.exit 4,[(.sl 0 1),(.d (Ze b)),(.d (Ze c)),(.d (Ze r5)),(.d (Ze s0.2.1))],[(.arr 1 (List.map Ze r))])
theorem ZfH {b:Int}{c:Int}{s0:Int×Int×(List Int)}{r5:Int}:∀(s9:Int×(List Int)) (r:(List Int)),lp (ZaQ) s9=some r→lpW ctx 1 [0,1,2,7,8,9] [0,1,2,7,8] Zvg [(.sl 0 1),(.d (Ze b)),(.d (Ze c)),(.d (Ze r5)),(.d (Ze s0.2.1)),(.d (Ze s9.1))] [(.arr 1 (List.map Ze s9.2))]=some ((Zdl b c s0 r5) r):=by
 refine Zbe (Zdl b c s0 r5) ?_
 intro s9 rcl ih
 show Z6 _ _ (lpW _ _ _ _ _ _ _)
 unfold ZaQ
 rw[Zbg]
 conv=>arg 3;whnf
 refine Zg rfl ?_ ?_<;>conv=>arg 3;whnf
 ·refine Zj rfl rfl fun x10 hx10=>?_;conv=>arg 3;whnf
  refine Zf (Zl rfl hx10) ?_;conv=>arg 3;whnf
  refine Zj rfl rfl fun x11 hx11=>?_;conv=>arg 3;whnf
  refine Zf (Zl rfl hx11) ?_;conv=>arg 3;whnf
  refine Zs _ Z2 rfl fun x12 hx12=>?_;conv=>arg 3;whnf
  refine Zg rfl ?_ ?_<;>conv=>arg 3;whnf
  ·refine Zf (Zay rfl hx11) ?_;conv=>arg 3;whnf
   refine Zf (Zl rfl hx11) ?_;conv=>arg 3;whnf
   refine Zf (Zay rfl hx10) ?_;conv=>arg 3;whnf
   refine Zf (Zl rfl hx10) ?_;conv=>arg 3;whnf
   refine Zf (Zay rfl hx10) ?_;conv=>arg 3;whnf
   refine Zf (Zl rfl hx10) ?_;conv=>arg 3;whnf
   refine Zq (ZZ Ze s9.2 s9.1.toNat x11) ?_;conv=>arg 3;whnf
   refine Zj rfl rfl fun x13 hx13=>?_;conv=>arg 3;whnf
   refine Zf (Zl rfl hx13) ?_;conv=>arg 3;whnf
   refine Zq (ZZ Ze (List.set s9.2 s9.1.toNat x11) (w64 (s9.1-1)).toNat x10) ?_;conv=>arg 3;whnf
   exact Zd (ih _)
  ·exact Zh rfl
 ·exact Zh rfl
def Zdj (b:Int) (c:Int) (s0:Int×Int×(List Int)) (r5:Int):(List Int)→Ex×List V×Zp
  | r=>(.exit 6,[(.sl 0 1),(.d (Ze b)),(.d (Ze c)),(.d (Ze r5)),(.d (Ze s0.2.1))],[(.arr 1 (List.map Ze r))])
theorem Zc9 {b:Int}{c:Int}{s0:Int×Int×(List Int)}{r5:Int}:∀(s15:Int×(List Int)) (r:(List Int)),lp (Zan c) s15=some r→lpW ctx 1 [0,1,2,7,8,10] [0,1,2,7,8] ZuI [(.sl 0 1),(.d (Ze b)),(.d (Ze c)),(.d (Ze r5)),(.d (Ze s0.2.1)),(.d (Ze s15.1))] [(.arr 1 (List.map Ze s15.2))]=some ((Zdj b c s0 r5) r):=by
 refine Zbe (Zdj b c s0 r5) ?_
 intro s15 rcl ih
 show Z6 _ _ (lpW _ _ _ _ _ _ _)
 unfold Zan
 rw[Zbg]
 conv=>arg 3;whnf
 refine Zg rfl ?_ ?_<;>conv=>arg 3;whnf
 ·refine Zj rfl rfl fun x16 hx16=>?_;conv=>arg 3;whnf
  refine Zf (Zl rfl hx16) ?_;conv=>arg 3;whnf
  refine Zj rfl rfl fun x17 hx17=>?_;conv=>arg 3;whnf
  refine Zf (Zl rfl hx17) ?_;conv=>arg 3;whnf
  refine Zs _ Z2 rfl fun x18 hx18=>?_;conv=>arg 3;whnf
  refine Zg rfl ?_ ?_<;>conv=>arg 3;whnf
  ·refine Zf (Zay rfl hx17) ?_;conv=>arg 3;whnf
   refine Zf (Zl rfl hx17) ?_;conv=>arg 3;whnf
   refine Zf (Zay rfl hx16) ?_;conv=>arg 3;whnf
   refine Zf (Zl rfl hx16) ?_;conv=>arg 3;whnf
   refine Zf (Zay rfl hx16) ?_;conv=>arg 3;whnf
   refine Zf (Zl rfl hx16) ?_;conv=>arg 3;whnf
   refine Zq (ZZ Ze s15.2 s15.1.toNat x17) ?_;conv=>arg 3;whnf
   refine Zj rfl rfl fun x19 hx19=>?_;conv=>arg 3;whnf
   refine Zf (Zl rfl hx19) ?_;conv=>arg 3;whnf
   refine Zq (ZZ Ze (List.set s15.2 s15.1.toNat x17) (w64 (s15.1-1)).toNat x16) ?_;conv=>arg 3;whnf
   exact Zd (ih _)
  ·exact Zh rfl
 ·exact Zh rfl
def Zdk (b:Int) (c:Int):((List Int)⊕((List Int)⊕(List Int)))→Ex×List V×Zp
  | (.inl r)=>(.ret,[(.d (D.bool true))],[(.arr 1 (List.map Ze r))])
  | (.inr (.inl r))=>(.ret,[(.d (D.bool false))],[(.arr 1 (List.map Ze r))])
  | (.inr (.inr r))=>(.exit 0,[.bad],[(.arr 1 (List.map Ze r))])
theorem Zfy {b:Int}{c:Int}:∀(s0:Int×Int×(List Int)) (r:((List Int)⊕((List Int)⊕(List Int)))),lp (ZaS b c) s0=some r→lpW ctx 1 [0,1,2,7,8] [6] ZtZ [(.sl 0 1),(.d (Ze b)),(.d (Ze c)),(.d (Ze s0.1)),(.d (Ze s0.2.1))] [(.arr 1 (List.map Ze s0.2.2))]=some ((Zdk b c) r):=by
 refine Zbe (Zdk b c) ?_
 intro s0 rcl ih
 show Z6 _ _ (lpW _ _ _ _ _ _ _)
 unfold ZaS
 rw[Zbg]
 conv=>arg 3;whnf
 refine Zg rfl ?_ ?_<;>conv=>arg 3;whnf
 ·refine Zc _ (ZfG _) fun r5 hr5=>?_;conv=>arg 3;whnf
  refine Zg rfl ?_ ?_<;>conv=>arg 3;whnf
  ·exact Zh rfl
  ·refine Zg rfl ?_ ?_<;>conv=>arg 3;whnf
   ·exact Zh rfl
   ·refine Zj rfl rfl fun x6 hx6=>?_;conv=>arg 3;whnf
    refine Zf (Zl rfl hx6) ?_;conv=>arg 3;whnf
    refine Zj rfl rfl fun x7 hx7=>?_;conv=>arg 3;whnf
    refine Zf (Zl rfl hx7) ?_;conv=>arg 3;whnf
    refine Zf (Zay rfl hx7) ?_;conv=>arg 3;whnf
    refine Zf (Zl rfl hx7) ?_;conv=>arg 3;whnf
    refine Zq (ZZ Ze s0.2.2 r5.toNat x6) ?_;conv=>arg 3;whnf
    refine Zj rfl rfl fun x8 hx8=>?_;conv=>arg 3;whnf
    refine Zf (Zl rfl hx8) ?_;conv=>arg 3;whnf
    refine Zq (ZZ Ze (List.set s0.2.2 r5.toNat x6) (w64 (r5-1)).toNat x7) ?_;conv=>arg 3;whnf
    refine Zg rfl ?_ ?_<;>conv=>arg 3;whnf
    ·refine Zc _ (ZfH _) fun r14 hr14=>?_;conv=>arg 3;whnf
     refine Zg rfl ?_ ?_<;>conv=>arg 3;whnf
     ·refine Zc _ (Zc9 _) fun r20 hr20=>?_;conv=>arg 3;whnf
      exact Zd (ih _)
     ·exact Zd (ih _)
    ·refine Zg rfl ?_ ?_<;>conv=>arg 3;whnf
     ·refine Zc _ (Zc9 _) fun r26 hr26=>?_;conv=>arg 3;whnf
      exact Zd (ih _)
     ·exact Zd (ih _)
 ·exact Zh rfl
theorem Zdw {b:Int}{c:Int}{m0_0:(List Int)}:∀r,(ZaF b c m0_0)=some r→evW ctx 157 [(.sl 0 1),(.d (Ze b)),(.d (Ze c))] [(.arr 1 (List.map Ze m0_0))]=some ((ZdB b c m0_0) r):=by
 show Z6 _ (fun r rhs=>rhs=some ((ZdB b c m0_0) r)) _
 unfold ZaF
 rw[Zeh ctx 157 Zyk _ _ rfl rfl]
 conv=>arg 3;whnf
 refine Zc _ (Zfy _) fun r27 hr27=>?_
 clear hr27
 rcases r27 with r27 | (r27 | r27)
 ·conv=>arg 3;whnf
  exact Zh rfl
 ·conv=>arg 3;whnf
  exact Zh rfl
 ·conv=>arg 3;whnf
  exact Zh rfl
def ZfL (b:Int) (c:Int) (d:Int) (m0_0:(List Int)):((Int×(List Int))⊕(Int×(List Int)))→V×Zp
  | (.inl r)=>((.d (D.tup [(Ze r.1),(D.bool true)])),[(.arr 1 (List.map Ze r.2))])
  | (.inr r)=>((.d (D.tup [(Ze r.1),(D.bool false)])),[(.arr 1 (List.map Ze r.2))])
def Ze5 (b:Int) (c:Int) (d:Int) (m0_0:(List Int)) (x0:Int) (x1:Int):Int→Ex×List V×Zp
  | r=>(.exit 0,[(.sl 0 1),(.d (Ze b)),(.d (Ze r)),(.d (Ze (w64 (c-1))))],[(.arr 1 (List.map Ze (List.set (List.set m0_0 b.toNat x0) d.toNat x1)))])
theorem Zhb {b:Int}{c:Int}{d:Int}{m0_0:(List Int)}{x0:Int}{x1:Int}:∀(s3:Int) (r:Int),lp (ZbN b c d m0_0 x0 x1) s3=some r→lpW ctx 1 [0,1,10,11] [0,1,10,11] ZuA [(.sl 0 1),(.d (Ze b)),(.d (Ze s3)),(.d (Ze (w64 (c-1))))] [(.arr 1 (List.map Ze (List.set (List.set m0_0 b.toNat x0) d.toNat x1)))]=some ((Ze5 b c d m0_0 x0 x1) r):=by
 refine Zbe (Ze5 b c d m0_0 x0 x1) ?_
 intro s3 rcl ih
 show Z6 _ _ (lpW _ _ _ _ _ _ _)
 unfold ZbN
 rw[Zbg]
 conv=>arg 3;whnf
 refine Zg rfl ?_ ?_<;>conv=>arg 3;whnf
 ·refine Zj rfl rfl fun x4 hx4=>?_;conv=>arg 3;whnf
  refine Zf (Zl rfl hx4) ?_;conv=>arg 3;whnf
  refine Zj rfl rfl fun x5 hx5=>?_;conv=>arg 3;whnf
  refine Zf (Zl rfl hx5) ?_;conv=>arg 3;whnf
  refine Zs _ Z2 rfl fun x6 hx6=>?_;conv=>arg 3;whnf
  refine Zg rfl ?_ ?_<;>conv=>arg 3;whnf
  ·exact Zd (ih _)
  ·exact Zh rfl
 ·exact Zh rfl
def Ze6 (b:Int) (d:Int) (m0_0:(List Int)) (x0:Int) (x1:Int) (r7:Int):Int→Ex×List V×Zp
  | r=>(.exit 2,[(.sl 0 1),(.d (Ze b)),(.d (Ze r7)),(.d (Ze r))],[(.arr 1 (List.map Ze (List.set (List.set m0_0 b.toNat x0) d.toNat x1)))])
theorem Zhh {b:Int}{d:Int}{m0_0:(List Int)}{x0:Int}{x1:Int}{r7:Int}:∀(s8:Int) (r:Int),lp (ZbG b d m0_0 x0 x1 r7) s8=some r→lpW ctx 1 [0,1,10,11] [0,1,10,11] Zu4 [(.sl 0 1),(.d (Ze b)),(.d (Ze r7)),(.d (Ze s8))] [(.arr 1 (List.map Ze (List.set (List.set m0_0 b.toNat x0) d.toNat x1)))]=some ((Ze6 b d m0_0 x0 x1 r7) r):=by
 refine Zbe (Ze6 b d m0_0 x0 x1 r7) ?_
 intro s8 rcl ih
 show Z6 _ _ (lpW _ _ _ _ _ _ _)
 unfold ZbG
 rw[Zbg]
 conv=>arg 3;whnf
 refine Zg rfl ?_ ?_<;>conv=>arg 3;whnf
 ·refine Zj rfl rfl fun x9 hx9=>?_;conv=>arg 3;whnf
  refine Zf (Zl rfl hx9) ?_;conv=>arg 3;whnf
  refine Zj rfl rfl fun x10 hx10=>?_;conv=>arg 3;whnf
  refine Zf (Zl rfl hx10) ?_;conv=>arg 3;whnf
  refine Zs _ Z2 rfl fun x11 hx11=>?_;conv=>arg 3;whnf
  refine Zg rfl ?_ ?_<;>conv=>arg 3;whnf
  ·exact Zh rfl
  ·exact Zd (ih _)
 ·exact Zh rfl
def Ze2 (b:Int) (s19:Int×Int×(List Int)):Int→Ex×List V×Zp
  | r=>(.exit 6,[(.sl 0 1),(.d (Ze b)),(.d (Ze r)),(.d (Ze s19.2.1))],[(.arr 1 (List.map Ze s19.2.2))])
theorem Zhf {b:Int}{s19:Int×Int×(List Int)}:∀(s20:Int) (r:Int),lp (ZbH b s19) s20=some r→lpW ctx 1 [0,1,10,11] [0,1,10,11] Zuw [(.sl 0 1),(.d (Ze b)),(.d (Ze s20)),(.d (Ze s19.2.1))] [(.arr 1 (List.map Ze s19.2.2))]=some ((Ze2 b s19) r):=by
 refine Zbe (Ze2 b s19) ?_
 intro s20 rcl ih
 show Z6 _ _ (lpW _ _ _ _ _ _ _)
 unfold ZbH
 rw[Zbg]
 conv=>arg 3;whnf
 refine Zg rfl ?_ ?_<;>conv=>arg 3;whnf
 ·refine Zj rfl rfl fun x21 hx21=>?_;conv=>arg 3;whnf
  refine Zf (Zl rfl hx21) ?_;conv=>arg 3;whnf
  refine Zj rfl rfl fun x22 hx22=>?_;conv=>arg 3;whnf
  refine Zf (Zl rfl hx22) ?_;conv=>arg 3;whnf
  refine Zs _ Z2 rfl fun x23 hx23=>?_;conv=>arg 3;whnf
  refine Zg rfl ?_ ?_<;>conv=>arg 3;whnf
  ·exact Zd (ih _)
  ·exact Zh rfl
 ·exact Zh rfl
def ZeZ (b:Int) (s19:Int×Int×(List Int)) (r24:Int):Int→Ex×List V×Zp
  | r=>(.exit 8,[(.sl 0 1),(.d (Ze b)),(.d (Ze r24)),(.d (Ze r))],[(.arr 1 (List.map Ze s19.2.2))])
theorem Zhg {b:Int}{s19:Int×Int×(List Int)}{r24:Int}:∀(s25:Int) (r:Int),lp (ZbK b s19 r24) s25=some r→lpW ctx 1 [0,1,10,11] [0,1,10,11] Zu3 [(.sl 0 1),(.d (Ze b)),(.d (Ze r24)),(.d (Ze s25))] [(.arr 1 (List.map Ze s19.2.2))]=some ((ZeZ b s19 r24) r):=by
 refine Zbe (ZeZ b s19 r24) ?_
 intro s25 rcl ih
 show Z6 _ _ (lpW _ _ _ _ _ _ _)
 unfold ZbK
 rw[Zbg]
 conv=>arg 3;whnf
 refine Zg rfl ?_ ?_<;>conv=>arg 3;whnf
 ·refine Zj rfl rfl fun x26 hx26=>?_;conv=>arg 3;whnf
  refine Zf (Zl rfl hx26) ?_;conv=>arg 3;whnf
  refine Zj rfl rfl fun x27 hx27=>?_;conv=>arg 3;whnf
  refine Zf (Zl rfl hx27) ?_;conv=>arg 3;whnf
  refine Zs _ Z2 rfl fun x28 hx28=>?_;conv=>arg 3;whnf
  refine Zg rfl ?_ ?_<;>conv=>arg 3;whnf
  ·exact Zh rfl
  ·exact Zd (ih _)
 ·exact Zh rfl
def Ze3 (b:Int):(Int×(List Int))→Ex×List V×Zp
  | r=>(.exit 4,[(.sl 0 1),(.d (Ze b)),(.d (Ze r.1))],[(.arr 1 (List.map Ze r.2))])
theorem Zhi {b:Int}:∀(s19:Int×Int×(List Int)) (r:(Int×(List Int))),lp (ZbL b) s19=some r→lpW ctx 1 [0,1,10,11] [0,1,11] ZuD [(.sl 0 1),(.d (Ze b)),(.d (Ze s19.1)),(.d (Ze s19.2.1))] [(.arr 1 (List.map Ze s19.2.2))]=some ((Ze3 b) r):=by
 refine Zbe (Ze3 b) ?_
 intro s19 rcl ih
 show Z6 _ _ (lpW _ _ _ _ _ _ _)
 unfold ZbL
 rw[Zbg]
 conv=>arg 3;whnf
 refine Zc _ (Zhf _) fun r24 hr24=>?_;conv=>arg 3;whnf
 refine Zc _ (Zhg _) fun r29 hr29=>?_;conv=>arg 3;whnf
 refine Zg rfl ?_ ?_<;>conv=>arg 3;whnf
 ·exact Zh rfl
 ·refine Zj rfl rfl fun x30 hx30=>?_;conv=>arg 3;whnf
  refine Zf (Zl rfl hx30) ?_;conv=>arg 3;whnf
  refine Zj rfl rfl fun x31 hx31=>?_;conv=>arg 3;whnf
  refine Zf (Zl rfl hx31) ?_;conv=>arg 3;whnf
  refine Zf (Zay rfl hx31) ?_;conv=>arg 3;whnf
  refine Zf (Zl rfl hx31) ?_;conv=>arg 3;whnf
  refine Zq (ZZ Ze s19.2.2 r24.toNat x30) ?_;conv=>arg 3;whnf
  refine Zj rfl rfl fun x32 hx32=>?_;conv=>arg 3;whnf
  refine Zf (Zl rfl hx32) ?_;conv=>arg 3;whnf
  refine Zq (ZZ Ze (List.set s19.2.2 r24.toNat x30) r29.toNat x31) ?_;conv=>arg 3;whnf
  exact Zd (ih _)
theorem Zz {b:Int}{c:Int}{d:Int}{m0_0:(List Int)}:∀r,(Zv b c d m0_0)=some r→evW ctx 160 [(.sl 0 1),(.d (Ze b)),(.d (Ze c)),(.d (Ze d))] [(.arr 1 (List.map Ze m0_0))]=some ((ZfL b c d m0_0) r):=by
 show Z6 _ (fun r rhs=>rhs=some ((ZfL b c d m0_0) r)) _
 unfold Zv
 rw[Zeh ctx 160 ZxX _ _ rfl rfl]
 conv=>arg 3;whnf
 refine Zj rfl rfl fun x0 hx0=>?_;conv=>arg 3;whnf
 refine Zf (Zl rfl hx0) ?_;conv=>arg 3;whnf
 refine Zj rfl rfl fun x1 hx1=>?_;conv=>arg 3;whnf
 refine Zf (Zl rfl hx1) ?_;conv=>arg 3;whnf
 refine Zf (Zay rfl hx1) ?_;conv=>arg 3;whnf
 refine Zf (Zl rfl hx1) ?_;conv=>arg 3;whnf
 refine Zq (ZZ Ze m0_0 b.toNat x0) ?_;conv=>arg 3;whnf
 refine Zj rfl rfl fun x2 hx2=>?_;conv=>arg 3;whnf
 refine Zf (Zl rfl hx2) ?_;conv=>arg 3;whnf
 refine Zq (ZZ Ze (List.set m0_0 b.toNat x0) d.toNat x1) ?_;conv=>arg 3;whnf
 refine Zc _ (Zhb _) fun r7 hr7=>?_;conv=>arg 3;whnf
 refine Zc _ (Zhh _) fun r12 hr12=>?_;conv=>arg 3;whnf
 refine Zg rfl ?_ ?_<;>conv=>arg 3;whnf
 ·refine Zj rfl rfl fun x13 hx13=>?_;conv=>arg 3;whnf
  refine Zf (Zl rfl hx13) ?_;conv=>arg 3;whnf
  refine Zj rfl rfl fun x14 hx14=>?_;conv=>arg 3;whnf
  refine Zf (Zl rfl hx14) ?_;conv=>arg 3;whnf
  refine Zf (Zay rfl hx14) ?_;conv=>arg 3;whnf
  refine Zf (Zl rfl hx14) ?_;conv=>arg 3;whnf
  refine Zq (ZZ Ze (List.set (List.set m0_0 b.toNat x0) d.toNat x1) r12.toNat x13) ?_;conv=>arg 3;whnf
  refine Zj rfl rfl fun x15 hx15=>?_;conv=>arg 3;whnf
  refine Zf (Zl rfl hx15) ?_;conv=>arg 3;whnf
  refine Zq (ZZ Ze (List.set (List.set (List.set m0_0 b.toNat x0) d.toNat x1) r12.toNat x13) b.toNat x14) ?_;conv=>arg 3;whnf
  exact Zh rfl
 ·refine Zj rfl rfl fun x16 hx16=>?_;conv=>arg 3;whnf
  refine Zf (Zl rfl hx16) ?_;conv=>arg 3;whnf
  refine Zj rfl rfl fun x17 hx17=>?_;conv=>arg 3;whnf
  refine Zf (Zl rfl hx17) ?_;conv=>arg 3;whnf
  refine Zf (Zay rfl hx17) ?_;conv=>arg 3;whnf
  refine Zf (Zl rfl hx17) ?_;conv=>arg 3;whnf
  refine Zq (ZZ Ze (List.set (List.set m0_0 b.toNat x0) d.toNat x1) r7.toNat x16) ?_;conv=>arg 3;whnf
  refine Zj rfl rfl fun x18 hx18=>?_;conv=>arg 3;whnf
  refine Zf (Zl rfl hx18) ?_;conv=>arg 3;whnf
  refine Zq (ZZ Ze (List.set (List.set (List.set m0_0 b.toNat x0) d.toNat x1) r7.toNat x16) r12.toNat x17) ?_;conv=>arg 3;whnf
  refine Zc _ (Zhi _) fun r33 hr33=>?_;conv=>arg 3;whnf
  refine Zj rfl rfl fun x34 hx34=>?_;conv=>arg 3;whnf
  refine Zf (Zl rfl hx34) ?_;conv=>arg 3;whnf
  refine Zj rfl rfl fun x35 hx35=>?_;conv=>arg 3;whnf
  refine Zf (Zl rfl hx35) ?_;conv=>arg 3;whnf
  refine Zf (Zay rfl hx35) ?_;conv=>arg 3;whnf
  refine Zf (Zl rfl hx35) ?_;conv=>arg 3;whnf
  refine Zq (ZZ Ze r33.2 r33.1.toNat x34) ?_;conv=>arg 3;whnf
  refine Zj rfl rfl fun x36 hx36=>?_;conv=>arg 3;whnf
  refine Zf (Zl rfl hx36) ?_;conv=>arg 3;whnf
  refine Zq (ZZ Ze (List.set r33.2 r33.1.toNat x34) b.toNat x35) ?_;conv=>arg 3;whnf
  exact Zh rfl
def Zez (b:Int) (c:Int) (d:Int) (m0_0:(List Int)):(Int×(List Int))→V×Zp
  | r=>((.d (Ze r.1)),[(.arr 1 (List.map Ze r.2))])
def ZdW (b:Int) (s3:Int×Int×(List Int)):Int→Ex×List V×Zp
  | r=>(.exit 2,[(.sl 0 1),(.d (Ze b)),(.d (Ze r)),(.d (Ze s3.2.1))],[(.arr 1 (List.map Ze s3.2.2))])
theorem Zgo {b:Int}{s3:Int×Int×(List Int)}:∀(s4:Int) (r:Int),lp (Zbi b s3) s4=some r→lpW ctx 1 [0,1,9,10] [0,1,9,10] Zt0 [(.sl 0 1),(.d (Ze b)),(.d (Ze s4)),(.d (Ze s3.2.1))] [(.arr 1 (List.map Ze s3.2.2))]=some ((ZdW b s3) r):=by
 refine Zbe (ZdW b s3) ?_
 intro s4 rcl ih
 show Z6 _ _ (lpW _ _ _ _ _ _ _)
 unfold Zbi
 rw[Zbg]
 conv=>arg 3;whnf
 refine Zg rfl ?_ ?_<;>conv=>arg 3;whnf
 ·refine Zj rfl rfl fun x5 hx5=>?_;conv=>arg 3;whnf
  refine Zf (Zl rfl hx5) ?_;conv=>arg 3;whnf
  refine Zj rfl rfl fun x6 hx6=>?_;conv=>arg 3;whnf
  refine Zf (Zl rfl hx6) ?_;conv=>arg 3;whnf
  refine Zs _ Z2 rfl fun x7 hx7=>?_;conv=>arg 3;whnf
  refine Zg rfl ?_ ?_<;>conv=>arg 3;whnf
  ·exact Zh rfl
  ·exact Zd (ih _)
 ·exact Zh rfl
def ZdV (b:Int) (s3:Int×Int×(List Int)) (r8:Int):Int→Ex×List V×Zp
  | r=>(.exit 4,[(.sl 0 1),(.d (Ze b)),(.d (Ze r8)),(.d (Ze r))],[(.arr 1 (List.map Ze s3.2.2))])
theorem Zgr {b:Int}{s3:Int×Int×(List Int)}{r8:Int}:∀(s9:Int) (r:Int),lp (Zbj b s3 r8) s9=some r→lpW ctx 1 [0,1,9,10] [0,1,9,10] ZuO [(.sl 0 1),(.d (Ze b)),(.d (Ze r8)),(.d (Ze s9))] [(.arr 1 (List.map Ze s3.2.2))]=some ((ZdV b s3 r8) r):=by
 refine Zbe (ZdV b s3 r8) ?_
 intro s9 rcl ih
 show Z6 _ _ (lpW _ _ _ _ _ _ _)
 unfold Zbj
 rw[Zbg]
 conv=>arg 3;whnf
 refine Zg rfl ?_ ?_<;>conv=>arg 3;whnf
 ·refine Zj rfl rfl fun x10 hx10=>?_;conv=>arg 3;whnf
  refine Zf (Zl rfl hx10) ?_;conv=>arg 3;whnf
  refine Zj rfl rfl fun x11 hx11=>?_;conv=>arg 3;whnf
  refine Zf (Zl rfl hx11) ?_;conv=>arg 3;whnf
  refine Zs _ Z2 rfl fun x12 hx12=>?_;conv=>arg 3;whnf
  refine Zg rfl ?_ ?_<;>conv=>arg 3;whnf
  ·exact Zd (ih _)
  ·exact Zh rfl
 ·exact Zh rfl
def ZdX (b:Int):(Int×(List Int))→Ex×List V×Zp
  | r=>(.exit 0,[(.d (Ze r.1))],[(.arr 1 (List.map Ze r.2))])
theorem Zgn {b:Int}:∀(s3:Int×Int×(List Int)) (r:(Int×(List Int))),lp (Zbk b) s3=some r→lpW ctx 1 [0,1,9,10] [9] Zuz [(.sl 0 1),(.d (Ze b)),(.d (Ze s3.1)),(.d (Ze s3.2.1))] [(.arr 1 (List.map Ze s3.2.2))]=some ((ZdX b) r):=by
 refine Zbe (ZdX b) ?_
 intro s3 rcl ih
 show Z6 _ _ (lpW _ _ _ _ _ _ _)
 unfold Zbk
 rw[Zbg]
 conv=>arg 3;whnf
 refine Zc _ (Zgo _) fun r8 hr8=>?_;conv=>arg 3;whnf
 refine Zc _ (Zgr _) fun r13 hr13=>?_;conv=>arg 3;whnf
 refine Zg rfl ?_ ?_<;>conv=>arg 3;whnf
 ·exact Zh rfl
 ·refine Zj rfl rfl fun x14 hx14=>?_;conv=>arg 3;whnf
  refine Zf (Zl rfl hx14) ?_;conv=>arg 3;whnf
  refine Zj rfl rfl fun x15 hx15=>?_;conv=>arg 3;whnf
  refine Zf (Zl rfl hx15) ?_;conv=>arg 3;whnf
  refine Zf (Zay rfl hx15) ?_;conv=>arg 3;whnf
  refine Zf (Zl rfl hx15) ?_;conv=>arg 3;whnf
  refine Zq (ZZ Ze s3.2.2 r8.toNat x14) ?_;conv=>arg 3;whnf
  refine Zj rfl rfl fun x16 hx16=>?_;conv=>arg 3;whnf
  refine Zf (Zl rfl hx16) ?_;conv=>arg 3;whnf
  refine Zq (ZZ Ze (List.set s3.2.2 r8.toNat x14) r13.toNat x15) ?_;conv=>arg 3;whnf
  exact Zd (ih _)
theorem Z7 {b:Int}{c:Int}{d:Int}{m0_0:(List Int)}:∀r,(ZL b c d m0_0)=some r→evW ctx 159 [(.sl 0 1),(.d (Ze b)),(.d (Ze c)),(.d (Ze d))] [(.arr 1 (List.map Ze m0_0))]=some ((Zez b c d m0_0) r):=by
 show Z6 _ (fun r rhs=>rhs=some ((Zez b c d m0_0) r)) _
 unfold ZL
 rw[Zeh ctx 159 Zyu _ _ rfl rfl]
 conv=>arg 3;whnf
 refine Zj rfl rfl fun x0 hx0=>?_;conv=>arg 3;whnf
 refine Zf (Zl rfl hx0) ?_;conv=>arg 3;whnf
 refine Zj rfl rfl fun x1 hx1=>?_;conv=>arg 3;whnf
 refine Zf (Zl rfl hx1) ?_;conv=>arg 3;whnf
 refine Zf (Zay rfl hx1) ?_;conv=>arg 3;whnf
 refine Zf (Zl rfl hx1) ?_;conv=>arg 3;whnf
 refine Zq (ZZ Ze m0_0 b.toNat x0) ?_;conv=>arg 3;whnf
 refine Zj rfl rfl fun x2 hx2=>?_;conv=>arg 3;whnf
 refine Zf (Zl rfl hx2) ?_;conv=>arg 3;whnf
 refine Zq (ZZ Ze (List.set m0_0 b.toNat x0) d.toNat x1) ?_;conv=>arg 3;whnf
 refine Zc _ (Zgn _) fun r17 hr17=>?_;conv=>arg 3;whnf
 exact Zh rfl
def ZeM (b:Int) (c:Int) (m0_0:(List Int)):(List Int)→V×Zp
  | r=>((.d (D.tup [])),[(.arr 1 (List.map Ze r))])
def Zd1 (b:Int) (c:Int) (x0:Int):(List Int)→Ex×List V×Zp
  | r=>(.exit 0,[],[(.arr 1 (List.map Ze r))])
theorem Zgz {b:Int}{c:Int}{x0:Int}:∀(s1:Int×(List Int)×Int) (r:(List Int)),lp (Zbq b c x0) s1=some r→lpW ctx 1 [0,1,6,7,8,9] [] Zu2 [(.sl 0 1),(.d (Ze b)),(.d (Ze (w64 (c-b)))),(.ptr 1 0),(.d (D.int .u64 x0)),(.d (Ze s1.1))] [(.arr 1 (List.map Ze s1.2.1)),(.cells [(.d (D.int .u64 s1.2.2))])]=some ((Zd1 b c x0) r):=by
 refine Zbe (Zd1 b c x0) ?_
 intro s1 rcl ih
 show Z6 _ _ (lpW _ _ _ _ _ _ _)
 unfold Zbq
 rw[Zbg]
 conv=>arg 3;whnf
 refine ZQ rfl ?_;conv=>arg 3;whnf
 refine Zg rfl ?_ ?_<;>conv=>arg 3;whnf
 ·refine Zc _ Zg5 fun x2 hx2=>?_;conv=>arg 3;whnf
  refine Zg rfl ?_ ?_<;>conv=>arg 3;whnf
  ·refine Zj rfl rfl fun x3 hx3=>?_;conv=>arg 3;whnf
   refine Zf (Zl rfl hx3) ?_;conv=>arg 3;whnf
   refine Zj rfl rfl fun x4 hx4=>?_;conv=>arg 3;whnf
   refine Zf (Zl rfl hx4) ?_;conv=>arg 3;whnf
   refine Zf (Zay rfl hx4) ?_;conv=>arg 3;whnf
   refine Zf (Zl rfl hx4) ?_;conv=>arg 3;whnf
   refine Zq (ZZ Ze s1.2.1 s1.1.toNat x3) ?_;conv=>arg 3;whnf
   refine Zj rfl rfl fun x5 hx5=>?_;conv=>arg 3;whnf
   refine Zf (Zl rfl hx5) ?_;conv=>arg 3;whnf
   refine Zq (ZZ Ze (List.set s1.2.1 s1.1.toNat x3) (w64 (b+(w64 ((w64 (IntKind.u64.wrap (BitVec.ofInt IntKind.u64.bits (IntKind.u64.wrap (BitVec.ofInt IntKind.u64.bits (IntKind.u64.wrap (BitVec.ofInt IntKind.u64.bits (IntKind.u64.wrap (BitVec.ofInt IntKind.u64.bits s1.2.2 ^^^ BitVec.ofInt IntKind.u64.bits (IntKind.u64.wrap (s1.2.2*2 ^ 13))).toNat) ^^^ BitVec.ofInt IntKind.u64.bits (Int.fdiv (IntKind.u64.wrap (BitVec.ofInt IntKind.u64.bits s1.2.2 ^^^ BitVec.ofInt IntKind.u64.bits (IntKind.u64.wrap (s1.2.2*2 ^ 13))).toNat) (2 ^ 7))).toNat) ^^^ BitVec.ofInt IntKind.u64.bits (IntKind.u64.wrap ((IntKind.u64.wrap (BitVec.ofInt IntKind.u64.bits (IntKind.u64.wrap (BitVec.ofInt IntKind.u64.bits s1.2.2 ^^^ BitVec.ofInt IntKind.u64.bits (IntKind.u64.wrap (s1.2.2*2 ^ 13))).toNat) ^^^ BitVec.ofInt IntKind.u64.bits (Int.fdiv (IntKind.u64.wrap (BitVec.ofInt IntKind.u64.bits s1.2.2 ^^^ BitVec.ofInt IntKind.u64.bits (IntKind.u64.wrap (s1.2.2*2 ^ 13))).toNat) (2 ^ 7))).toNat)*2 ^ 17))).toNat) &&& BitVec.ofInt IntKind.u64.bits (IntKind.u64.wrap (x0-1))).toNat))-(w64 (c-b)))))).toNat x4) ?_;conv=>arg 3;whnf
   exact Zd (ih _)
  ·refine Zj rfl rfl fun x6 hx6=>?_;conv=>arg 3;whnf
   refine Zf (Zl rfl hx6) ?_;conv=>arg 3;whnf
   refine Zj rfl rfl fun x7 hx7=>?_;conv=>arg 3;whnf
   refine Zf (Zl rfl hx7) ?_;conv=>arg 3;whnf
   refine Zf (Zay rfl hx7) ?_;conv=>arg 3;whnf
   refine Zf (Zl rfl hx7) ?_;conv=>arg 3;whnf
   refine Zq (ZZ Ze s1.2.1 s1.1.toNat x6) ?_;conv=>arg 3;whnf
   refine Zj rfl rfl fun x8 hx8=>?_;conv=>arg 3;whnf
   refine Zf (Zl rfl hx8) ?_;conv=>arg 3;whnf
   refine Zq (ZZ Ze (List.set s1.2.1 s1.1.toNat x6) (w64 (b+(w64 (IntKind.u64.wrap (BitVec.ofInt IntKind.u64.bits (IntKind.u64.wrap (BitVec.ofInt IntKind.u64.bits (IntKind.u64.wrap (BitVec.ofInt IntKind.u64.bits (IntKind.u64.wrap (BitVec.ofInt IntKind.u64.bits s1.2.2 ^^^ BitVec.ofInt IntKind.u64.bits (IntKind.u64.wrap (s1.2.2*2 ^ 13))).toNat) ^^^ BitVec.ofInt IntKind.u64.bits (Int.fdiv (IntKind.u64.wrap (BitVec.ofInt IntKind.u64.bits s1.2.2 ^^^ BitVec.ofInt IntKind.u64.bits (IntKind.u64.wrap (s1.2.2*2 ^ 13))).toNat) (2 ^ 7))).toNat) ^^^ BitVec.ofInt IntKind.u64.bits (IntKind.u64.wrap ((IntKind.u64.wrap (BitVec.ofInt IntKind.u64.bits (IntKind.u64.wrap (BitVec.ofInt IntKind.u64.bits s1.2.2 ^^^ BitVec.ofInt IntKind.u64.bits (IntKind.u64.wrap (s1.2.2*2 ^ 13))).toNat) ^^^ BitVec.ofInt IntKind.u64.bits (Int.fdiv (IntKind.u64.wrap (BitVec.ofInt IntKind.u64.bits s1.2.2 ^^^ BitVec.ofInt IntKind.u64.bits (IntKind.u64.wrap (s1.2.2*2 ^ 13))).toNat) (2 ^ 7))).toNat)*2 ^ 17))).toNat) &&& BitVec.ofInt IntKind.u64.bits (IntKind.u64.wrap (x0-1))).toNat)))).toNat x7) ?_;conv=>arg 3;whnf
   exact Zd (ih _)
 ·exact Zh rfl
theorem Zex {b:Int}{c:Int}{m0_0:(List Int)}:∀r,(Zbd b c m0_0)=some r→evW ctx 154 [(.sl 0 1),(.d (Ze b)),(.d (Ze c))] [(.arr 1 (List.map Ze m0_0))]=some ((ZeM b c m0_0) r):=by
 show Z6 _ (fun r rhs=>rhs=some ((ZeM b c m0_0) r)) _
 unfold Zbd
 rw[Zeh ctx 154 Zwk _ _ rfl rfl]
 conv=>arg 3;whnf
 refine Zg rfl ?_ ?_<;>conv=>arg 3;whnf
 ·refine Zs _ ZgH rfl fun x0 hx0=>?_;conv=>arg 3;whnf
  refine ZQ rfl ?_;conv=>arg 3;whnf
  refine Zc _ (Zgz _) fun r9 hr9=>?_;conv=>arg 3;whnf
  exact Zh rfl
 ·exact Zh rfl
def Zb (b:Int) (c:Int) (d:Int) (m0_0:(List Int)):(List Int)→V×Zp
  | r=>((.d (D.tup [])),[(.arr 1 (List.map Ze r))])
def Zfp (rc:Int→Int→Int→(List Int)→Option (List Int)):(List Int)→Ex×List V×Zp
  | r=>(.ret,[],[(.arr 1 (List.map Ze r))])
theorem ZhC {rc:Int→Int→Int→(List Int)→Option (List Int)} (hrc:∀(b:Int) (c:Int) (d:Int) (m0_0:(List Int)) (r:(List Int)),rc b c d m0_0=some r→evW ctx 140 [(.sl 0 1),(.d (Ze b)),(.d (Ze c)),(.d (Ze d))] [(.arr 1 (List.map Ze m0_0))]=some ((Zb b c d m0_0) r)):∀(s0:Int×Int×Int×Bool×Bool×(List Int)) (r:(List Int)),lp (Zb3 rc) s0=some r→lpW ctx 1 [0,1,2,3,8,9] [] Zus [(.sl 0 1),(.d (Ze s0.1)),(.d (Ze s0.2.1)),(.d (Ze s0.2.2.1)),(.d (D.bool s0.2.2.2.1)),(.d (D.bool s0.2.2.2.2.1))] [(.arr 1 (List.map Ze s0.2.2.2.2.2))]=some ((Zfp rc) r):=by
 refine Zbe (Zfp rc) ?_
 intro s0 rcl ih
 show Z6 _ _ (lpW _ _ _ _ _ _ _)
 unfold Zb3
 rw[Zbg]
 rcases hb:s0.2.2.2.1 with _ | _
 ·refine ZnZ ?_
  rcases hb:s0.2.2.2.2.1 with _ | _
  ·refine ZnZ ?_;conv=>arg 3;whnf
   refine Zg rfl ?_ ?_<;>conv=>arg 3;whnf
   ·refine Zc _ Zb1 fun x170 hx170=>?_;conv=>arg 3;whnf
    exact Zh rfl
   ·refine Zg rfl ?_ ?_<;>conv=>arg 3;whnf
    ·refine Zc _ ZcB fun x171 hx171=>?_;conv=>arg 3;whnf
     exact Zh rfl
    ·refine Zc _ Zex fun x172 hx172=>?_;conv=>arg 3;whnf
     refine Zc _ Zb8 fun x173 hx173=>?_;conv=>arg 3;whnf
     refine Zg rfl ?_ ?_<;>conv=>arg 3;whnf
     ·refine Zc _ Zb5 fun x174 hx174=>?_;conv=>arg 3;whnf
      refine Zg rfl ?_ ?_<;>conv=>arg 3;whnf
      ·refine Zj rfl rfl fun x175 hx175=>?_;conv=>arg 3;whnf
       refine Zf (Zl rfl hx175) ?_;conv=>arg 3;whnf
       refine Zj rfl rfl fun x176 hx176=>?_;conv=>arg 3;whnf
       refine Zf (Zl rfl hx176) ?_;conv=>arg 3;whnf
       refine Zs _ Z2 rfl fun x177 hx177=>?_;conv=>arg 3;whnf
       refine Zg rfl ?_ ?_<;>conv=>arg 3;whnf
       ·refine Zc _ Zz fun x178 hx178=>?_
        clear hx178
        rcases x178 with x178 | x178
        ·conv=>arg 3;whnf
         refine ZbI rfl ?_;conv=>arg 3;whnf
         refine ZQ rfl ?_;conv=>arg 3;whnf
         refine Zg rfl ?_ ?_<;>conv=>arg 3;whnf
         ·refine Zg rfl ?_ ?_<;>conv=>arg 3;whnf
          ·refine Zc (Zb s0.1 x178.1 (w64 (s0.2.2.1-1)) x178.2) (hrc s0.1 x178.1 (w64 (s0.2.2.1-1)) x178.2) fun x179 hx179=>?_;conv=>arg 3;whnf
           exact Zd (ih _)
          ·refine Zc (Zb s0.1 x178.1 (w64 (s0.2.2.1-1)) x178.2) (hrc s0.1 x178.1 (w64 (s0.2.2.1-1)) x178.2) fun x180 hx180=>?_;conv=>arg 3;whnf
           exact Zd (ih _)
         ·refine Zg rfl ?_ ?_<;>conv=>arg 3;whnf
          ·refine Zc (Zb (w64 (x178.1+1)) s0.2.1 (w64 (s0.2.2.1-1)) x178.2) (hrc (w64 (x178.1+1)) s0.2.1 (w64 (s0.2.2.1-1)) x178.2) fun x181 hx181=>?_;conv=>arg 3;whnf
           exact Zd (ih _)
          ·refine Zc (Zb (w64 (x178.1+1)) s0.2.1 (w64 (s0.2.2.1-1)) x178.2) (hrc (w64 (x178.1+1)) s0.2.1 (w64 (s0.2.2.1-1)) x178.2) fun x182 hx182=>?_;conv=>arg 3;whnf
           exact Zd (ih _)
        ·conv=>arg 3;whnf
         refine ZQ rfl ?_;conv=>arg 3;whnf
         refine ZQ rfl ?_;conv=>arg 3;whnf
         refine Zg rfl ?_ ?_<;>conv=>arg 3;whnf
         ·refine Zg rfl ?_ ?_<;>conv=>arg 3;whnf
          ·refine Zc (Zb s0.1 x178.1 (w64 (s0.2.2.1-1)) x178.2) (hrc s0.1 x178.1 (w64 (s0.2.2.1-1)) x178.2) fun x183 hx183=>?_;conv=>arg 3;whnf
           exact Zd (ih _)
          ·refine Zc (Zb s0.1 x178.1 (w64 (s0.2.2.1-1)) x178.2) (hrc s0.1 x178.1 (w64 (s0.2.2.1-1)) x178.2) fun x184 hx184=>?_;conv=>arg 3;whnf
           exact Zd (ih _)
         ·refine Zg rfl ?_ ?_<;>conv=>arg 3;whnf
          ·refine Zc (Zb (w64 (x178.1+1)) s0.2.1 (w64 (s0.2.2.1-1)) x178.2) (hrc (w64 (x178.1+1)) s0.2.1 (w64 (s0.2.2.1-1)) x178.2) fun x185 hx185=>?_;conv=>arg 3;whnf
           exact Zd (ih _)
          ·refine Zc (Zb (w64 (x178.1+1)) s0.2.1 (w64 (s0.2.2.1-1)) x178.2) (hrc (w64 (x178.1+1)) s0.2.1 (w64 (s0.2.2.1-1)) x178.2) fun x186 hx186=>?_;conv=>arg 3;whnf
           exact Zd (ih _)
       ·refine Zc _ Z7 fun x187 hx187=>?_;conv=>arg 3;whnf
        exact Zd (ih _)
      ·refine Zc _ Zz fun x188 hx188=>?_
       clear hx188
       rcases x188 with x188 | x188
       ·conv=>arg 3;whnf
        refine ZbI rfl ?_;conv=>arg 3;whnf
        refine ZQ rfl ?_;conv=>arg 3;whnf
        refine Zg rfl ?_ ?_<;>conv=>arg 3;whnf
        ·refine Zg rfl ?_ ?_<;>conv=>arg 3;whnf
         ·refine Zc (Zb s0.1 x188.1 (w64 (s0.2.2.1-1)) x188.2) (hrc s0.1 x188.1 (w64 (s0.2.2.1-1)) x188.2) fun x189 hx189=>?_;conv=>arg 3;whnf
          exact Zd (ih _)
         ·refine Zc (Zb s0.1 x188.1 (w64 (s0.2.2.1-1)) x188.2) (hrc s0.1 x188.1 (w64 (s0.2.2.1-1)) x188.2) fun x190 hx190=>?_;conv=>arg 3;whnf
          exact Zd (ih _)
        ·refine Zg rfl ?_ ?_<;>conv=>arg 3;whnf
         ·refine Zc (Zb (w64 (x188.1+1)) s0.2.1 (w64 (s0.2.2.1-1)) x188.2) (hrc (w64 (x188.1+1)) s0.2.1 (w64 (s0.2.2.1-1)) x188.2) fun x191 hx191=>?_;conv=>arg 3;whnf
          exact Zd (ih _)
         ·refine Zc (Zb (w64 (x188.1+1)) s0.2.1 (w64 (s0.2.2.1-1)) x188.2) (hrc (w64 (x188.1+1)) s0.2.1 (w64 (s0.2.2.1-1)) x188.2) fun x192 hx192=>?_;conv=>arg 3;whnf
          exact Zd (ih _)
       ·conv=>arg 3;whnf
        refine ZQ rfl ?_;conv=>arg 3;whnf
        refine ZQ rfl ?_;conv=>arg 3;whnf
        refine Zg rfl ?_ ?_<;>conv=>arg 3;whnf
        ·refine Zg rfl ?_ ?_<;>conv=>arg 3;whnf
         ·refine Zc (Zb s0.1 x188.1 (w64 (s0.2.2.1-1)) x188.2) (hrc s0.1 x188.1 (w64 (s0.2.2.1-1)) x188.2) fun x193 hx193=>?_;conv=>arg 3;whnf
          exact Zd (ih _)
         ·refine Zc (Zb s0.1 x188.1 (w64 (s0.2.2.1-1)) x188.2) (hrc s0.1 x188.1 (w64 (s0.2.2.1-1)) x188.2) fun x194 hx194=>?_;conv=>arg 3;whnf
          exact Zd (ih _)
        ·refine Zg rfl ?_ ?_<;>conv=>arg 3;whnf
         ·refine Zc (Zb (w64 (x188.1+1)) s0.2.1 (w64 (s0.2.2.1-1)) x188.2) (hrc (w64 (x188.1+1)) s0.2.1 (w64 (s0.2.2.1-1)) x188.2) fun x195 hx195=>?_;conv=>arg 3;whnf
          exact Zd (ih _)
         ·refine Zc (Zb (w64 (x188.1+1)) s0.2.1 (w64 (s0.2.2.1-1)) x188.2) (hrc (w64 (x188.1+1)) s0.2.1 (w64 (s0.2.2.1-1)) x188.2) fun x196 hx196=>?_;conv=>arg 3;whnf
          exact Zd (ih _)
     ·refine Zg rfl ?_ ?_<;>conv=>arg 3;whnf
      ·refine Zj rfl rfl fun x197 hx197=>?_;conv=>arg 3;whnf
       refine Zf (Zl rfl hx197) ?_;conv=>arg 3;whnf
       refine Zj rfl rfl fun x198 hx198=>?_;conv=>arg 3;whnf
       refine Zf (Zl rfl hx198) ?_;conv=>arg 3;whnf
       refine Zs _ Z2 rfl fun x199 hx199=>?_;conv=>arg 3;whnf
       refine Zg rfl ?_ ?_<;>conv=>arg 3;whnf
       ·refine Zc _ Zz fun x200 hx200=>?_
        clear hx200
        rcases x200 with x200 | x200
        ·conv=>arg 3;whnf
         refine ZbI rfl ?_;conv=>arg 3;whnf
         refine ZQ rfl ?_;conv=>arg 3;whnf
         refine Zg rfl ?_ ?_<;>conv=>arg 3;whnf
         ·refine Zg rfl ?_ ?_<;>conv=>arg 3;whnf
          ·refine Zc (Zb s0.1 x200.1 (w64 (s0.2.2.1-1)) x200.2) (hrc s0.1 x200.1 (w64 (s0.2.2.1-1)) x200.2) fun x201 hx201=>?_;conv=>arg 3;whnf
           exact Zd (ih _)
          ·refine Zc (Zb s0.1 x200.1 (w64 (s0.2.2.1-1)) x200.2) (hrc s0.1 x200.1 (w64 (s0.2.2.1-1)) x200.2) fun x202 hx202=>?_;conv=>arg 3;whnf
           exact Zd (ih _)
         ·refine Zg rfl ?_ ?_<;>conv=>arg 3;whnf
          ·refine Zc (Zb (w64 (x200.1+1)) s0.2.1 (w64 (s0.2.2.1-1)) x200.2) (hrc (w64 (x200.1+1)) s0.2.1 (w64 (s0.2.2.1-1)) x200.2) fun x203 hx203=>?_;conv=>arg 3;whnf
           exact Zd (ih _)
          ·refine Zc (Zb (w64 (x200.1+1)) s0.2.1 (w64 (s0.2.2.1-1)) x200.2) (hrc (w64 (x200.1+1)) s0.2.1 (w64 (s0.2.2.1-1)) x200.2) fun x204 hx204=>?_;conv=>arg 3;whnf
           exact Zd (ih _)
        ·conv=>arg 3;whnf
         refine ZQ rfl ?_;conv=>arg 3;whnf
         refine ZQ rfl ?_;conv=>arg 3;whnf
         refine Zg rfl ?_ ?_<;>conv=>arg 3;whnf
         ·refine Zg rfl ?_ ?_<;>conv=>arg 3;whnf
          ·refine Zc (Zb s0.1 x200.1 (w64 (s0.2.2.1-1)) x200.2) (hrc s0.1 x200.1 (w64 (s0.2.2.1-1)) x200.2) fun x205 hx205=>?_;conv=>arg 3;whnf
           exact Zd (ih _)
          ·refine Zc (Zb s0.1 x200.1 (w64 (s0.2.2.1-1)) x200.2) (hrc s0.1 x200.1 (w64 (s0.2.2.1-1)) x200.2) fun x206 hx206=>?_;conv=>arg 3;whnf
           exact Zd (ih _)
         ·refine Zg rfl ?_ ?_<;>conv=>arg 3;whnf
          ·refine Zc (Zb (w64 (x200.1+1)) s0.2.1 (w64 (s0.2.2.1-1)) x200.2) (hrc (w64 (x200.1+1)) s0.2.1 (w64 (s0.2.2.1-1)) x200.2) fun x207 hx207=>?_;conv=>arg 3;whnf
           exact Zd (ih _)
          ·refine Zc (Zb (w64 (x200.1+1)) s0.2.1 (w64 (s0.2.2.1-1)) x200.2) (hrc (w64 (x200.1+1)) s0.2.1 (w64 (s0.2.2.1-1)) x200.2) fun x208 hx208=>?_;conv=>arg 3;whnf
           exact Zd (ih _)
       ·refine Zc _ Z7 fun x209 hx209=>?_;conv=>arg 3;whnf
        exact Zd (ih _)
      ·refine Zc _ Zz fun x210 hx210=>?_
       clear hx210
       rcases x210 with x210 | x210
       ·conv=>arg 3;whnf
        refine ZbI rfl ?_;conv=>arg 3;whnf
        refine ZQ rfl ?_;conv=>arg 3;whnf
        refine Zg rfl ?_ ?_<;>conv=>arg 3;whnf
        ·refine Zg rfl ?_ ?_<;>conv=>arg 3;whnf
         ·refine Zc (Zb s0.1 x210.1 (w64 (s0.2.2.1-1)) x210.2) (hrc s0.1 x210.1 (w64 (s0.2.2.1-1)) x210.2) fun x211 hx211=>?_;conv=>arg 3;whnf
          exact Zd (ih _)
         ·refine Zc (Zb s0.1 x210.1 (w64 (s0.2.2.1-1)) x210.2) (hrc s0.1 x210.1 (w64 (s0.2.2.1-1)) x210.2) fun x212 hx212=>?_;conv=>arg 3;whnf
          exact Zd (ih _)
        ·refine Zg rfl ?_ ?_<;>conv=>arg 3;whnf
         ·refine Zc (Zb (w64 (x210.1+1)) s0.2.1 (w64 (s0.2.2.1-1)) x210.2) (hrc (w64 (x210.1+1)) s0.2.1 (w64 (s0.2.2.1-1)) x210.2) fun x213 hx213=>?_;conv=>arg 3;whnf
          exact Zd (ih _)
         ·refine Zc (Zb (w64 (x210.1+1)) s0.2.1 (w64 (s0.2.2.1-1)) x210.2) (hrc (w64 (x210.1+1)) s0.2.1 (w64 (s0.2.2.1-1)) x210.2) fun x214 hx214=>?_;conv=>arg 3;whnf
          exact Zd (ih _)
       ·conv=>arg 3;whnf
        refine ZQ rfl ?_;conv=>arg 3;whnf
        refine ZQ rfl ?_;conv=>arg 3;whnf
        refine Zg rfl ?_ ?_<;>conv=>arg 3;whnf
        ·refine Zg rfl ?_ ?_<;>conv=>arg 3;whnf
         ·refine Zc (Zb s0.1 x210.1 (w64 (s0.2.2.1-1)) x210.2) (hrc s0.1 x210.1 (w64 (s0.2.2.1-1)) x210.2) fun x215 hx215=>?_;conv=>arg 3;whnf
          exact Zd (ih _)
         ·refine Zc (Zb s0.1 x210.1 (w64 (s0.2.2.1-1)) x210.2) (hrc s0.1 x210.1 (w64 (s0.2.2.1-1)) x210.2) fun x216 hx216=>?_;conv=>arg 3;whnf
          exact Zd (ih _)
        ·refine Zg rfl ?_ ?_<;>conv=>arg 3;whnf
         ·refine Zc (Zb (w64 (x210.1+1)) s0.2.1 (w64 (s0.2.2.1-1)) x210.2) (hrc (w64 (x210.1+1)) s0.2.1 (w64 (s0.2.2.1-1)) x210.2) fun x217 hx217=>?_;conv=>arg 3;whnf
          exact Zd (ih _)
         ·refine Zc (Zb (w64 (x210.1+1)) s0.2.1 (w64 (s0.2.2.1-1)) x210.2) (hrc (w64 (x210.1+1)) s0.2.1 (w64 (s0.2.2.1-1)) x210.2) fun x218 hx218=>?_;conv=>arg 3;whnf
          exact Zd (ih _)
  ·refine ZnJ ?_;conv=>arg 3;whnf
   refine Zg rfl ?_ ?_<;>conv=>arg 3;whnf
   ·refine Zc _ Zb1 fun x121 hx121=>?_;conv=>arg 3;whnf
    exact Zh rfl
   ·refine Zg rfl ?_ ?_<;>conv=>arg 3;whnf
    ·refine Zc _ ZcB fun x122 hx122=>?_;conv=>arg 3;whnf
     exact Zh rfl
    ·refine Zc _ Zex fun x123 hx123=>?_;conv=>arg 3;whnf
     refine Zc _ Zb8 fun x124 hx124=>?_;conv=>arg 3;whnf
     refine Zg rfl ?_ ?_<;>conv=>arg 3;whnf
     ·refine Zc _ Zb5 fun x125 hx125=>?_;conv=>arg 3;whnf
      refine Zg rfl ?_ ?_<;>conv=>arg 3;whnf
      ·refine Zj rfl rfl fun x126 hx126=>?_;conv=>arg 3;whnf
       refine Zf (Zl rfl hx126) ?_;conv=>arg 3;whnf
       refine Zj rfl rfl fun x127 hx127=>?_;conv=>arg 3;whnf
       refine Zf (Zl rfl hx127) ?_;conv=>arg 3;whnf
       refine Zs _ Z2 rfl fun x128 hx128=>?_;conv=>arg 3;whnf
       refine Zg rfl ?_ ?_<;>conv=>arg 3;whnf
       ·refine Zc _ Zz fun x129 hx129=>?_
        clear hx129
        rcases x129 with x129 | x129
        ·conv=>arg 3;whnf
         refine ZbI rfl ?_;conv=>arg 3;whnf
         refine ZQ rfl ?_;conv=>arg 3;whnf
         refine Zg rfl ?_ ?_<;>conv=>arg 3;whnf
         ·refine Zg rfl ?_ ?_<;>conv=>arg 3;whnf
          ·refine Zc (Zb s0.1 x129.1 (w64 (s0.2.2.1-1)) x129.2) (hrc s0.1 x129.1 (w64 (s0.2.2.1-1)) x129.2) fun x130 hx130=>?_;conv=>arg 3;whnf
           exact Zd (ih _)
          ·refine Zc (Zb s0.1 x129.1 (w64 (s0.2.2.1-1)) x129.2) (hrc s0.1 x129.1 (w64 (s0.2.2.1-1)) x129.2) fun x131 hx131=>?_;conv=>arg 3;whnf
           exact Zd (ih _)
         ·refine Zg rfl ?_ ?_<;>conv=>arg 3;whnf
          ·refine Zc (Zb (w64 (x129.1+1)) s0.2.1 (w64 (s0.2.2.1-1)) x129.2) (hrc (w64 (x129.1+1)) s0.2.1 (w64 (s0.2.2.1-1)) x129.2) fun x132 hx132=>?_;conv=>arg 3;whnf
           exact Zd (ih _)
          ·refine Zc (Zb (w64 (x129.1+1)) s0.2.1 (w64 (s0.2.2.1-1)) x129.2) (hrc (w64 (x129.1+1)) s0.2.1 (w64 (s0.2.2.1-1)) x129.2) fun x133 hx133=>?_;conv=>arg 3;whnf
           exact Zd (ih _)
        ·conv=>arg 3;whnf
         refine ZQ rfl ?_;conv=>arg 3;whnf
         refine ZQ rfl ?_;conv=>arg 3;whnf
         refine Zg rfl ?_ ?_<;>conv=>arg 3;whnf
         ·refine Zg rfl ?_ ?_<;>conv=>arg 3;whnf
          ·refine Zc (Zb s0.1 x129.1 (w64 (s0.2.2.1-1)) x129.2) (hrc s0.1 x129.1 (w64 (s0.2.2.1-1)) x129.2) fun x134 hx134=>?_;conv=>arg 3;whnf
           exact Zd (ih _)
          ·refine Zc (Zb s0.1 x129.1 (w64 (s0.2.2.1-1)) x129.2) (hrc s0.1 x129.1 (w64 (s0.2.2.1-1)) x129.2) fun x135 hx135=>?_;conv=>arg 3;whnf
           exact Zd (ih _)
         ·refine Zg rfl ?_ ?_<;>conv=>arg 3;whnf
          ·refine Zc (Zb (w64 (x129.1+1)) s0.2.1 (w64 (s0.2.2.1-1)) x129.2) (hrc (w64 (x129.1+1)) s0.2.1 (w64 (s0.2.2.1-1)) x129.2) fun x136 hx136=>?_;conv=>arg 3;whnf
           exact Zd (ih _)
          ·refine Zc (Zb (w64 (x129.1+1)) s0.2.1 (w64 (s0.2.2.1-1)) x129.2) (hrc (w64 (x129.1+1)) s0.2.1 (w64 (s0.2.2.1-1)) x129.2) fun x137 hx137=>?_;conv=>arg 3;whnf
           exact Zd (ih _)
       ·refine Zc _ Z7 fun x138 hx138=>?_;conv=>arg 3;whnf
        exact Zd (ih _)
      ·refine Zc _ Zz fun x139 hx139=>?_
       clear hx139
       rcases x139 with x139 | x139
       ·conv=>arg 3;whnf
        refine ZbI rfl ?_;conv=>arg 3;whnf
        refine ZQ rfl ?_;conv=>arg 3;whnf
        refine Zg rfl ?_ ?_<;>conv=>arg 3;whnf
        ·refine Zg rfl ?_ ?_<;>conv=>arg 3;whnf
         ·refine Zc (Zb s0.1 x139.1 (w64 (s0.2.2.1-1)) x139.2) (hrc s0.1 x139.1 (w64 (s0.2.2.1-1)) x139.2) fun x140 hx140=>?_;conv=>arg 3;whnf
          exact Zd (ih _)
         ·refine Zc (Zb s0.1 x139.1 (w64 (s0.2.2.1-1)) x139.2) (hrc s0.1 x139.1 (w64 (s0.2.2.1-1)) x139.2) fun x141 hx141=>?_;conv=>arg 3;whnf
          exact Zd (ih _)
        ·refine Zg rfl ?_ ?_<;>conv=>arg 3;whnf
         ·refine Zc (Zb (w64 (x139.1+1)) s0.2.1 (w64 (s0.2.2.1-1)) x139.2) (hrc (w64 (x139.1+1)) s0.2.1 (w64 (s0.2.2.1-1)) x139.2) fun x142 hx142=>?_;conv=>arg 3;whnf
          exact Zd (ih _)
         ·refine Zc (Zb (w64 (x139.1+1)) s0.2.1 (w64 (s0.2.2.1-1)) x139.2) (hrc (w64 (x139.1+1)) s0.2.1 (w64 (s0.2.2.1-1)) x139.2) fun x143 hx143=>?_;conv=>arg 3;whnf
          exact Zd (ih _)
       ·conv=>arg 3;whnf
        refine ZQ rfl ?_;conv=>arg 3;whnf
        refine ZQ rfl ?_;conv=>arg 3;whnf
        refine Zg rfl ?_ ?_<;>conv=>arg 3;whnf
        ·refine Zg rfl ?_ ?_<;>conv=>arg 3;whnf
         ·refine Zc (Zb s0.1 x139.1 (w64 (s0.2.2.1-1)) x139.2) (hrc s0.1 x139.1 (w64 (s0.2.2.1-1)) x139.2) fun x144 hx144=>?_;conv=>arg 3;whnf
          exact Zd (ih _)
         ·refine Zc (Zb s0.1 x139.1 (w64 (s0.2.2.1-1)) x139.2) (hrc s0.1 x139.1 (w64 (s0.2.2.1-1)) x139.2) fun x145 hx145=>?_;conv=>arg 3;whnf
          exact Zd (ih _)
        ·refine Zg rfl ?_ ?_<;>conv=>arg 3;whnf
         ·refine Zc (Zb (w64 (x139.1+1)) s0.2.1 (w64 (s0.2.2.1-1)) x139.2) (hrc (w64 (x139.1+1)) s0.2.1 (w64 (s0.2.2.1-1)) x139.2) fun x146 hx146=>?_;conv=>arg 3;whnf
          exact Zd (ih _)
         ·refine Zc (Zb (w64 (x139.1+1)) s0.2.1 (w64 (s0.2.2.1-1)) x139.2) (hrc (w64 (x139.1+1)) s0.2.1 (w64 (s0.2.2.1-1)) x139.2) fun x147 hx147=>?_;conv=>arg 3;whnf
          exact Zd (ih _)
     ·refine Zg rfl ?_ ?_<;>conv=>arg 3;whnf
      ·refine Zj rfl rfl fun x148 hx148=>?_;conv=>arg 3;whnf
       refine Zf (Zl rfl hx148) ?_;conv=>arg 3;whnf
       refine Zj rfl rfl fun x149 hx149=>?_;conv=>arg 3;whnf
       refine Zf (Zl rfl hx149) ?_;conv=>arg 3;whnf
       refine Zs _ Z2 rfl fun x150 hx150=>?_;conv=>arg 3;whnf
       refine Zg rfl ?_ ?_<;>conv=>arg 3;whnf
       ·refine Zc _ Zz fun x151 hx151=>?_
        clear hx151
        rcases x151 with x151 | x151
        ·conv=>arg 3;whnf
         refine ZbI rfl ?_;conv=>arg 3;whnf
         refine ZQ rfl ?_;conv=>arg 3;whnf
         refine Zg rfl ?_ ?_<;>conv=>arg 3;whnf
         ·refine Zg rfl ?_ ?_<;>conv=>arg 3;whnf
          ·refine Zc (Zb s0.1 x151.1 (w64 (s0.2.2.1-1)) x151.2) (hrc s0.1 x151.1 (w64 (s0.2.2.1-1)) x151.2) fun x152 hx152=>?_;conv=>arg 3;whnf
           exact Zd (ih _)
          ·refine Zc (Zb s0.1 x151.1 (w64 (s0.2.2.1-1)) x151.2) (hrc s0.1 x151.1 (w64 (s0.2.2.1-1)) x151.2) fun x153 hx153=>?_;conv=>arg 3;whnf
           exact Zd (ih _)
         ·refine Zg rfl ?_ ?_<;>conv=>arg 3;whnf
          ·refine Zc (Zb (w64 (x151.1+1)) s0.2.1 (w64 (s0.2.2.1-1)) x151.2) (hrc (w64 (x151.1+1)) s0.2.1 (w64 (s0.2.2.1-1)) x151.2) fun x154 hx154=>?_;conv=>arg 3;whnf
           exact Zd (ih _)
          ·refine Zc (Zb (w64 (x151.1+1)) s0.2.1 (w64 (s0.2.2.1-1)) x151.2) (hrc (w64 (x151.1+1)) s0.2.1 (w64 (s0.2.2.1-1)) x151.2) fun x155 hx155=>?_;conv=>arg 3;whnf
           exact Zd (ih _)
        ·conv=>arg 3;whnf
         refine ZQ rfl ?_;conv=>arg 3;whnf
         refine ZQ rfl ?_;conv=>arg 3;whnf
         refine Zg rfl ?_ ?_<;>conv=>arg 3;whnf
         ·refine Zg rfl ?_ ?_<;>conv=>arg 3;whnf
          ·refine Zc (Zb s0.1 x151.1 (w64 (s0.2.2.1-1)) x151.2) (hrc s0.1 x151.1 (w64 (s0.2.2.1-1)) x151.2) fun x156 hx156=>?_;conv=>arg 3;whnf
           exact Zd (ih _)
          ·refine Zc (Zb s0.1 x151.1 (w64 (s0.2.2.1-1)) x151.2) (hrc s0.1 x151.1 (w64 (s0.2.2.1-1)) x151.2) fun x157 hx157=>?_;conv=>arg 3;whnf
           exact Zd (ih _)
         ·refine Zg rfl ?_ ?_<;>conv=>arg 3;whnf
          ·refine Zc (Zb (w64 (x151.1+1)) s0.2.1 (w64 (s0.2.2.1-1)) x151.2) (hrc (w64 (x151.1+1)) s0.2.1 (w64 (s0.2.2.1-1)) x151.2) fun x158 hx158=>?_;conv=>arg 3;whnf
           exact Zd (ih _)
          ·refine Zc (Zb (w64 (x151.1+1)) s0.2.1 (w64 (s0.2.2.1-1)) x151.2) (hrc (w64 (x151.1+1)) s0.2.1 (w64 (s0.2.2.1-1)) x151.2) fun x159 hx159=>?_;conv=>arg 3;whnf
           exact Zd (ih _)
       ·refine Zc _ Z7 fun x160 hx160=>?_;conv=>arg 3;whnf
        exact Zd (ih _)
      ·refine Zc _ Zz fun x161 hx161=>?_
       clear hx161
       rcases x161 with x161 | x161
       ·conv=>arg 3;whnf
        refine ZbI rfl ?_;conv=>arg 3;whnf
        refine ZQ rfl ?_;conv=>arg 3;whnf
        refine Zg rfl ?_ ?_<;>conv=>arg 3;whnf
        ·refine Zg rfl ?_ ?_<;>conv=>arg 3;whnf
         ·refine Zc (Zb s0.1 x161.1 (w64 (s0.2.2.1-1)) x161.2) (hrc s0.1 x161.1 (w64 (s0.2.2.1-1)) x161.2) fun x162 hx162=>?_;conv=>arg 3;whnf
          exact Zd (ih _)
         ·refine Zc (Zb s0.1 x161.1 (w64 (s0.2.2.1-1)) x161.2) (hrc s0.1 x161.1 (w64 (s0.2.2.1-1)) x161.2) fun x163 hx163=>?_;conv=>arg 3;whnf
          exact Zd (ih _)
        ·refine Zg rfl ?_ ?_<;>conv=>arg 3;whnf
         ·refine Zc (Zb (w64 (x161.1+1)) s0.2.1 (w64 (s0.2.2.1-1)) x161.2) (hrc (w64 (x161.1+1)) s0.2.1 (w64 (s0.2.2.1-1)) x161.2) fun x164 hx164=>?_;conv=>arg 3;whnf
          exact Zd (ih _)
         ·refine Zc (Zb (w64 (x161.1+1)) s0.2.1 (w64 (s0.2.2.1-1)) x161.2) (hrc (w64 (x161.1+1)) s0.2.1 (w64 (s0.2.2.1-1)) x161.2) fun x165 hx165=>?_;conv=>arg 3;whnf
          exact Zd (ih _)
       ·conv=>arg 3;whnf
        refine ZQ rfl ?_;conv=>arg 3;whnf
        refine ZQ rfl ?_;conv=>arg 3;whnf
        refine Zg rfl ?_ ?_<;>conv=>arg 3;whnf
        ·refine Zg rfl ?_ ?_<;>conv=>arg 3;whnf
         ·refine Zc (Zb s0.1 x161.1 (w64 (s0.2.2.1-1)) x161.2) (hrc s0.1 x161.1 (w64 (s0.2.2.1-1)) x161.2) fun x166 hx166=>?_;conv=>arg 3;whnf
          exact Zd (ih _)
         ·refine Zc (Zb s0.1 x161.1 (w64 (s0.2.2.1-1)) x161.2) (hrc s0.1 x161.1 (w64 (s0.2.2.1-1)) x161.2) fun x167 hx167=>?_;conv=>arg 3;whnf
          exact Zd (ih _)
        ·refine Zg rfl ?_ ?_<;>conv=>arg 3;whnf
         ·refine Zc (Zb (w64 (x161.1+1)) s0.2.1 (w64 (s0.2.2.1-1)) x161.2) (hrc (w64 (x161.1+1)) s0.2.1 (w64 (s0.2.2.1-1)) x161.2) fun x168 hx168=>?_;conv=>arg 3;whnf
          exact Zd (ih _)
         ·refine Zc (Zb (w64 (x161.1+1)) s0.2.1 (w64 (s0.2.2.1-1)) x161.2) (hrc (w64 (x161.1+1)) s0.2.1 (w64 (s0.2.2.1-1)) x161.2) fun x169 hx169=>?_;conv=>arg 3;whnf
          exact Zd (ih _)
 ·refine ZnJ ?_
  rcases hb:s0.2.2.2.2.1 with _ | _
  ·refine ZnZ ?_;conv=>arg 3;whnf
   refine Zg rfl ?_ ?_<;>conv=>arg 3;whnf
   ·refine Zc _ Zb1 fun x73 hx73=>?_;conv=>arg 3;whnf
    exact Zh rfl
   ·refine Zg rfl ?_ ?_<;>conv=>arg 3;whnf
    ·refine Zc _ ZcB fun x74 hx74=>?_;conv=>arg 3;whnf
     exact Zh rfl
    ·refine Zc _ Zb8 fun x75 hx75=>?_;conv=>arg 3;whnf
     refine Zg rfl ?_ ?_<;>conv=>arg 3;whnf
     ·refine Zc _ Zb5 fun x76 hx76=>?_;conv=>arg 3;whnf
      refine Zg rfl ?_ ?_<;>conv=>arg 3;whnf
      ·refine Zj rfl rfl fun x77 hx77=>?_;conv=>arg 3;whnf
       refine Zf (Zl rfl hx77) ?_;conv=>arg 3;whnf
       refine Zj rfl rfl fun x78 hx78=>?_;conv=>arg 3;whnf
       refine Zf (Zl rfl hx78) ?_;conv=>arg 3;whnf
       refine Zs _ Z2 rfl fun x79 hx79=>?_;conv=>arg 3;whnf
       refine Zg rfl ?_ ?_<;>conv=>arg 3;whnf
       ·refine Zc _ Zz fun x80 hx80=>?_
        clear hx80
        rcases x80 with x80 | x80
        ·conv=>arg 3;whnf
         refine ZbI rfl ?_;conv=>arg 3;whnf
         refine ZQ rfl ?_;conv=>arg 3;whnf
         refine Zg rfl ?_ ?_<;>conv=>arg 3;whnf
         ·refine Zg rfl ?_ ?_<;>conv=>arg 3;whnf
          ·refine Zc (Zb s0.1 x80.1 s0.2.2.1 x80.2) (hrc s0.1 x80.1 s0.2.2.1 x80.2) fun x81 hx81=>?_;conv=>arg 3;whnf
           exact Zd (ih _)
          ·refine Zc (Zb s0.1 x80.1 s0.2.2.1 x80.2) (hrc s0.1 x80.1 s0.2.2.1 x80.2) fun x82 hx82=>?_;conv=>arg 3;whnf
           exact Zd (ih _)
         ·refine Zg rfl ?_ ?_<;>conv=>arg 3;whnf
          ·refine Zc (Zb (w64 (x80.1+1)) s0.2.1 s0.2.2.1 x80.2) (hrc (w64 (x80.1+1)) s0.2.1 s0.2.2.1 x80.2) fun x83 hx83=>?_;conv=>arg 3;whnf
           exact Zd (ih _)
          ·refine Zc (Zb (w64 (x80.1+1)) s0.2.1 s0.2.2.1 x80.2) (hrc (w64 (x80.1+1)) s0.2.1 s0.2.2.1 x80.2) fun x84 hx84=>?_;conv=>arg 3;whnf
           exact Zd (ih _)
        ·conv=>arg 3;whnf
         refine ZQ rfl ?_;conv=>arg 3;whnf
         refine ZQ rfl ?_;conv=>arg 3;whnf
         refine Zg rfl ?_ ?_<;>conv=>arg 3;whnf
         ·refine Zg rfl ?_ ?_<;>conv=>arg 3;whnf
          ·refine Zc (Zb s0.1 x80.1 s0.2.2.1 x80.2) (hrc s0.1 x80.1 s0.2.2.1 x80.2) fun x85 hx85=>?_;conv=>arg 3;whnf
           exact Zd (ih _)
          ·refine Zc (Zb s0.1 x80.1 s0.2.2.1 x80.2) (hrc s0.1 x80.1 s0.2.2.1 x80.2) fun x86 hx86=>?_;conv=>arg 3;whnf
           exact Zd (ih _)
         ·refine Zg rfl ?_ ?_<;>conv=>arg 3;whnf
          ·refine Zc (Zb (w64 (x80.1+1)) s0.2.1 s0.2.2.1 x80.2) (hrc (w64 (x80.1+1)) s0.2.1 s0.2.2.1 x80.2) fun x87 hx87=>?_;conv=>arg 3;whnf
           exact Zd (ih _)
          ·refine Zc (Zb (w64 (x80.1+1)) s0.2.1 s0.2.2.1 x80.2) (hrc (w64 (x80.1+1)) s0.2.1 s0.2.2.1 x80.2) fun x88 hx88=>?_;conv=>arg 3;whnf
           exact Zd (ih _)
       ·refine Zc _ Z7 fun x89 hx89=>?_;conv=>arg 3;whnf
        exact Zd (ih _)
      ·refine Zc _ Zz fun x90 hx90=>?_
       clear hx90
       rcases x90 with x90 | x90
       ·conv=>arg 3;whnf
        refine ZbI rfl ?_;conv=>arg 3;whnf
        refine ZQ rfl ?_;conv=>arg 3;whnf
        refine Zg rfl ?_ ?_<;>conv=>arg 3;whnf
        ·refine Zg rfl ?_ ?_<;>conv=>arg 3;whnf
         ·refine Zc (Zb s0.1 x90.1 s0.2.2.1 x90.2) (hrc s0.1 x90.1 s0.2.2.1 x90.2) fun x91 hx91=>?_;conv=>arg 3;whnf
          exact Zd (ih _)
         ·refine Zc (Zb s0.1 x90.1 s0.2.2.1 x90.2) (hrc s0.1 x90.1 s0.2.2.1 x90.2) fun x92 hx92=>?_;conv=>arg 3;whnf
          exact Zd (ih _)
        ·refine Zg rfl ?_ ?_<;>conv=>arg 3;whnf
         ·refine Zc (Zb (w64 (x90.1+1)) s0.2.1 s0.2.2.1 x90.2) (hrc (w64 (x90.1+1)) s0.2.1 s0.2.2.1 x90.2) fun x93 hx93=>?_;conv=>arg 3;whnf
          exact Zd (ih _)
         ·refine Zc (Zb (w64 (x90.1+1)) s0.2.1 s0.2.2.1 x90.2) (hrc (w64 (x90.1+1)) s0.2.1 s0.2.2.1 x90.2) fun x94 hx94=>?_;conv=>arg 3;whnf
          exact Zd (ih _)
       ·conv=>arg 3;whnf
        refine ZQ rfl ?_;conv=>arg 3;whnf
        refine ZQ rfl ?_;conv=>arg 3;whnf
        refine Zg rfl ?_ ?_<;>conv=>arg 3;whnf
        ·refine Zg rfl ?_ ?_<;>conv=>arg 3;whnf
         ·refine Zc (Zb s0.1 x90.1 s0.2.2.1 x90.2) (hrc s0.1 x90.1 s0.2.2.1 x90.2) fun x95 hx95=>?_;conv=>arg 3;whnf
          exact Zd (ih _)
         ·refine Zc (Zb s0.1 x90.1 s0.2.2.1 x90.2) (hrc s0.1 x90.1 s0.2.2.1 x90.2) fun x96 hx96=>?_;conv=>arg 3;whnf
          exact Zd (ih _)
        ·refine Zg rfl ?_ ?_<;>conv=>arg 3;whnf
         ·refine Zc (Zb (w64 (x90.1+1)) s0.2.1 s0.2.2.1 x90.2) (hrc (w64 (x90.1+1)) s0.2.1 s0.2.2.1 x90.2) fun x97 hx97=>?_;conv=>arg 3;whnf
          exact Zd (ih _)
         ·refine Zc (Zb (w64 (x90.1+1)) s0.2.1 s0.2.2.1 x90.2) (hrc (w64 (x90.1+1)) s0.2.1 s0.2.2.1 x90.2) fun x98 hx98=>?_;conv=>arg 3;whnf
          exact Zd (ih _)
     ·refine Zg rfl ?_ ?_<;>conv=>arg 3;whnf
      ·refine Zj rfl rfl fun x99 hx99=>?_;conv=>arg 3;whnf
       refine Zf (Zl rfl hx99) ?_;conv=>arg 3;whnf
       refine Zj rfl rfl fun x100 hx100=>?_;conv=>arg 3;whnf
       refine Zf (Zl rfl hx100) ?_;conv=>arg 3;whnf
       refine Zs _ Z2 rfl fun x101 hx101=>?_;conv=>arg 3;whnf
       refine Zg rfl ?_ ?_<;>conv=>arg 3;whnf
       ·refine Zc _ Zz fun x102 hx102=>?_
        clear hx102
        rcases x102 with x102 | x102
        ·conv=>arg 3;whnf
         refine ZbI rfl ?_;conv=>arg 3;whnf
         refine ZQ rfl ?_;conv=>arg 3;whnf
         refine Zg rfl ?_ ?_<;>conv=>arg 3;whnf
         ·refine Zg rfl ?_ ?_<;>conv=>arg 3;whnf
          ·refine Zc (Zb s0.1 x102.1 s0.2.2.1 x102.2) (hrc s0.1 x102.1 s0.2.2.1 x102.2) fun x103 hx103=>?_;conv=>arg 3;whnf
           exact Zd (ih _)
          ·refine Zc (Zb s0.1 x102.1 s0.2.2.1 x102.2) (hrc s0.1 x102.1 s0.2.2.1 x102.2) fun x104 hx104=>?_;conv=>arg 3;whnf
           exact Zd (ih _)
         ·refine Zg rfl ?_ ?_<;>conv=>arg 3;whnf
          ·refine Zc (Zb (w64 (x102.1+1)) s0.2.1 s0.2.2.1 x102.2) (hrc (w64 (x102.1+1)) s0.2.1 s0.2.2.1 x102.2) fun x105 hx105=>?_;conv=>arg 3;whnf
           exact Zd (ih _)
          ·refine Zc (Zb (w64 (x102.1+1)) s0.2.1 s0.2.2.1 x102.2) (hrc (w64 (x102.1+1)) s0.2.1 s0.2.2.1 x102.2) fun x106 hx106=>?_;conv=>arg 3;whnf
           exact Zd (ih _)
        ·conv=>arg 3;whnf
         refine ZQ rfl ?_;conv=>arg 3;whnf
         refine ZQ rfl ?_;conv=>arg 3;whnf
         refine Zg rfl ?_ ?_<;>conv=>arg 3;whnf
         ·refine Zg rfl ?_ ?_<;>conv=>arg 3;whnf
          ·refine Zc (Zb s0.1 x102.1 s0.2.2.1 x102.2) (hrc s0.1 x102.1 s0.2.2.1 x102.2) fun x107 hx107=>?_;conv=>arg 3;whnf
           exact Zd (ih _)
          ·refine Zc (Zb s0.1 x102.1 s0.2.2.1 x102.2) (hrc s0.1 x102.1 s0.2.2.1 x102.2) fun x108 hx108=>?_;conv=>arg 3;whnf
           exact Zd (ih _)
         ·refine Zg rfl ?_ ?_<;>conv=>arg 3;whnf
          ·refine Zc (Zb (w64 (x102.1+1)) s0.2.1 s0.2.2.1 x102.2) (hrc (w64 (x102.1+1)) s0.2.1 s0.2.2.1 x102.2) fun x109 hx109=>?_;conv=>arg 3;whnf
           exact Zd (ih _)
          ·refine Zc (Zb (w64 (x102.1+1)) s0.2.1 s0.2.2.1 x102.2) (hrc (w64 (x102.1+1)) s0.2.1 s0.2.2.1 x102.2) fun x110 hx110=>?_;conv=>arg 3;whnf
           exact Zd (ih _)
       ·refine Zc _ Z7 fun x111 hx111=>?_;conv=>arg 3;whnf
        exact Zd (ih _)
      ·refine Zc _ Zz fun x112 hx112=>?_
       clear hx112
       rcases x112 with x112 | x112
       ·conv=>arg 3;whnf
        refine ZbI rfl ?_;conv=>arg 3;whnf
        refine ZQ rfl ?_;conv=>arg 3;whnf
        refine Zg rfl ?_ ?_<;>conv=>arg 3;whnf
        ·refine Zg rfl ?_ ?_<;>conv=>arg 3;whnf
         ·refine Zc (Zb s0.1 x112.1 s0.2.2.1 x112.2) (hrc s0.1 x112.1 s0.2.2.1 x112.2) fun x113 hx113=>?_;conv=>arg 3;whnf
          exact Zd (ih _)
         ·refine Zc (Zb s0.1 x112.1 s0.2.2.1 x112.2) (hrc s0.1 x112.1 s0.2.2.1 x112.2) fun x114 hx114=>?_;conv=>arg 3;whnf
          exact Zd (ih _)
        ·refine Zg rfl ?_ ?_<;>conv=>arg 3;whnf
         ·refine Zc (Zb (w64 (x112.1+1)) s0.2.1 s0.2.2.1 x112.2) (hrc (w64 (x112.1+1)) s0.2.1 s0.2.2.1 x112.2) fun x115 hx115=>?_;conv=>arg 3;whnf
          exact Zd (ih _)
         ·refine Zc (Zb (w64 (x112.1+1)) s0.2.1 s0.2.2.1 x112.2) (hrc (w64 (x112.1+1)) s0.2.1 s0.2.2.1 x112.2) fun x116 hx116=>?_;conv=>arg 3;whnf
          exact Zd (ih _)
       ·conv=>arg 3;whnf
        refine ZQ rfl ?_;conv=>arg 3;whnf
        refine ZQ rfl ?_;conv=>arg 3;whnf
        refine Zg rfl ?_ ?_<;>conv=>arg 3;whnf
        ·refine Zg rfl ?_ ?_<;>conv=>arg 3;whnf
         ·refine Zc (Zb s0.1 x112.1 s0.2.2.1 x112.2) (hrc s0.1 x112.1 s0.2.2.1 x112.2) fun x117 hx117=>?_;conv=>arg 3;whnf
          exact Zd (ih _)
         ·refine Zc (Zb s0.1 x112.1 s0.2.2.1 x112.2) (hrc s0.1 x112.1 s0.2.2.1 x112.2) fun x118 hx118=>?_;conv=>arg 3;whnf
          exact Zd (ih _)
        ·refine Zg rfl ?_ ?_<;>conv=>arg 3;whnf
         ·refine Zc (Zb (w64 (x112.1+1)) s0.2.1 s0.2.2.1 x112.2) (hrc (w64 (x112.1+1)) s0.2.1 s0.2.2.1 x112.2) fun x119 hx119=>?_;conv=>arg 3;whnf
          exact Zd (ih _)
         ·refine Zc (Zb (w64 (x112.1+1)) s0.2.1 s0.2.2.1 x112.2) (hrc (w64 (x112.1+1)) s0.2.1 s0.2.2.1 x112.2) fun x120 hx120=>?_;conv=>arg 3;whnf
          exact Zd (ih _)
  ·refine ZnJ ?_;conv=>arg 3;whnf
   refine Zg rfl ?_ ?_<;>conv=>arg 3;whnf
   ·refine Zc _ Zb1 fun x1 hx1=>?_;conv=>arg 3;whnf
    exact Zh rfl
   ·refine Zg rfl ?_ ?_<;>conv=>arg 3;whnf
    ·refine Zc _ ZcB fun x2 hx2=>?_;conv=>arg 3;whnf
     exact Zh rfl
    ·refine Zc _ Zb8 fun x3 hx3=>?_;conv=>arg 3;whnf
     refine Zg rfl ?_ ?_<;>conv=>arg 3;whnf
     ·refine Zc _ Zb5 fun x4 hx4=>?_;conv=>arg 3;whnf
      refine ZbI rfl ?_;conv=>arg 3;whnf
      refine Zc _ Zdw fun x5 hx5=>?_
      clear hx5
      rcases x5 with x5 | x5
      ·conv=>arg 3;whnf
       exact Zh rfl
      ·conv=>arg 3;whnf
       refine Zg rfl ?_ ?_<;>conv=>arg 3;whnf
       ·refine Zj rfl rfl fun x6 hx6=>?_;conv=>arg 3;whnf
        refine Zf (Zl rfl hx6) ?_;conv=>arg 3;whnf
        refine Zj rfl rfl fun x7 hx7=>?_;conv=>arg 3;whnf
        refine Zf (Zl rfl hx7) ?_;conv=>arg 3;whnf
        refine Zs _ Z2 rfl fun x8 hx8=>?_;conv=>arg 3;whnf
        refine Zg rfl ?_ ?_<;>conv=>arg 3;whnf
        ·refine Zc _ Zz fun x9 hx9=>?_
         clear hx9
         rcases x9 with x9 | x9
         ·conv=>arg 3;whnf
          refine ZbI rfl ?_;conv=>arg 3;whnf
          refine ZQ rfl ?_;conv=>arg 3;whnf
          refine Zg rfl ?_ ?_<;>conv=>arg 3;whnf
          ·refine Zg rfl ?_ ?_<;>conv=>arg 3;whnf
           ·refine Zc (Zb s0.1 x9.1 s0.2.2.1 x9.2) (hrc s0.1 x9.1 s0.2.2.1 x9.2) fun x10 hx10=>?_;conv=>arg 3;whnf
            exact Zd (ih _)
           ·refine Zc (Zb s0.1 x9.1 s0.2.2.1 x9.2) (hrc s0.1 x9.1 s0.2.2.1 x9.2) fun x11 hx11=>?_;conv=>arg 3;whnf
            exact Zd (ih _)
          ·refine Zg rfl ?_ ?_<;>conv=>arg 3;whnf
           ·refine Zc (Zb (w64 (x9.1+1)) s0.2.1 s0.2.2.1 x9.2) (hrc (w64 (x9.1+1)) s0.2.1 s0.2.2.1 x9.2) fun x12 hx12=>?_;conv=>arg 3;whnf
            exact Zd (ih _)
           ·refine Zc (Zb (w64 (x9.1+1)) s0.2.1 s0.2.2.1 x9.2) (hrc (w64 (x9.1+1)) s0.2.1 s0.2.2.1 x9.2) fun x13 hx13=>?_;conv=>arg 3;whnf
            exact Zd (ih _)
         ·conv=>arg 3;whnf
          refine ZQ rfl ?_;conv=>arg 3;whnf
          refine ZQ rfl ?_;conv=>arg 3;whnf
          refine Zg rfl ?_ ?_<;>conv=>arg 3;whnf
          ·refine Zg rfl ?_ ?_<;>conv=>arg 3;whnf
           ·refine Zc (Zb s0.1 x9.1 s0.2.2.1 x9.2) (hrc s0.1 x9.1 s0.2.2.1 x9.2) fun x14 hx14=>?_;conv=>arg 3;whnf
            exact Zd (ih _)
           ·refine Zc (Zb s0.1 x9.1 s0.2.2.1 x9.2) (hrc s0.1 x9.1 s0.2.2.1 x9.2) fun x15 hx15=>?_;conv=>arg 3;whnf
            exact Zd (ih _)
          ·refine Zg rfl ?_ ?_<;>conv=>arg 3;whnf
           ·refine Zc (Zb (w64 (x9.1+1)) s0.2.1 s0.2.2.1 x9.2) (hrc (w64 (x9.1+1)) s0.2.1 s0.2.2.1 x9.2) fun x16 hx16=>?_;conv=>arg 3;whnf
            exact Zd (ih _)
           ·refine Zc (Zb (w64 (x9.1+1)) s0.2.1 s0.2.2.1 x9.2) (hrc (w64 (x9.1+1)) s0.2.1 s0.2.2.1 x9.2) fun x17 hx17=>?_;conv=>arg 3;whnf
            exact Zd (ih _)
        ·refine Zc _ Z7 fun x18 hx18=>?_;conv=>arg 3;whnf
         exact Zd (ih _)
       ·refine Zc _ Zz fun x19 hx19=>?_
        clear hx19
        rcases x19 with x19 | x19
        ·conv=>arg 3;whnf
         refine ZbI rfl ?_;conv=>arg 3;whnf
         refine ZQ rfl ?_;conv=>arg 3;whnf
         refine Zg rfl ?_ ?_<;>conv=>arg 3;whnf
         ·refine Zg rfl ?_ ?_<;>conv=>arg 3;whnf
          ·refine Zc (Zb s0.1 x19.1 s0.2.2.1 x19.2) (hrc s0.1 x19.1 s0.2.2.1 x19.2) fun x20 hx20=>?_;conv=>arg 3;whnf
           exact Zd (ih _)
          ·refine Zc (Zb s0.1 x19.1 s0.2.2.1 x19.2) (hrc s0.1 x19.1 s0.2.2.1 x19.2) fun x21 hx21=>?_;conv=>arg 3;whnf
           exact Zd (ih _)
         ·refine Zg rfl ?_ ?_<;>conv=>arg 3;whnf
          ·refine Zc (Zb (w64 (x19.1+1)) s0.2.1 s0.2.2.1 x19.2) (hrc (w64 (x19.1+1)) s0.2.1 s0.2.2.1 x19.2) fun x22 hx22=>?_;conv=>arg 3;whnf
           exact Zd (ih _)
          ·refine Zc (Zb (w64 (x19.1+1)) s0.2.1 s0.2.2.1 x19.2) (hrc (w64 (x19.1+1)) s0.2.1 s0.2.2.1 x19.2) fun x23 hx23=>?_;conv=>arg 3;whnf
           exact Zd (ih _)
        ·conv=>arg 3;whnf
         refine ZQ rfl ?_;conv=>arg 3;whnf
         refine ZQ rfl ?_;conv=>arg 3;whnf
         refine Zg rfl ?_ ?_<;>conv=>arg 3;whnf
         ·refine Zg rfl ?_ ?_<;>conv=>arg 3;whnf
          ·refine Zc (Zb s0.1 x19.1 s0.2.2.1 x19.2) (hrc s0.1 x19.1 s0.2.2.1 x19.2) fun x24 hx24=>?_;conv=>arg 3;whnf
           exact Zd (ih _)
          ·refine Zc (Zb s0.1 x19.1 s0.2.2.1 x19.2) (hrc s0.1 x19.1 s0.2.2.1 x19.2) fun x25 hx25=>?_;conv=>arg 3;whnf
           exact Zd (ih _)
         ·refine Zg rfl ?_ ?_<;>conv=>arg 3;whnf
          ·refine Zc (Zb (w64 (x19.1+1)) s0.2.1 s0.2.2.1 x19.2) (hrc (w64 (x19.1+1)) s0.2.1 s0.2.2.1 x19.2) fun x26 hx26=>?_;conv=>arg 3;whnf
           exact Zd (ih _)
          ·refine Zc (Zb (w64 (x19.1+1)) s0.2.1 s0.2.2.1 x19.2) (hrc (w64 (x19.1+1)) s0.2.1 s0.2.2.1 x19.2) fun x27 hx27=>?_;conv=>arg 3;whnf
           exact Zd (ih _)
     ·refine Zg rfl ?_ ?_<;>conv=>arg 3;whnf
      ·refine Zc _ Zdw fun x28 hx28=>?_
       clear hx28
       rcases x28 with x28 | x28
       ·conv=>arg 3;whnf
        exact Zh rfl
       ·conv=>arg 3;whnf
        refine Zg rfl ?_ ?_<;>conv=>arg 3;whnf
        ·refine Zj rfl rfl fun x29 hx29=>?_;conv=>arg 3;whnf
         refine Zf (Zl rfl hx29) ?_;conv=>arg 3;whnf
         refine Zj rfl rfl fun x30 hx30=>?_;conv=>arg 3;whnf
         refine Zf (Zl rfl hx30) ?_;conv=>arg 3;whnf
         refine Zs _ Z2 rfl fun x31 hx31=>?_;conv=>arg 3;whnf
         refine Zg rfl ?_ ?_<;>conv=>arg 3;whnf
         ·refine Zc _ Zz fun x32 hx32=>?_
          clear hx32
          rcases x32 with x32 | x32
          ·conv=>arg 3;whnf
           refine ZbI rfl ?_;conv=>arg 3;whnf
           refine ZQ rfl ?_;conv=>arg 3;whnf
           refine Zg rfl ?_ ?_<;>conv=>arg 3;whnf
           ·refine Zg rfl ?_ ?_<;>conv=>arg 3;whnf
            ·refine Zc (Zb s0.1 x32.1 s0.2.2.1 x32.2) (hrc s0.1 x32.1 s0.2.2.1 x32.2) fun x33 hx33=>?_;conv=>arg 3;whnf
             exact Zd (ih _)
            ·refine Zc (Zb s0.1 x32.1 s0.2.2.1 x32.2) (hrc s0.1 x32.1 s0.2.2.1 x32.2) fun x34 hx34=>?_;conv=>arg 3;whnf
             exact Zd (ih _)
           ·refine Zg rfl ?_ ?_<;>conv=>arg 3;whnf
            ·refine Zc (Zb (w64 (x32.1+1)) s0.2.1 s0.2.2.1 x32.2) (hrc (w64 (x32.1+1)) s0.2.1 s0.2.2.1 x32.2) fun x35 hx35=>?_;conv=>arg 3;whnf
             exact Zd (ih _)
            ·refine Zc (Zb (w64 (x32.1+1)) s0.2.1 s0.2.2.1 x32.2) (hrc (w64 (x32.1+1)) s0.2.1 s0.2.2.1 x32.2) fun x36 hx36=>?_;conv=>arg 3;whnf
             exact Zd (ih _)
          ·conv=>arg 3;whnf
           refine ZQ rfl ?_;conv=>arg 3;whnf
           refine ZQ rfl ?_;conv=>arg 3;whnf
           refine Zg rfl ?_ ?_<;>conv=>arg 3;whnf
           ·refine Zg rfl ?_ ?_<;>conv=>arg 3;whnf
            ·refine Zc (Zb s0.1 x32.1 s0.2.2.1 x32.2) (hrc s0.1 x32.1 s0.2.2.1 x32.2) fun x37 hx37=>?_;conv=>arg 3;whnf
             exact Zd (ih _)
            ·refine Zc (Zb s0.1 x32.1 s0.2.2.1 x32.2) (hrc s0.1 x32.1 s0.2.2.1 x32.2) fun x38 hx38=>?_;conv=>arg 3;whnf
             exact Zd (ih _)
           ·refine Zg rfl ?_ ?_<;>conv=>arg 3;whnf
            ·refine Zc (Zb (w64 (x32.1+1)) s0.2.1 s0.2.2.1 x32.2) (hrc (w64 (x32.1+1)) s0.2.1 s0.2.2.1 x32.2) fun x39 hx39=>?_;conv=>arg 3;whnf
             exact Zd (ih _)
            ·refine Zc (Zb (w64 (x32.1+1)) s0.2.1 s0.2.2.1 x32.2) (hrc (w64 (x32.1+1)) s0.2.1 s0.2.2.1 x32.2) fun x40 hx40=>?_;conv=>arg 3;whnf
             exact Zd (ih _)
         ·refine Zc _ Z7 fun x41 hx41=>?_;conv=>arg 3;whnf
          exact Zd (ih _)
        ·refine Zc _ Zz fun x42 hx42=>?_
         clear hx42
         rcases x42 with x42 | x42
         ·conv=>arg 3;whnf
          refine ZbI rfl ?_;conv=>arg 3;whnf
          refine ZQ rfl ?_;conv=>arg 3;whnf
          refine Zg rfl ?_ ?_<;>conv=>arg 3;whnf
          ·refine Zg rfl ?_ ?_<;>conv=>arg 3;whnf
           ·refine Zc (Zb s0.1 x42.1 s0.2.2.1 x42.2) (hrc s0.1 x42.1 s0.2.2.1 x42.2) fun x43 hx43=>?_;conv=>arg 3;whnf
            exact Zd (ih _)
           ·refine Zc (Zb s0.1 x42.1 s0.2.2.1 x42.2) (hrc s0.1 x42.1 s0.2.2.1 x42.2) fun x44 hx44=>?_;conv=>arg 3;whnf
            exact Zd (ih _)
          ·refine Zg rfl ?_ ?_<;>conv=>arg 3;whnf
           ·refine Zc (Zb (w64 (x42.1+1)) s0.2.1 s0.2.2.1 x42.2) (hrc (w64 (x42.1+1)) s0.2.1 s0.2.2.1 x42.2) fun x45 hx45=>?_;conv=>arg 3;whnf
            exact Zd (ih _)
           ·refine Zc (Zb (w64 (x42.1+1)) s0.2.1 s0.2.2.1 x42.2) (hrc (w64 (x42.1+1)) s0.2.1 s0.2.2.1 x42.2) fun x46 hx46=>?_;conv=>arg 3;whnf
            exact Zd (ih _)
         ·conv=>arg 3;whnf
          refine ZQ rfl ?_;conv=>arg 3;whnf
          refine ZQ rfl ?_;conv=>arg 3;whnf
          refine Zg rfl ?_ ?_<;>conv=>arg 3;whnf
          ·refine Zg rfl ?_ ?_<;>conv=>arg 3;whnf
           ·refine Zc (Zb s0.1 x42.1 s0.2.2.1 x42.2) (hrc s0.1 x42.1 s0.2.2.1 x42.2) fun x47 hx47=>?_;conv=>arg 3;whnf
            exact Zd (ih _)
           ·refine Zc (Zb s0.1 x42.1 s0.2.2.1 x42.2) (hrc s0.1 x42.1 s0.2.2.1 x42.2) fun x48 hx48=>?_;conv=>arg 3;whnf
            exact Zd (ih _)
          ·refine Zg rfl ?_ ?_<;>conv=>arg 3;whnf
           ·refine Zc (Zb (w64 (x42.1+1)) s0.2.1 s0.2.2.1 x42.2) (hrc (w64 (x42.1+1)) s0.2.1 s0.2.2.1 x42.2) fun x49 hx49=>?_;conv=>arg 3;whnf
            exact Zd (ih _)
           ·refine Zc (Zb (w64 (x42.1+1)) s0.2.1 s0.2.2.1 x42.2) (hrc (w64 (x42.1+1)) s0.2.1 s0.2.2.1 x42.2) fun x50 hx50=>?_;conv=>arg 3;whnf
            exact Zd (ih _)
      ·refine Zg rfl ?_ ?_<;>conv=>arg 3;whnf
       ·refine Zj rfl rfl fun x51 hx51=>?_;conv=>arg 3;whnf
        refine Zf (Zl rfl hx51) ?_;conv=>arg 3;whnf
        refine Zj rfl rfl fun x52 hx52=>?_;conv=>arg 3;whnf
        refine Zf (Zl rfl hx52) ?_;conv=>arg 3;whnf
        refine Zs _ Z2 rfl fun x53 hx53=>?_;conv=>arg 3;whnf
        refine Zg rfl ?_ ?_<;>conv=>arg 3;whnf
        ·refine Zc _ Zz fun x54 hx54=>?_
         clear hx54
         rcases x54 with x54 | x54
         ·conv=>arg 3;whnf
          refine ZbI rfl ?_;conv=>arg 3;whnf
          refine ZQ rfl ?_;conv=>arg 3;whnf
          refine Zg rfl ?_ ?_<;>conv=>arg 3;whnf
          ·refine Zg rfl ?_ ?_<;>conv=>arg 3;whnf
           ·refine Zc (Zb s0.1 x54.1 s0.2.2.1 x54.2) (hrc s0.1 x54.1 s0.2.2.1 x54.2) fun x55 hx55=>?_;conv=>arg 3;whnf
            exact Zd (ih _)
           ·refine Zc (Zb s0.1 x54.1 s0.2.2.1 x54.2) (hrc s0.1 x54.1 s0.2.2.1 x54.2) fun x56 hx56=>?_;conv=>arg 3;whnf
            exact Zd (ih _)
          ·refine Zg rfl ?_ ?_<;>conv=>arg 3;whnf
           ·refine Zc (Zb (w64 (x54.1+1)) s0.2.1 s0.2.2.1 x54.2) (hrc (w64 (x54.1+1)) s0.2.1 s0.2.2.1 x54.2) fun x57 hx57=>?_;conv=>arg 3;whnf
            exact Zd (ih _)
           ·refine Zc (Zb (w64 (x54.1+1)) s0.2.1 s0.2.2.1 x54.2) (hrc (w64 (x54.1+1)) s0.2.1 s0.2.2.1 x54.2) fun x58 hx58=>?_;conv=>arg 3;whnf
            exact Zd (ih _)
         ·conv=>arg 3;whnf
          refine ZQ rfl ?_;conv=>arg 3;whnf
          refine ZQ rfl ?_;conv=>arg 3;whnf
          refine Zg rfl ?_ ?_<;>conv=>arg 3;whnf
          ·refine Zg rfl ?_ ?_<;>conv=>arg 3;whnf
           ·refine Zc (Zb s0.1 x54.1 s0.2.2.1 x54.2) (hrc s0.1 x54.1 s0.2.2.1 x54.2) fun x59 hx59=>?_;conv=>arg 3;whnf
            exact Zd (ih _)
           ·refine Zc (Zb s0.1 x54.1 s0.2.2.1 x54.2) (hrc s0.1 x54.1 s0.2.2.1 x54.2) fun x60 hx60=>?_;conv=>arg 3;whnf
            exact Zd (ih _)
          ·refine Zg rfl ?_ ?_<;>conv=>arg 3;whnf
           ·refine Zc (Zb (w64 (x54.1+1)) s0.2.1 s0.2.2.1 x54.2) (hrc (w64 (x54.1+1)) s0.2.1 s0.2.2.1 x54.2) fun x61 hx61=>?_;conv=>arg 3;whnf
            exact Zd (ih _)
           ·refine Zc (Zb (w64 (x54.1+1)) s0.2.1 s0.2.2.1 x54.2) (hrc (w64 (x54.1+1)) s0.2.1 s0.2.2.1 x54.2) fun x62 hx62=>?_;conv=>arg 3;whnf
            exact Zd (ih _)
        ·refine Zc _ Z7 fun x63 hx63=>?_;conv=>arg 3;whnf
         exact Zd (ih _)
       ·refine Zc _ Zz fun x64 hx64=>?_
        clear hx64
        rcases x64 with x64 | x64
        ·conv=>arg 3;whnf
         refine ZbI rfl ?_;conv=>arg 3;whnf
         refine ZQ rfl ?_;conv=>arg 3;whnf
         refine Zg rfl ?_ ?_<;>conv=>arg 3;whnf
         ·refine Zg rfl ?_ ?_<;>conv=>arg 3;whnf
          ·refine Zc (Zb s0.1 x64.1 s0.2.2.1 x64.2) (hrc s0.1 x64.1 s0.2.2.1 x64.2) fun x65 hx65=>?_;conv=>arg 3;whnf
           exact Zd (ih _)
          ·refine Zc (Zb s0.1 x64.1 s0.2.2.1 x64.2) (hrc s0.1 x64.1 s0.2.2.1 x64.2) fun x66 hx66=>?_;conv=>arg 3;whnf
           exact Zd (ih _)
         ·refine Zg rfl ?_ ?_<;>conv=>arg 3;whnf
          ·refine Zc (Zb (w64 (x64.1+1)) s0.2.1 s0.2.2.1 x64.2) (hrc (w64 (x64.1+1)) s0.2.1 s0.2.2.1 x64.2) fun x67 hx67=>?_;conv=>arg 3;whnf
           exact Zd (ih _)
          ·refine Zc (Zb (w64 (x64.1+1)) s0.2.1 s0.2.2.1 x64.2) (hrc (w64 (x64.1+1)) s0.2.1 s0.2.2.1 x64.2) fun x68 hx68=>?_;conv=>arg 3;whnf
           exact Zd (ih _)
        ·conv=>arg 3;whnf
         refine ZQ rfl ?_;conv=>arg 3;whnf
         refine ZQ rfl ?_;conv=>arg 3;whnf
         refine Zg rfl ?_ ?_<;>conv=>arg 3;whnf
         ·refine Zg rfl ?_ ?_<;>conv=>arg 3;whnf
          ·refine Zc (Zb s0.1 x64.1 s0.2.2.1 x64.2) (hrc s0.1 x64.1 s0.2.2.1 x64.2) fun x69 hx69=>?_;conv=>arg 3;whnf
           exact Zd (ih _)
          ·refine Zc (Zb s0.1 x64.1 s0.2.2.1 x64.2) (hrc s0.1 x64.1 s0.2.2.1 x64.2) fun x70 hx70=>?_;conv=>arg 3;whnf
           exact Zd (ih _)
         ·refine Zg rfl ?_ ?_<;>conv=>arg 3;whnf
          ·refine Zc (Zb (w64 (x64.1+1)) s0.2.1 s0.2.2.1 x64.2) (hrc (w64 (x64.1+1)) s0.2.1 s0.2.2.1 x64.2) fun x71 hx71=>?_;conv=>arg 3;whnf
           exact Zd (ih _)
          ·refine Zc (Zb (w64 (x64.1+1)) s0.2.1 s0.2.2.1 x64.2) (hrc (w64 (x64.1+1)) s0.2.1 s0.2.2.1 x64.2) fun x72 hx72=>?_;conv=>arg 3;whnf
           exact Zd (ih _)
theorem ZhK (rc:Int→Int→Int→(List Int)→Option (List Int)) (hrc:∀(b:Int) (c:Int) (d:Int) (m0_0:(List Int)) (r:(List Int)),rc b c d m0_0=some r→evW ctx 140 [(.sl 0 1),(.d (Ze b)),(.d (Ze c)),(.d (Ze d))] [(.arr 1 (List.map Ze m0_0))]=some ((Zb b c d m0_0) r)) (b:Int) (c:Int) (d:Int) (m0_0:(List Int)):∀r,(Zb7 rc b c d m0_0)=some r→evW ctx 140 [(.sl 0 1),(.d (Ze b)),(.d (Ze c)),(.d (Ze d))] [(.arr 1 (List.map Ze m0_0))]=some ((Zb b c d m0_0) r):=by
 show Z6 _ (fun r rhs=>rhs=some ((Zb b c d m0_0) r)) _
 unfold Zb7
 rw[Zeh ctx 140 ZxH _ _ rfl rfl]
 conv=>arg 3;whnf
 refine Zc _ (ZhC hrc _) fun r219 hr219=>?_;conv=>arg 3;whnf
 exact Zh rfl
theorem Zfr:∀(n:Nat) (b:Int) (c:Int) (d:Int) (m0_0:(List Int)) (r:(List Int)),Zbf n b c d m0_0=some r→evW ctx 140 [(.sl 0 1),(.d (Ze b)),(.d (Ze c)),(.d (Ze d))] [(.arr 1 (List.map Ze m0_0))]=some ((Zb b c d m0_0) r)
  | 0,b,c,d,m0_0,r,h=>by cases h
  | n+1,b,c,d,m0_0,r,h=>ZhK (Zbf n) (Zfr n) b c d m0_0 r h
theorem Zie {b:Int}{c:Int}{d:Int}{m0_0:(List Int)}:∀r,ZeF b c d m0_0=some r→evW ctx 140 [(.sl 0 1),(.d (Ze b)),(.d (Ze c)),(.d (Ze d))] [(.arr 1 (List.map Ze m0_0))]=some ((Zb b c d m0_0) r):=fun r h=>by
  obtain⟨n,hn⟩:=ZuX h
  exact Zfr n b c d m0_0 r hn
def Zg4 (m0_0:(List Int)):(List Int)→V×Zp
  | r=>((.d (D.tup [])),[(.arr 1 (List.map Ze r))])
theorem Zi7 {m0_0:(List Int)}:∀r,(Zcy m0_0)=some r→evW ctx 127 [(.sl 0 1)] [(.arr 1 (List.map Ze m0_0))]=some ((Zg4 m0_0) r):=by
 show Z6 _ (fun r rhs=>rhs=some ((Zg4 m0_0) r)) _
 unfold Zcy
 rw[Zeh ctx 127 ZxE _ _ rfl rfl]
 conv=>arg 3;whnf
 refine Zq (Zal _ _) ?_;conv=>arg 3;whnf
 refine Zs _ Zhv rfl fun x0 hx0=>?_;conv=>arg 3;whnf
 refine Zc _ Zie fun x1 hx1=>?_;conv=>arg 3;whnf
 exact Zh rfl
def Zhl (r:(List Int)):D:=(D.list true (List.map Ze r))
def Zgt (t1:Bool) (a:ZbS) (b0:Int):(List Int)→Ex×List V×Zp
  | r=>(.exit 0,[(.sl 0 1)],[(.arr 1 (List.map Ze r))])
theorem ZiC {t1:Bool}{a:ZbS}{b0:Int}:∀(s0:Int×(List Int)) (r:(List Int)),lp (ZgX a (fun z0=>Zfz z0 b0)) s0=some r→lpW ctx 0 [1,5,11,12,13] [5] Zux [(.d (D.fn 104 [(D.rptr [(Ze b0)])])),(.sl 0 1),(.d (D.list t1 (List.map ZJ a.edges))),(.d (Ze (a.edges.length:Int))),(.d (Ze s0.1))] [(.arr 1 (List.map Ze s0.2))]=some ((Zgt t1 a b0) r):=by
 refine Zbe (Zgt t1 a b0) ?_
 intro s0 rcl ih
 show Z6 _ _ (lpW _ _ _ _ _ _ _)
 unfold ZgX
 rw[Zbg]
 conv=>arg 3;whnf
 refine Zg rfl ?_ ?_<;>conv=>arg 3;whnf
 ·refine Zj rfl rfl fun x1 hx1=>?_;conv=>arg 3;whnf
  refine Zs _ ZnP rfl fun x2 hx2=>?_;conv=>arg 3;whnf
  refine Zg rfl ?_ ?_<;>conv=>arg 3;whnf
  ·refine ZbI rfl ?_;conv=>arg 3;whnf
   refine Zg (ZkK Ze s0.2 1) ?_ ?_
   ·conv=>arg 3;whnf
    refine Zq (ZkG Ze s0.2 [x2.1]) ?_;conv=>arg 3;whnf
    exact Zd (ih _)
   ·exact ZbF
  ·exact Zd (ih _)
 ·exact Zh rfl
theorem Zjt {t0:Bool}{t1:Bool}{a:ZbS}{b0:Int}:∀r,(ZlD a (fun z0=>Zfz z0 b0))=some r→evD ctx 103 [(.d (D.agg [(D.list t0 (List.map Ze a.work)),(D.list t1 (List.map ZJ a.edges))])),(.d (D.fn 104 [(D.rptr [(Ze b0)])]))]=some (Zhl r):=by
 show Z6 _ (fun r rhs=>rhs=some (Zhl r)) _
 unfold ZlD
 rw[ZcX ctx 103 Zxd _ rfl rfl]
 conv=>arg 3;whnf
 refine Zq (Zal _ _) ?_;conv=>arg 3;whnf
 refine Zc _ (ZiC _) fun r3 hr3=>?_;conv=>arg 3;whnf
 refine Zc _ Zi7 fun x4 hx4=>?_;conv=>arg 3;whnf
 exact Zh rfl
def Zl5 (r:(List Int)):D:=(D.list true (List.map Ze r))
theorem ZoR {t0:Bool}{t1:Bool}{a:ZbS}{b:Int}:∀r,(Zis a b)=some r→evD ctx 59 [(.d (D.agg [(D.list t0 (List.map Ze a.work)),(D.list t1 (List.map ZJ a.edges))])),(.d (Ze b))]=some (Zl5 r):=by
 show Z6 _ (fun r rhs=>rhs=some (Zl5 r)) _
 unfold Zis
 rw[ZcX ctx 59 Zz2 _ rfl rfl]
 conv=>arg 3;whnf
 refine Zs _ Zjt rfl fun x0 hx0=>?_;conv=>arg 3;whnf
 exact Zh rfl
def Znr (r:Int):D:=(Ze r)
def Zk0 (t0:Bool) (t1:Bool) (a:ZbS) (x0:(List Int)) (s1:Int×Int×(List Int)) (x2:Int) (x3:(List Int)):(List Int)→Ex×List V×Zp
  | r=>(.exit 2,[(.ptr 0 0),(.sl 1 1),(.d (Ze s1.1)),(.d (Ze x2)),(.d (D.list true (List.map Ze x0))),(.d (Ze (x0.length:Int))),(.d (Ze s1.2.1))],[(.cells [(.d (D.list t0 (List.map Ze a.work))),(.d (D.list t1 (List.map ZJ a.edges)))]),(.arr 1 (List.map Ze r))])
theorem ZnX {t0:Bool}{t1:Bool}{a:ZbS}{x0:(List Int)}{s1:Int×Int×(List Int)}{x2:Int}{x3:(List Int)}:∀(s4:Int×(List Int)) (r:(List Int)),lp (ZfF x2 x3) s4=some r→lpW ctx 0 [1,3,4,6,14,15,16,22,23,24] [1,3,4,6,14,15,16] Zwd [(.ptr 0 0),(.sl 1 1),(.d (Ze s1.1)),(.d (Ze x2)),(.d (D.list true (List.map Ze x0))),(.d (Ze (x0.length:Int))),(.d (Ze s1.2.1)),(.d (D.list true (List.map Ze x3))),(.d (Ze (x3.length:Int))),(.d (Ze s4.1))] [(.cells [(.d (D.list t0 (List.map Ze a.work))),(.d (D.list t1 (List.map ZJ a.edges)))]),(.arr 1 (List.map Ze s4.2))]=some ((Zk0 t0 t1 a x0 s1 x2 x3) r):=by
 refine Zbe (Zk0 t0 t1 a x0 s1 x2 x3) ?_
 intro s4 rcl ih
 show Z6 _ _ (lpW _ _ _ _ _ _ _)
 unfold ZfF
 rw[Zbg]
 conv=>arg 3;whnf
 refine Zg rfl ?_ ?_<;>conv=>arg 3;whnf
 ·refine Zj rfl rfl fun x5 hx5=>?_;conv=>arg 3;whnf
  refine Zj rfl rfl fun x6 hx6=>?_;conv=>arg 3;whnf
  refine Zf (Zl rfl hx6) ?_;conv=>arg 3;whnf
  refine Zj rfl rfl fun x7 hx7=>?_;conv=>arg 3;whnf
  refine Zf (Zl rfl hx7) ?_;conv=>arg 3;whnf
  refine Zf (Zay rfl hx6) ?_;conv=>arg 3;whnf
  refine Zf (Zl rfl hx6) ?_;conv=>arg 3;whnf
  refine Zq (ZZ Ze s4.2 x2.toNat (bif decide (x6<x7) then x7 else x6)) ?_;conv=>arg 3;whnf
  exact Zd (ih _)
 ·exact Zh rfl
def Zk3 (t0:Bool) (t1:Bool) (a:ZbS) (x0:(List Int)):Int→Ex×List V×Zp
  | r=>(.exit 0,[(.d (Ze r))],[])
theorem Zn2 {t0:Bool}{t1:Bool}{a:ZbS}{x0:(List Int)}:∀(s1:Int×Int×(List Int)) (r:Int),lp (ZfI a x0) s1=some r→lpW ctx 0 [1,3,4,14,15,16] [4] Zwy [(.ptr 0 0),(.sl 1 1),(.d (Ze s1.1)),(.d (D.list true (List.map Ze x0))),(.d (Ze (x0.length:Int))),(.d (Ze s1.2.1))] [(.cells [(.d (D.list t0 (List.map Ze a.work))),(.d (D.list t1 (List.map ZJ a.edges)))]),(.arr 1 (List.map Ze s1.2.2))]=some ((Zk3 t0 t1 a x0) r):=by
 refine Zbe (Zk3 t0 t1 a x0) ?_
 intro s1 rcl ih
 show Z6 _ _ (lpW _ _ _ _ _ _ _)
 unfold ZfI
 rw[Zbg]
 conv=>arg 3;whnf
 refine Zg rfl ?_ ?_<;>conv=>arg 3;whnf
 ·refine Zj rfl rfl fun x2 hx2=>?_;conv=>arg 3;whnf
  refine Zs _ ZoR rfl fun x3 hx3=>?_;conv=>arg 3;whnf
  refine Zq (Zal _ _) ?_;conv=>arg 3;whnf
  refine Zc _ (ZnX _) fun r8 hr8=>?_;conv=>arg 3;whnf
  refine Zj rfl rfl fun x9 hx9=>?_;conv=>arg 3;whnf
  refine Zf (Zl rfl hx9) ?_;conv=>arg 3;whnf
  refine Zj rfl rfl fun x10 hx10=>?_;conv=>arg 3;whnf
  refine Zf (Zay rfl hx9) ?_;conv=>arg 3;whnf
  refine Zf (Zl rfl hx9) ?_;conv=>arg 3;whnf
  refine Zq (ZZ Ze r8 x2.toNat (w64 (x9+x10))) ?_;conv=>arg 3;whnf
  refine Zj rfl rfl fun x11 hx11=>?_;conv=>arg 3;whnf
  refine Zf (Zl rfl hx11) ?_;conv=>arg 3;whnf
  exact Zd (ih _)
 ·exact Zh rfl
theorem Zmc {t0:Bool}{t1:Bool}{a:ZbS}:∀r,(ZhY a)=some r→evD ctx 29 [(.d (D.agg [(D.list t0 (List.map Ze a.work)),(D.list t1 (List.map ZJ a.edges))]))]=some (Znr r):=by
 show Z6 _ (fun r rhs=>rhs=some (Znr r)) _
 unfold ZhY
 rw[ZcX ctx 29 ZAj _ rfl rfl]
 conv=>arg 3;whnf
 refine Zq (Zal _ _) ?_;conv=>arg 3;whnf
 refine Zg rfl ?_ ?_
 ·conv=>arg 3;whnf
  refine Zq (ZuH Ze (0:Int) (a.work.length:Int)) ?_;conv=>arg 3;whnf
  refine Zs _ ZoO rfl fun x0 hx0=>?_;conv=>arg 3;whnf
  refine Zq (Zal _ _) ?_;conv=>arg 3;whnf
  refine Zc _ (Zn2 _) fun r12 hr12=>?_;conv=>arg 3;whnf
  exact Zh rfl
 ·exact ZbF
def Zl2 (r:Int):D:=(Ze r)
def Zkf (t0:Bool) (a:ZbS):Int→Ex×List V×Zp
  | r=>(.exit 0,[(.d (Ze r))],[])
theorem Zm1 {t0:Bool}{a:ZbS}:∀(s1:Int×Int) (r:Int),lp (ZfQ a) s1=some r→lpW ctx 0 [3,10,11,12] [3] ZwZ [(.d (Ze s1.1)),(.d (D.list t0 (List.map Ze a.work))),(.d (Ze (a.work.length:Int))),(.d (Ze s1.2))] []=some ((Zkf t0 a) r):=by
 refine Zbe (Zkf t0 a) ?_
 intro s1 rcl ih
 show Z6 _ _ (lpW _ _ _ _ _ _ _)
 unfold ZfQ
 rw[Zbg]
 conv=>arg 3;whnf
 refine Zg rfl ?_ ?_<;>conv=>arg 3;whnf
 ·refine Zj rfl rfl fun x2 hx2=>?_;conv=>arg 3;whnf
  exact Zd (ih _)
 ·exact Zh rfl
theorem ZlA {t0:Bool}{t1:Bool}{a:ZbS}:∀r,(Zhw a)=some r→evD ctx 26 [(.d (D.agg [(D.list t0 (List.map Ze a.work)),(D.list t1 (List.map ZJ a.edges))]))]=some (Zl2 r):=by
 show Z6 _ (fun r rhs=>rhs=some (Zl2 r)) _
 unfold Zhw
 rw[ZcX ctx 26 ZzX _ rfl rfl]
 conv=>arg 3;whnf
 refine Zs _ Zjk rfl fun x0 hx0=>?_;conv=>arg 3;whnf
 refine Zg rfl ?_ ?_<;>conv=>arg 3;whnf
 ·refine Zq (Zal _ _) ?_;conv=>arg 3;whnf
  refine Zc _ (Zm1 _) fun r3 hr3=>?_;conv=>arg 3;whnf
  exact Zh rfl
 ·exact Zh rfl
def ZjJ (r:Bool):D:=(D.bool r)
theorem Zml {t0:Bool}{t1:Bool}{t2:Bool}{t3:Bool}{a:Zn}:∀r,(Zhm a)=some r→evD ctx 9 [(.d (D.agg (dA t0 t1 t2 t3 a)))]=some (ZjJ r):=by
 show Z6 _ (fun r rhs=>rhs=some (ZjJ r)) _
 unfold Zhm
 rw[ZcX ctx 9 fn9 _ rfl rfl]
 conv=>arg 3;whnf
 refine Zs _ Zic rfl fun x0 hx0=>?_;conv=>arg 3;whnf
 refine Zg rfl ?_ ?_<;>conv=>arg 3;whnf
 ·refine Zs _ ZpK rfl fun x1 hx1=>?_;conv=>arg 3;whnf
  refine Zg rfl ?_ ?_<;>conv=>arg 3;whnf
  ·refine Zc _ Zlb fun x2 hx2=>?_;conv=>arg 3;whnf
   refine Zs _ Zkh rfl fun x3 hx3=>?_;conv=>arg 3;whnf
   refine Zc _ Zlb fun x4 hx4=>?_;conv=>arg 3;whnf
   refine Zs _ Zkh rfl fun x5 hx5=>?_;conv=>arg 3;whnf
   refine Zg rfl ?_ ?_<;>conv=>arg 3;whnf
   ·exact Zh rfl
   ·refine Zg rfl ?_ ?_<;>conv=>arg 3;whnf
    ·refine Zs _ Zmc rfl fun x6 hx6=>?_;conv=>arg 3;whnf
     refine Zs _ Zmc rfl fun x7 hx7=>?_;conv=>arg 3;whnf
     refine Zg rfl ?_ ?_<;>conv=>arg 3;whnf
     ·refine Zs _ ZlA rfl fun x8 hx8=>?_;conv=>arg 3;whnf
      refine Zs _ ZlA rfl fun x9 hx9=>?_;conv=>arg 3;whnf
      refine Zg rfl ?_ ?_<;>conv=>arg 3;whnf
      ·refine Zq (Zal _ _) ?_;conv=>arg 3;whnf
       refine Zq (Zal _ _) ?_;conv=>arg 3;whnf
       refine Zq (Zal _ _) ?_;conv=>arg 3;whnf
       refine Zg rfl ?_ ?_<;>conv=>arg 3;whnf
       ·exact Zh rfl
       ·exact Zh rfl
      ·exact Zh rfl
     ·exact Zh rfl
    ·exact Zh rfl
  ·refine Zs _ Zic rfl fun x10 hx10=>?_;conv=>arg 3;whnf
   refine Zg rfl ?_ ?_<;>conv=>arg 3;whnf
   ·exact Zh rfl
   ·exact Zh rfl
 ·refine Zs _ Zic rfl fun x11 hx11=>?_;conv=>arg 3;whnf
  refine Zg rfl ?_ ?_<;>conv=>arg 3;whnf
  ·exact Zh rfl
  ·exact Zh rfl
end Go.Proofs.YtljgncbdagmeeaaDoor
namespace Go.Proofs.YtljgncbdagmeeaaDoor
open Go Go.Proofs.YtljgncbdagmeeaaDoorE
abbrev Zso:List Lf×Bool:=([.int .i64,.int .i64,.sl true [.int .i64,.int .i64,.int .i64],.sl true [.int .i64,.int .i64],.sl true [.int .i64,.int .i64,.int .i64],.sl true [.sl false [.int .i64],.sl false [.int .i64]]],true)
end Go.Proofs.YtljgncbdagmeeaaDoor
namespace Go.Proofs.YtljgncbdagmeeaaDoor
open Go Go.Proofs.YtljgncbdagmeeaaDoorE
set_option linter.unusedVariables false
set_option linter.unusedSimpArgs false
def noF (d:Zn):Zn:=Zn.mk d.period d.deadline d.parts d.edges [] d.barriers
theorem ZvM {d:Zn} (hc:Zes d=0):Zes (noF d)=0:=by
 have hx:Zgs (ZeI (noF d)) 0 (noF d).edges=Zgs (ZeI d) 0 d.edges:=rfl
 have hfu:Zgs (ZdO (noF d)) 0 (noF d).futures=false:=rfl
 have ht:ZkS (noF d)=ZkS d:=rfl
 have hp:(noF d).parts=d.parts:=rfl
 have hb:(noF d).barriers=d.barriers:=rfl
 have hm:Zh0 d=true→Zh0 (noF d)=true:=by
  unfold Zh0
  show(ZdG (d.parts.length:Int) 1 16&&(!decide ((48:Int)<d.edges.length)&&(!decide ((16:Int)<d.futures.length) && !decide ((4:Int)<d.barriers.length))))=true→(ZdG (d.parts.length:Int) 1 16&&(!decide ((48:Int)<d.edges.length)&&(!decide ((16:Int)<(([]:List Zk).length:Int)) && !decide ((4:Int)<d.barriers.length))))=true
  cases ZdG (d.parts.length:Int) 1 16<;>cases decide ((48:Int)<d.edges.length)<;>cases decide ((16:Int)<d.futures.length)<;>cases decide ((4:Int)<d.barriers.length)<;>simp
 unfold Zes at hc ⊢
 rw[ht,hx,hfu,hp,hb]
 revert hc hm
 cases Zh0 d<;>cases Zh0 (noF d)<;>cases ZkS d<;>cases d.parts.any Zgu<;>cases Zgs (ZeI d) 0 d.edges<;>cases Zgs (ZdO d) 0 d.futures<;>cases d.barriers.any (Zem d.parts.length)<;>simp
theorem Zzu (d:Zn) (n:Nat):tch (noF d) n=[]:=by
 have:∀k i,tl (noF d) (n:Int) i k=[]:=by
  intro k
  induction k with
  | zero=>intro i;rfl
  | succ k ih=>
   intro i
   unfold tl
   rw[ih (i+1)]
   rfl
 exact this 99 0
theorem Ztj (d:Zn) (n:Nat):nt (noF d) n=0:=by unfold nt;rw[Zzu];rfl
theorem Zj2 (d:Zn):∀n,ZR (noF d) n=n
 | 0=>rfl
 | n+1=>by show ZR (noF d) n+(nt (noF d) n+1)=n+1;rw[Zj2 d n,Ztj]
theorem Zpx (d:Zn) {z:Int} (h:0≤z):Zfa (noF d) z=z:=by unfold Zfa;rw[Zj2];omega
theorem ZqG (d:Zn) {z:Int} (h:0≤z):ZgD (noF d) z=z:=by unfold ZgD;rw[Zj2];omega
theorem Zrv (d:Zn) (i:Nat):ZeA (noF d) i=((d.parts.length+i:Nat):Int):=by unfold ZeA;rw[Zj2];rfl
def phi (d:Zn) (u:Int):Int:=if u<(d.parts.length:Int) then ZgD d u else ZeA d (u-(d.parts.length:Int)).toNat
def psi (d:Zn) (u:Int):Int:=if u<(d.parts.length:Int) then Zfa d u else ZeA d (u-(d.parts.length:Int)).toNat
theorem Zlj {d:Zn}{z:Int} (h:inR d z):phi d z=ZgD d z:=by
 have h1:=h.1;have h2:=h.2
 unfold phi
 rw[if_pos (by omega)]
theorem Znw {d:Zn}{z:Int} (h:inR d z):psi d z=Zfa d z:=by
 have h1:=h.1;have h2:=h.2
 unfold psi
 rw[if_pos (by omega)]
theorem ZrR (d:Zn) (i:Nat):phi d ((d.parts.length+i:Nat):Int)=ZeA d i:=by
 unfold phi
 rw[if_neg (by omega),show(((d.parts.length+i:Nat):Int)-(d.parts.length:Int)).toNat=i by omega]
theorem ZuF (d:Zn) (i:Nat):psi d ((d.parts.length+i:Nat):Int)=ZeA d i:=by
 unfold psi
 rw[if_neg (by omega),show(((d.parts.length+i:Nat):Int)-(d.parts.length:Int)).toNat=i by omega]
theorem ZnH {d:Zn} (g:Zda d) (gx:Zda (noF d)) {e:Zo} (h:e∈(Za5 (noF d)).dag.edges):(⟨phi d e.src,psi d e.dst⟩:Zo)∈(Za5 d).dag.edges:=by
 have h:e∈ZfS (noF d):=h
 unfold ZfS ZiD at h
 rcases List.mem_append.1 h with h | h
 ·rcases List.mem_append.1 h with h | h
  ·rcases List.mem_append.1 h with h | h
   ·obtain⟨n,j,hn,hj,_⟩:=Ziw h
    rw[Ztj] at hj
    omega
   ·unfold Zjp at h
    obtain⟨y,hy,rfl⟩:=List.mem_map.1 h
    have hy:y∈d.edges:=hy
    have hs:=g.src hy
    have ht:=g.dst hy
    show(⟨phi d (ZgD (noF d) y.src),psi d (Zfa (noF d) y.dst)⟩:Zo)∈_
    rw[ZqG d hs.1,Zpx d ht.1,Zlj hs,Znw ht]
    exact Zvq hy
  ·cases h
 ·unfold Zfj upto at h
  obtain⟨i,hi,h⟩:=List.mem_flatMap.1 h
  rw[List.mem_range] at hi
  have hi:i<d.barriers.length:=hi
  have hb:d.barriers[i]? = some d.barriers[i]:=List.getElem?_eq_getElem hi
  have hb2:(noF d).barriers[i]? = some d.barriers[i]:=hb
  rw[hb2] at h
  have hm:=List.getElem_mem hi
  have h:e∈Zm4 (noF d) (ZeA (noF d) i) d.barriers[i]:=h
  unfold Zm4 at h
  rcases List.mem_append.1 h with h | h
  ·obtain⟨q,hq,rfl⟩:=List.mem_map.1 h
   have hr:=g.ins _ hm q hq
   show(⟨phi d (ZgD (noF d) q),psi d (ZeA (noF d) i)⟩:Zo)∈_
   rw[ZqG d hr.1,Zrv,Zlj hr,ZuF]
   exact ZqT hb (List.mem_append.2 (.inl (List.mem_map.2 ⟨q,hq,rfl⟩)))
  ·obtain⟨q,hq,rfl⟩:=List.mem_map.1 h
   have hr:=g.outs _ hm q hq
   show(⟨phi d (ZeA (noF d) i),psi d (Zfa (noF d) q)⟩:Zo)∈_
   rw[Zpx d hr.1,Zrv,Znw hr,ZrR]
   exact ZqT hb (List.mem_append.2 (.inr (List.mem_map.2 ⟨q,hq,rfl⟩)))
theorem ZuC {d:Zn}{u:Int} (h:0≤u):ZvJ (Za5 d).dag (psi d u) (phi d u):=by
 by_cases hu:u<(d.parts.length:Int)
 ·have hr:inR d u:=⟨h,by omega⟩
  rw[Znw hr,Zlj hr]
  exact ZAI hr
 ·unfold psi phi
  rw[if_neg hu,if_neg hu]
  exact .inl rfl
theorem Zx2 {d:Zn} (g:Zda d) (gx:Zda (noF d)) (hG:ZiI (Za5 (noF d)).dag) {u v:Int} (w:Way (Za5 (noF d)).dag u v):Way (Za5 d).dag (phi d u) (psi d v):=by
 induction w with
 | one he=>exact Way.one (ZnH g gx he)
 | more _ he ih=>exact(ih.ways (ZuC (hG.src _ he).1)).trans (Way.one (ZnH g gx he))
theorem Zpz {l:List Int}{i:Nat}{x:Int} (h:l[i]? = some x):fat l (i:Int)=x:=by
 unfold fat
 rw[Int.toNat_natCast,h]
theorem Zsc {d:Zn}{i:Nat} (hi:i<d.barriers.length):fat (ZcS d) (ZeA d i)=1:=by
 unfold ZeA
 refine Zpz ?_
 unfold ZcS
 rw[List.getElem?_append_right (by rw[ZfY];omega),ZfY,Nat.add_sub_cancel_left,List.getElem?_replicate,if_pos hi]
theorem Zql {d:Zn}{F:Int→Int}{M:Int} (hF:Far (Za5 d).dag F M) {n:Nat} (hn:n<d.parts.length) (c:Int) (h0:c+cut d n 1≤F ((ZR d n+0:Nat):Int)):∀j,j≤nt d n→c+cut d n (j+1)≤F ((ZR d n+j:Nat):Int)
 | 0,_=>h0
 | j+1,hj=>by
  have ih:=Zql hF hn c h0 j (by omega)
  have:=hF.edge _ (Zq4 hn (show j<nt d n by omega))
  have hw:fat (Za5 d).dag.work ((ZR d n+j+1:Nat):Int)=cut d n (j+2)-cut d n (j+1):=Zpz (by have:=ZrY hn hj;exact this)
  simp only at this
  rw[hw] at this
  show c+cut d n (j+2)≤F ((ZR d n+j+1:Nat):Int)
  omega
theorem Zys {d:Zn}{F:Int→Int}{M:Int} (hF:Far (Za5 d).dag F M) {z:Int} (hz:inR d z) (c:Int) (h0:c+cut d z.toNat 1≤F (Zfa d z)):c+Zeu d.parts z≤F (ZgD d z):=by
 have:=Zql hF hz.2 c (by rw[← Zh5];exact h0) (nt d z.toNat) (Nat.le_refl _)
 rw[Znn,← Zip,show((z.toNat:Nat):Int)=z from Int.toNat_of_nonneg hz.1] at this
 exact this
theorem Ztp {d:Zn}{z:Int} (hz:inR d z):fat (Za5 d).dag.work (Zfa d z)=cut d z.toNat 1:=by
 rw[Zh5]
 have:=ZrY hz.2 (Nat.zero_le (nt d z.toNat))
 refine(Zpz this).trans ?_
 show cut d z.toNat 1-0=_
 omega
theorem Zv9 {d:Zn} (g:Zda d) (gx:Zda (noF d)) (hc:Zg8 (Za5 d).dag=0) (hx:Zg8 (Za5 (noF d)).dag=0) {F G:Int→Int}{M K:Int} (hF:Far (Za5 d).dag F M) (hG:Far (Za5 (noF d)).dag G K) :
  ∀i:Nat,i<(Za5 (noF d)).dag.work.length→G (i:Int)≤F (phi d (i:Int)):=by
 obtain⟨l,_,T⟩:=Zr1 hx
 have hgd:=(Zkn hc).1
 have hwl:(Za5 (noF d)).dag.work.length=d.parts.length+d.barriers.length:=by
  show(ZcS (noF d)).length=_
  rw[Zid gx]
  show d.parts.length+0+d.barriers.length=_
  omega
 have hwd:(Za5 d).dag.work.length=ZR d d.parts.length+d.barriers.length:=by
  show(ZcS d).length=_
  rw[Zid g,Zh6 g]
 have one:∀u:Nat,u<d.parts.length+d.barriers.length→∀c:Int,(c=0∨∃v,c=F v∧(⟨v,psi d (u:Int)⟩:Zo)∈(Za5 d).dag.edges)→c+fat (ZcS (noF d)) (u:Int)≤F (phi d (u:Int)):=by
  intro u hu c hcv
  by_cases hp:u<d.parts.length
  ·have hr:inR d (u:Int):=⟨by omega,by simpa using hp⟩
   rw[Zlj hr]
   rw[Znw hr] at hcv
   have hw:fat (ZcS (noF d)) (u:Int)=Zeu d.parts (u:Int):=by
    have:=ZrY (d:=noF d) (n:=u) hp (Nat.zero_le (nt (noF d) u))
    rw[Zj2,Nat.add_zero] at this
    refine(Zpz this).trans ?_
    have e:=Znn (noF d) u
    rw[Ztj] at e
    show cut (noF d) u (0+1)-0=_
    rw[e]
    show Zeu d.parts (u:Int)-0=_
    omega
   rw[hw]
   refine Zys hF hr c ?_
   have fw:=Ztp hr
   rcases hcv with rfl | ⟨v,rfl,hv⟩
   ·have hlt:=ZdH d (show u<d.parts.length from hp) (Nat.zero_le (nt d u))
    have:=hF.least (ZR d u+0) (by rw[hwd];omega)
    have e:((ZR d u+0:Nat):Int)=Zfa d (u:Int):=by rw[Zh5];rfl
    rw[e] at this
    rw[fw] at this
    omega
   ·have:=hF.edge _ hv
    simp only at this
    rw[fw] at this
    omega
  ·have hi:u-d.parts.length<d.barriers.length:=by omega
   have eu:(u:Int)=((d.parts.length+(u-d.parts.length):Nat):Int):=by omega
   rw[eu,ZrR]
   rw[eu,ZuF] at hcv
   have hw:fat (ZcS (noF d)) ((d.parts.length+(u-d.parts.length):Nat):Int)=1:=by
    rw[← Zrv]
    exact Zsc (d:=noF d) hi
   have hwb:fat (Za5 d).dag.work (ZeA d (u-d.parts.length))=1:=Zsc hi
   rw[hw]
   rcases hcv with rfl | ⟨v,rfl,hv⟩
   ·have:=hF.least (ZR d d.parts.length+(u-d.parts.length)) (by rw[hwd];omega)
    have e:((ZR d d.parts.length+(u-d.parts.length):Nat):Int)=ZeA d (u-d.parts.length):=rfl
    rw[e,hwb] at this
    omega
   ·have:=hF.edge _ hv
    simp only at this
    rw[hwb] at this
    omega
 have key:∀n j:Nat,j<n→∀z,l[j]? = some z→G z≤F (phi d z):=by
  intro n
  induction n with
  | zero=>intro j hj;omega
  | succ n ih=>
   intro j hj z hz
   have zin:=T.inn z (List.mem_of_getElem? hz)
   have ez:((z.toNat:Nat):Int)=z:=by omega
   have hs:=hG.some_ z.toNat zin.2
   rw[ez] at hs
   have hz2:z.toNat<d.parts.length+d.barriers.length:=by rw[← hwl];exact zin.2
   rcases hs with hs | ⟨e,e1,e2,e3⟩
   ·have:=one z.toNat hz2 0 (.inl rfl)
    rw[ez] at this
    have h2:G z=fat (ZcS (noF d)) z:=hs
    omega
   ·obtain⟨q,q1,q2⟩:=T.topo j z hz e e1 e2
    have i1:=ih q (by omega) e.src q2
    have he:=ZnH g gx e1
    rw[e2] at he
    have:=one z.toNat hz2 (F (phi d e.src)) (.inr ⟨_,rfl,by rw[ez];exact he⟩)
    rw[ez] at this
    have h2:G z=G e.src+fat (ZcS (noF d)) z:=e3
    omega
 intro i hi
 obtain⟨j,hj⟩:=List.getElem?_of_mem (T.all i hi)
 exact key (j+1) j (by omega) _ hj
theorem Zs4 (d:Zn):Zhm d=some true:=by
 have aw:Zhc=some true:=rfl
 unfold Zhm
 simp only[aw,cond_true,ZA6,Option.bind_some]
 cases hf:few d with
 | false=>rfl
 | true=>
  have hz:=Zvl hf
  have hzx:ZlY (noF d):=⟨hz.p,hz.e,by show 0≤20;omega,hz.b,hz.i⟩
  simp only[cond_true,cond_false,ZC0 d hz,Option.bind_some,show Zn.mk d.period d.deadline d.parts d.edges d.futures d.barriers=d from rfl,ZuM hz,show Zn.mk d.period d.deadline d.parts d.edges ([]:List Zk) d.barriers=noF d from rfl,ZuM hzx]
  rcases Ztx d with⟨h1,h2,h3⟩ | ⟨h1,h2⟩
  ·have g:=Zjc h2
   have hcx:=ZvM h2
   have gx:=Zjc hcx
   have hGx:=Zo5 (Zom hcx)
   have hA:=(Zkn h3).2
   have hAx:ZmP (Za5 (noF d)).dag:=fun u w=>hA _ ((Zx2 g gx hGx w).ways (ZuC (w.src_in hGx).1))
   have h3x:=(ZsQ hcx).1 hAx
   have hlx:Zrm (noF d)=(Za5 (noF d),0):=by unfold Zrm;rw[hcx,h3x];rfl
   obtain⟨F,M,f1,f2⟩:=Zxv h3
   obtain⟨G,K,k1,k2⟩:=Zxv h3x
   have hF:=Zv9 g gx h3 h3x f2 k2
   have hwl:(Za5 (noF d)).dag.work.length=d.parts.length+d.barriers.length:=by
    show(ZcS (noF d)).length=_
    rw[Zid gx]
    show d.parts.length+0+d.barriers.length=_
    omega
   have hwd:(Za5 d).dag.work.length=d.parts.length+d.futures.length+d.barriers.length:=Zid g
   have hM0:0≤M:=by
    rcases f2.hit with h | ⟨i,hi,h⟩
    ·omega
    ·have:=f2.least i hi
     have hw:=List.getElem?_eq_getElem hi
     rw[Zpz hw] at this
     have:=ZqI g _ (List.getElem_mem hi)
     omega
   have hKM:K≤M:=by
    rcases k2.hit with h | ⟨i,hi,h⟩
    ·omega
    ·have i1:=hF i hi
     have i2:F (phi d (i:Int))≤M:=by
      have hi2:i<d.parts.length+d.barriers.length:=by rw[← hwl];exact hi
      by_cases hp:i<d.parts.length
      ·have hr:inR d (i:Int):=⟨by omega,by simpa using hp⟩
       rw[Zlj hr,Zip]
       have:=ZdH d hp (Nat.le_refl (nt d i))
       refine f2.most _ ?_
       rw[hwd,← Zh6 g]
       show ZR d i+nt d i<_
       omega
      ·have eu:(i:Int)=((d.parts.length+(i-d.parts.length):Nat):Int):=by omega
       rw[eu,ZrR]
       refine f2.most (ZR d d.parts.length+(i-d.parts.length)) ?_
       rw[hwd,← Zh6 g]
       omega
     omega
   have hwt:∀k,Zmw (noF d) k=Zmw d k:=by
    intro k
    induction k with
    | zero=>rfl
    | succ k ih=>show Zmw (noF d) k+Zeu d.parts (k:Int)=Zmw d k+Zeu d.parts (k:Int);rw[ih]
   have hsum:(Za5 (noF d)).dag.work.sum=(Za5 d).dag.work.sum:=by
    show(ZcS (noF d)).sum=(ZcS d).sum
    rw[Zpb,Zpb,hwt]
    rfl
   have hpl:=g.pl
   have hfl:=g.fl
   have hbl:=g.bl
   have hcount:((Za5 d).dag.work.length:Int)=w64 (((Za5 (noF d)).dag.work.length:Int)+(d.futures.length:Int)):=by
    rw[ZdI (by omega) (by omega)]
    omega
   rw[h1,hlx]
   simp only[bne_self_eq_false,cond_false,beq_self_eq_true,cond_true,k1,f1,Option.bind_some,decide_eq_true hKM,ZpU h3,ZpU h3x,hsum,← hcount]
  ·have hne:((Zrm d).2 != 0)=true:=by rw[bne,beq_false_of_ne h2];rfl
   rw[hne]
   rfl
theorem ZtN (xs:List D) (h:Zi4 Zso.1 xs) :
  ∃H',evW ctx 9 (ZdQ [ZyX Zso.2 xs]) []=some (.d (.bool true),H'):=by
 obtain⟨d,hd,_⟩:=ZyC h
 show ∃H',evW ctx 9 [.d (D.agg xs)] []=_
 rw[hd]
 exact Zyr (Zml true (Zs4 d))
end Go.Proofs.YtljgncbdagmeeaaDoor
namespace Go.Proofs.YtljgncbdagmeeaaDoor.LawLowLess
open Go.ChangeShapes Go.WideShapes Go.ChangeAt Go.RowKit Go.Proofs.YtljgncbdagmeeaaDoorE
set_option linter.unusedVariables false
theorem own:ownKnob Tryd.prog.godebug=none:=by kernel_rfl
theorem Zy1:laidOutB Tryd.prog=true:=by kernel_rfl
def Zp2 : List (String × DataW Unit) := [("math/bits.deBruijn32tab", Rows.laid_math_bits_deBruijn32tab), ("math/bits.deBruijn64tab", Rows.laid_math_bits_deBruijn64tab)]
theorem Zx5 (os:Os) (args:Array Value):laidMetH Tryd.prog Zp2 ((World.doorLaid Tryd.prog 19 os).forCall (fun _ _=>0) ⟨#[],args,[]⟩).memory:=
 laidMetH_of_parts3 (fuel:=8) (laidMet_of_run' 8 (by kernel_rfl) (by kernel_rfl)) (by kernel_rfl) (by kernel_rfl)
theorem ZwJ {W:World} (h:laidMetH Tryd.prog Zp2 W):GOK ZC R0 W:=by
 intro g l hg
 unfold ZC at hg
 split at hg
 ·cases hg
  exact ZpC (t := 170) (N := 32) (e := 5) (k := .u8) h (by kernel_rfl) (n := "math/bits.deBruijn32tab") (by rw [show DataW.agg (Zmy ZzN) = Rows.laid_math_bits_deBruijn32tab by kernel_rfl]; simp [Zp2]) (by kernel_rfl) (by kernel_rfl) (by kernel_rfl) (by kernel_rfl) (by kernel_rfl) (by kernel_rfl) (by decide)
 ·cases hg
  exact ZpC (t := 171) (N := 64) (e := 5) (k := .u8) h (by kernel_rfl) (n := "math/bits.deBruijn64tab") (by rw [show DataW.agg (Zmy ZzD) = Rows.laid_math_bits_deBruijn64tab by kernel_rfl]; simp [Zp2]) (by kernel_rfl) (by kernel_rfl) (by kernel_rfl) (by kernel_rfl) (by kernel_rfl) (by kernel_rfl) (by decide)
 ·cases hg
theorem ZAu (os:Os) (started:os.Started) (H:Type) (enc:TypeId×Value→H) :
  ReturnsInHanded {} Tryd.checked os 9 .any (fun w args=>(Rows.lowLessSpec.pre enc Tryd.prog Tryd.f9 [] false w args∧laidMetH Tryd.prog Zp2 w)∧sizedMet enc Tryd.prog Tryd.f9 (OpenSpec.ofChange Rows.lowLessSpec) false w args) (Rows.lowLessSpec.post enc Tryd.prog Tryd.f9 false true false false):=by
 refine returnsInHanded_of_change_and (C:=Tryd.checked) (X:=fun w _=>laidMetH Tryd.prog Zp2 w) (fun _ _ _ hh h=>h.of_heap hh) own started (by kernel_rfl) Tryd.func9
  (ChangeSpec.witness_shaped (enc:=enc) (C:=Tryd.checked) (os:=os) (X:=fun w _=>laidMetH Tryd.prog Zp2 w) false (World.doorLaid Tryd.prog 19 os) #[.agg #[.int .i64 0,.int .i64 0,.slice none 0 0,.slice none 0 0,.slice none 0 0,.slice none 0 0]] 8 rfl (World.shaped_of_RefB (by kernel_rfl) (by kernel_rfl)) (by kernel_rfl) (by kernel_rfl) (by kernel_rfl) (Zx5 os _)) ?_
 intro W base args ds gs before hval0 hW _ _ hL _
 have hval:∀(j:Nat) t v,Tryd.f9.params[j]? = some t→args[j]? = some v→Value.okWide Tryd.prog W .any base t v:=hval0
 have hW':=hW
 obtain⟨p,q,hA0,hV,rfl,hfz,hnd⟩:=hW
 have hA:DataW.TrodAll enc Tryd.prog W 0 (fun _=>true) true Tryd.f9.params.toList args.toList ds p:=hA0
 rw[Tryd.params9] at hA hval
 obtain⟨v0,vs0,d0,ds0,p0,q0,hargs,rfl,rfl,h0,r0⟩:=trodAll_cons hA
 obtain⟨rfl,rfl,rfl⟩:=trodAll_nil r0
 obtain rfl:args = #[v0]:=by cases args;simp_all
 obtain⟨rfl,rfl⟩:=trodVars_none hV
 have lt0:∀x∈p0,x.block<W.heap.size:=by obtain⟨m,hm⟩:=h0;exact DataW.trod_lt m _ _ _ hm
 obtain⟨x0,ok0,den0⟩:=Zz8 (P:=Tryd.prog) (n:=8) (t:=27) (l:=Zso.1) (ag:=Zso.2) (by kernel_rfl) (hval 0 27 v0 rfl rfl) h0
 obtain⟨H1,ev⟩:=ZtN x0 ok0
 have den:ZbJ All All All W [ZyX Zso.2 x0] [v0]:=⟨_,_,rfl,den0,rfl⟩
 refine(ZvT ZB2 (ZwJ hL) den ev).mono fun e W' ⟨he,bel⟩=>?_
 subst he
 exact⟨_,rfl,_,_,_,[],_,[],hW',trodAll_mk1 (shut_bool Tryd.underlying4 _),(trodAll_cons_mk (Below.trod Zy1 (by kernel_rfl) (of_decide_eq_true (by kernel_rfl)) h0 bel lt0) trodAll_mk0),rfl,bel.frame _,fun h=>by cases h⟩
theorem over:Rows.lowLessRow.holds Tryd.pinned (OpenSpec.ofChange Rows.lowLessSpec):=
 OpenClaim.holds_of_wide 9 Tryd.f9 rfl rfl rfl rfl rfl rfl rfl ⟨rfl,rfl,rfl,rfl,rfl⟩ rfl rfl rfl rfl rfl (by kernel_rfl) Tryd.func9 (by kernel_rfl)
  (of_decide_eq_true (by kernel_rfl)) (by unfold Func.isWrapper;first | (rw[if_pos (by decide +kernel)];kernel_rfl) | (rw[if_neg (by decide +kernel)];exact⟨rfl,rfl⟩))
  (fun os started H enc _=>ZAu os started H enc)
theorem proved:Rows.LowLessSaid:=over
theorem carded:Rows.LowLessCardSaid:=
 Claim7.holds_tied_plain_at .later [] [.data, .data] true (true, "d907b5d9381713682315e2e2b6cdc9b83e8277611de7aab9efce85a6aaa9d615") false
  proved (fun _ h=>by cases h) (by kernel_rfl) (fun _ h=>by cases h) lowLess_row_tie rfl ⟨rfl,rfl⟩ (by kernel_rfl) rfl
  (fun f fn hf hfn=>by
   obtain rfl : f = 9 := Option.some.inj ((show Tryd.prog.funcNamed "trefoil/trefoillaw07.LowLess" = some 9 by kernel_rfl).symm.trans hf) |>.symm
   obtain rfl:fn=Tryd.f9:=(Option.some.inj (Tryd.func9.symm.trans hfn)).symm
   exact⟨by kernel_rfl,fun j t ht=>by
    rw[Tryd.params9] at ht
    have hm:t∈[27]:=by simpa using Array.mem_of_getElem? ht
    have hall:([27].all fun u=>!Tryd.prog.wantsStandIn u)=true:=by kernel_rfl
    exact(show Tryd.prog.wantsStandIn t=false by simpa using List.all_eq_true.1 hall t hm)⟩)
  (by kernel_rfl)
end Go.Proofs.YtljgncbdagmeeaaDoor.LawLowLess
namespace Go.Proofs.YtljgncbdagmeeaaDoor
theorem lowLess_holds:Rows.LowLessCardSaid:=LawLowLess.carded
#print axioms lowLess_holds
end Go.Proofs.YtljgncbdagmeeaaDoor
