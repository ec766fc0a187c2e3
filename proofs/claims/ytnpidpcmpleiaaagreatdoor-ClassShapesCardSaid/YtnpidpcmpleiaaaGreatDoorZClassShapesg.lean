/- ClassShapes: part 7 of 7 of the proof: the row and the card of the law, out of what the evaluator says of it; without conditions. -/
import Derived.Test.YtnpidpcmpleiaaaGreatDoorZClassShapesf
import Derived.KernelRfl
import Derived.Test.YtnpidpcmpleiaaaGreatDoorRows
import Derived.Test.YtnpidpcmpleiaaaGreatDoorCards
import Derived.Test.YtnpidpcmpleiaaaGreatDoorTie
import Derived.WalkKit
import Derived.ProofKit
import Derived.OpenShut
import Derived.ShutString
import Derived.ChangeOld
import Derived.Below
import Derived.SizedLaws
import Derived.Handed
import Derived.LaidMore
import Derived.Stop.Joined
import Derived.ChangeShapes
import Derived.Carry
import Derived.SevenTiedAt
set_option maxRecDepth 100000
set_option maxHeartbeats 40000000
set_option linter.unusedVariables false
set_option linter.unusedSimpArgs false
namespace Go.Proofs.YtnpidpcmpleiaaaGreatDoor
open Go Go.Proofs.YtnpidpcmpleiaaaGreatDoorE
open Go.IntKind (u64 i64 u32 i32 u8)
def Zi3 (b:Int) (c:Int) (m1_0:List Int) (m2_0:List Zo) (m3_0:List Zj) (m4_0:(List (Int×Int))) (m5_0:(List (Int×Int))) (m6_0:(List (Zl×Int))):Unit→V×Zs
  | r=>((.d (D.tup [])),[(.cells [(.sl 1 1),(.sl 7 2),(.sl 3 2),(.mp 4),(.mp 5),(.mp 6)]),(.arr 1 (List.map Ze m1_0)),.dead,(.arr 2 (List.map Zbe m3_0)),(.mp (mpD Ze Ze m4_0)),(.mp (mpD Ze Ze m5_0)),(.mp (mpD Zv Ze m6_0)),(.arr 2 (List.map ZA (m2_0++[(Zo.mk b c)])))])
theorem Zbk {b c:Int}{m1_0:List Int}{m2_0:List Zo}{m3_0:List Zj}{m4_0:(List (Int×Int))}{m5_0:(List (Int×Int))}{m6_0:(List (Zl×Int))}:∀r,(Z2 b c m2_0)=some r→evW ctx 26 [(.ptr 0 0),(.d (Ze b)),(.d (Ze c))] [(.cells [(.sl 1 1),(.sl 2 2),(.sl 3 2),(.mp 4),(.mp 5),(.mp 6)]),(.arr 1 (List.map Ze m1_0)),(.arr 2 (List.map ZA m2_0)),(.arr 2 (List.map Zbe m3_0)),(.mp (mpD Ze Ze m4_0)),(.mp (mpD Ze Ze m5_0)),(.mp (mpD Zv Ze m6_0))]=some ((Zi3 b c m1_0 m2_0 m3_0 m4_0 m5_0 m6_0) r):=by
 show ZN _ (fun r rhs=>rhs=some ((Zi3 b c m1_0 m2_0 m3_0 m4_0 m5_0 m6_0) r)) _
 unfold Z2
 rw[ZeK ctx 26 ZDA _ _ rfl rfl]
 conv=>rhs;whnf
 refine Zbl rfl ?_;conv=>rhs;whnf
 refine Zf (Zfd ZA m2_0 1) ?_ ?_
 ·conv=>rhs;whnf
  refine Zm (Zfc ZA m2_0 [(Zo.mk b c)]) ?_;conv=>rhs;whnf
  exact Zh rfl
 ·exact ZaH
def Zi1 (t0:Bool) (t1:Bool) (t2:Bool) (t3:Bool) (b:Zp) (c:Int) (m1_0:List Int) (m2_0:List Zo) (m3_0:List Zj) (m4_0:(List (Int×Int))) (m5_0:(List (Int×Int))) (m6_0:(List (Zl×Int))):(((List (Int×Int))×(List (Zl×Int))×(List Int)×(List Zo)×(List Zj))⊕((List Int)⊕Unit))→V×Zs
  | (.inl r)=>((.d (D.tup [])),[(.cells [(.sl 7 1),(.sl 8 2),(.sl 9 2),(.mp 4),(.mp 5),(.mp 6)]),.dead,.dead,.dead,(.mp (mpD Ze Ze (ZB (fun ka kb:Int=>(ka==kb)) m4_0 c (m3_0.length:Int)))),(.mp (mpD Ze Ze r.1)),(.mp (mpD Zv Ze r.2.1)),(.arr 1 (List.map Ze r.2.2.1)),(.arr 2 (List.map ZA r.2.2.2.1)),(.arr 2 (List.map Zbe r.2.2.2.2))])
  | (.inr (.inl r))=>((.d (D.tup [])),[(.cells [(.sl 7 1),(.sl 2 2),(.sl 8 2),(.mp 4),(.mp 5),(.mp 6)]),.dead,(.arr 2 (List.map ZA m2_0)),.dead,(.mp (mpD Ze Ze (ZB (fun ka kb:Int=>(ka==kb)) m4_0 c (m3_0.length:Int)))),(.mp (mpD Ze Ze (ZB (fun ka kb:Int=>(ka==kb)) m5_0 c (w64 ((List.length (m3_0++[(Zj.mk c 0)]):Int)-1))))),(.mp (mpD Zv Ze m6_0)),(.arr 1 (List.map Ze r)),(.arr 2 (List.map Zbe (m3_0++[(Zj.mk c 0)])))])
  | (.inr (.inr r))=>((.d (D.tup [])),[(.cells [(.sl 1 1),(.sl 2 2),(.sl 3 2),(.mp 4),(.mp 5),(.mp 6)]),(.arr 1 (List.map Ze m1_0)),(.arr 2 (List.map ZA m2_0)),(.arr 2 (List.map Zbe m3_0)),(.mp (mpD Ze Ze (ZB (fun ka kb:Int=>(ka==kb)) m4_0 c (m3_0.length:Int)))),(.mp (mpD Ze Ze m5_0)),(.mp (mpD Zv Ze m6_0))])
def Zil (t0:Bool) (t1:Bool) (t2:Bool) (t3:Bool) (b:Zp) (c:Int) (m3_0:List Zj) (m4_0:(List (Int×Int))) (x0:List Int):((List (Int×Int))×(List (Zl×Int))×(List Int)×(List Zo)×(List Zj))→Ex×List V×Zs
  | r=>(.exit 0,[],[(.cells [(.sl 7 1),(.sl 8 2),(.sl 9 2),(.mp 4),(.mp 5),(.mp 6)]),.dead,.dead,.dead,(.mp (mpD Ze Ze (ZB (fun ka kb:Int=>(ka==kb)) m4_0 c (m3_0.length:Int)))),(.mp (mpD Ze Ze r.1)),(.mp (mpD Zv Ze r.2.1)),(.arr 1 (List.map Ze r.2.2.1)),(.arr 2 (List.map ZA r.2.2.2.1)),(.arr 2 (List.map Zbe r.2.2.2.2))])
theorem ZdV {t0 t1:Bool}{t2 t3:Bool}{b:Zp}{c:Int}{m3_0:List Zj}{m4_0:(List (Int×Int))}{x0:List Int}:∀(s14:Int×Int×(List (Int×Int))×(List (Zl×Int))×(List Int)×(List Zo)×(List Zj)) (r:((List (Int×Int))×(List (Zl×Int))×(List Int)×(List Zo)×(List Zj))),lp (ZH b c x0) s14=some r→lpW ctx 7 [0,2,4,6,7,26,27] [] ZsL [(.ptr 0 0),(.d (Ze c)),(.ptr 7 0),(.d (Ze s14.1)),(.d (D.list true (List.map Ze x0))),(.d (Ze (w64 ((x0.length:Int)+1)))),(.d (Ze s14.2.1))] [(.cells [(.sl 8 1),(.sl 9 2),(.sl 10 2),(.mp 4),(.mp 5),(.mp 6)]),.dead,.dead,.dead,(.mp (mpD Ze Ze (ZB (fun ka kb:Int=>(ka==kb)) m4_0 c (m3_0.length:Int)))),(.mp (mpD Ze Ze s14.2.2.1)),(.mp (mpD Zv Ze s14.2.2.2.1)),(.cells (dV t0 t1 t2 t3 b)),(.arr 1 (List.map Ze s14.2.2.2.2.1)),(.arr 2 (List.map ZA s14.2.2.2.2.2.1)),(.arr 2 (List.map Zbe s14.2.2.2.2.2.2))]=some ((Zil t0 t1 t2 t3 b c m3_0 m4_0 x0) r):=by
 refine Zah (Zil t0 t1 t2 t3 b c m3_0 m4_0 x0) ?_
 intro s14 rcl ih
 show ZN _ _ (lpW _ _ _ _ _ _ _)
 unfold ZH
 rw[Zai]
 conv=>rhs;whnf
 refine Zf rfl ?_ ?_<;>conv=>rhs;whnf
 ·refine Zk rfl rfl fun x15 hx15=>?_;conv=>rhs;whnf
  refine Zm (ZK _ _) ?_;conv=>rhs;whnf
  refine Zf rfl ?_ ?_<;>conv=>rhs;whnf
  ·refine Zk rfl rfl fun x16 hx16=>?_;conv=>rhs;whnf
   refine Zk rfl rfl fun x17 hx17=>?_;conv=>rhs;whnf
   refine Zc _ ZbA fun x18 hx18=>?_;conv=>rhs;whnf
   refine Zg (ZfL (f:=Ze) (g:=Ze) (fun ka kb:Int=>(ka==kb)) (fun _ _=>rfl) s14.2.2.1 c (w64 ((List.length (s14.2.2.2.2.2.2++[(Zj.mk c s14.2.1)]):Int)-1))) ?_;conv=>rhs;whnf
   refine Zf rfl ?_ ?_<;>conv=>rhs;whnf
   ·refine Zg (ZcB (f:=Ze) (g:=Ze) (fun ka kb:Int=>(ka==kb)) (fun _ _=>rfl) (ZB (fun ka kb:Int=>(ka==kb)) s14.2.2.1 c (w64 ((List.length (s14.2.2.2.2.2.2++[(Zj.mk c s14.2.1)]):Int)-1))) c 0) ?_;conv=>rhs;whnf
    refine Zg (ZcB (f:=Ze) (g:=Ze) (fun ka kb:Int=>(ka==kb)) (fun _ _=>rfl) (ZB (fun ka kb:Int=>(ka==kb)) s14.2.2.1 c (w64 ((List.length (s14.2.2.2.2.2.2++[(Zj.mk c s14.2.1)]):Int)-1))) c 0) ?_;conv=>rhs;whnf
    refine Zc _ Zbk fun x19 hx19=>?_;conv=>rhs;whnf
    refine Zk rfl rfl fun x20 hx20=>?_;conv=>rhs;whnf
    refine Zk rfl rfl fun x21 hx21=>?_;conv=>rhs;whnf
    refine Zg (ZcB (f:=Ze) (g:=Ze) (fun ka kb:Int=>(ka==kb)) (fun _ _=>rfl) (ZB (fun ka kb:Int=>(ka==kb)) s14.2.2.1 c (w64 ((List.length (s14.2.2.2.2.2.2++[(Zj.mk c s14.2.1)]):Int)-1))) c 0) ?_;conv=>rhs;whnf
    refine Zg (ZfL (f:=Zv) (g:=Ze) (fun ka kb:Zl=>((ka.maker==kb.maker)&&((ka.user==kb.user)&&((ka.pos==kb.pos)&&true)))) (fun _ _=>rfl) s14.2.2.2.1 x21 (ZaT (fun ka kb:Int=>(ka==kb)) (ZB (fun ka kb:Int=>(ka==kb)) s14.2.2.1 c (w64 ((List.length (s14.2.2.2.2.2.2++[(Zj.mk c s14.2.1)]):Int)-1))) c 0)) ?_;conv=>rhs;whnf
    exact Zd (ih _)
   ·exact Zd (ih _)
  ·refine Zc _ ZbA fun x22 hx22=>?_;conv=>rhs;whnf
   refine Zg (ZfL (f:=Ze) (g:=Ze) (fun ka kb:Int=>(ka==kb)) (fun _ _=>rfl) s14.2.2.1 c (w64 ((List.length (s14.2.2.2.2.2.2++[(Zj.mk c s14.2.1)]):Int)-1))) ?_;conv=>rhs;whnf
   refine Zf rfl ?_ ?_<;>conv=>rhs;whnf
   ·refine Zg (ZcB (f:=Ze) (g:=Ze) (fun ka kb:Int=>(ka==kb)) (fun _ _=>rfl) (ZB (fun ka kb:Int=>(ka==kb)) s14.2.2.1 c (w64 ((List.length (s14.2.2.2.2.2.2++[(Zj.mk c s14.2.1)]):Int)-1))) c 0) ?_;conv=>rhs;whnf
    refine Zg (ZcB (f:=Ze) (g:=Ze) (fun ka kb:Int=>(ka==kb)) (fun _ _=>rfl) (ZB (fun ka kb:Int=>(ka==kb)) s14.2.2.1 c (w64 ((List.length (s14.2.2.2.2.2.2++[(Zj.mk c s14.2.1)]):Int)-1))) c 0) ?_;conv=>rhs;whnf
    refine Zc _ Zbk fun x23 hx23=>?_;conv=>rhs;whnf
    refine Zk rfl rfl fun x24 hx24=>?_;conv=>rhs;whnf
    refine Zk rfl rfl fun x25 hx25=>?_;conv=>rhs;whnf
    refine Zg (ZcB (f:=Ze) (g:=Ze) (fun ka kb:Int=>(ka==kb)) (fun _ _=>rfl) (ZB (fun ka kb:Int=>(ka==kb)) s14.2.2.1 c (w64 ((List.length (s14.2.2.2.2.2.2++[(Zj.mk c s14.2.1)]):Int)-1))) c 0) ?_;conv=>rhs;whnf
    refine Zg (ZfL (f:=Zv) (g:=Ze) (fun ka kb:Zl=>((ka.maker==kb.maker)&&((ka.user==kb.user)&&((ka.pos==kb.pos)&&true)))) (fun _ _=>rfl) s14.2.2.2.1 x25 (ZaT (fun ka kb:Int=>(ka==kb)) (ZB (fun ka kb:Int=>(ka==kb)) s14.2.2.1 c (w64 ((List.length (s14.2.2.2.2.2.2++[(Zj.mk c s14.2.1)]):Int)-1))) c 0)) ?_;conv=>rhs;whnf
    exact Zd (ih _)
   ·exact Zd (ih _)
 ·exact Zh rfl
def ZhH (t0:Bool) (t1:Bool) (t2:Bool) (t3:Bool) (b:Zp) (c:Int) (m1_0:List Int) (m2_0:List Zo) (m3_0:List Zj) (m4_0:(List (Int×Int))) (m5_0:(List (Int×Int))) (m6_0:(List (Zl×Int))) (x0:List Int) (x4:Zl):(((List (Int×Int))×(List (Zl×Int))×(List Int)×(List Zo)×(List Zj))⊕Unit)→Ex×List V×Zs
  | (.inl r)=>(.exit 0,[],[(.cells [(.sl 7 1),(.sl 8 2),(.sl 9 2),(.mp 4),(.mp 5),(.mp 6)]),.dead,.dead,.dead,(.mp (mpD Ze Ze (ZB (fun ka kb:Int=>(ka==kb)) m4_0 c (m3_0.length:Int)))),(.mp (mpD Ze Ze r.1)),(.mp (mpD Zv Ze r.2.1)),(.arr 1 (List.map Ze r.2.2.1)),(.arr 2 (List.map ZA r.2.2.2.1)),(.arr 2 (List.map Zbe r.2.2.2.2))])
  | (.inr r)=>(.exit 0,[],[(.cells [(.sl 7 1),(.sl 2 2),(.sl 8 2),(.mp 4),(.mp 5),(.mp 6)]),.dead,(.arr 2 (List.map ZA m2_0)),.dead,(.mp (mpD Ze Ze (ZB (fun ka kb:Int=>(ka==kb)) m4_0 c (m3_0.length:Int)))),(.mp (mpD Ze Ze (ZB (fun ka kb:Int=>(ka==kb)) m5_0 c (w64 ((List.length (m3_0++[(Zj.mk c 0)]):Int)-1))))),(.mp (mpD Zv Ze m6_0)),(.arr 1 (List.map Ze (m1_0++[(w64 (x4.pos-0))]))),(.arr 2 (List.map Zbe (m3_0++[(Zj.mk c 0)])))])
theorem Zj5 {t0 t1:Bool}{t2 t3:Bool}{b:Zp}{c:Int}{m1_0:List Int}{m2_0:List Zo}{m3_0:List Zj}{m4_0:(List (Int×Int))}{m5_0:(List (Int×Int))}{m6_0:(List (Zl×Int))}{x0:List Int}{x4:Zl}:∀(s6:Unit) (r:(((List (Int×Int))×(List (Zl×Int))×(List Int)×(List Zo)×(List Zj))⊕Unit)),lp (Zcq b c m1_0 m2_0 m3_0 m5_0 m6_0 x0 x4) s6=some r→lpW ctx 7 [0,2,4,6,7,26,27] [] ZsL [(.ptr 0 0),(.d (Ze c)),(.ptr 7 0),(.d (Ze x4.pos)),(.d (D.list true (List.map Ze x0))),(.d (Ze (w64 ((x0.length:Int)+1)))),(.d (Ze 1))] [(.cells [(.sl 8 1),(.sl 2 2),(.sl 9 2),(.mp 4),(.mp 5),(.mp 6)]),.dead,(.arr 2 (List.map ZA m2_0)),.dead,(.mp (mpD Ze Ze (ZB (fun ka kb:Int=>(ka==kb)) m4_0 c (m3_0.length:Int)))),(.mp (mpD Ze Ze (ZB (fun ka kb:Int=>(ka==kb)) m5_0 c (w64 ((List.length (m3_0++[(Zj.mk c 0)]):Int)-1))))),(.mp (mpD Zv Ze m6_0)),(.cells (dV t0 t1 t2 t3 b)),(.arr 1 (List.map Ze (m1_0++[(w64 (x4.pos-0))]))),(.arr 2 (List.map Zbe (m3_0++[(Zj.mk c 0)])))]=some ((ZhH t0 t1 t2 t3 b c m1_0 m2_0 m3_0 m4_0 m5_0 m6_0 x0 x4) r):=by
 refine Zah (ZhH t0 t1 t2 t3 b c m1_0 m2_0 m3_0 m4_0 m5_0 m6_0 x0 x4) ?_
 intro s6 rcl ih
 show ZN _ _ (lpW _ _ _ _ _ _ _)
 unfold Zcq
 rw[Zai]
 conv=>rhs;whnf
 refine Zf rfl ?_ ?_<;>conv=>rhs;whnf
 ·refine Zk rfl rfl fun x7 hx7=>?_;conv=>rhs;whnf
  refine Zm (ZK _ _) ?_;conv=>rhs;whnf
  refine Zf rfl ?_ ?_<;>conv=>rhs;whnf
  ·refine Zk rfl rfl fun x8 hx8=>?_;conv=>rhs;whnf
   refine Zk rfl rfl fun x9 hx9=>?_;conv=>rhs;whnf
   refine Zc _ ZbA fun x10 hx10=>?_;conv=>rhs;whnf
   refine Zg (ZfL (f:=Ze) (g:=Ze) (fun ka kb:Int=>(ka==kb)) (fun _ _=>rfl) (ZB (fun ka kb:Int=>(ka==kb)) m5_0 c (w64 ((List.length (m3_0++[(Zj.mk c 0)]):Int)-1))) c (w64 ((List.length ((m3_0++[(Zj.mk c 0)])++[(Zj.mk c 1)]):Int)-1))) ?_;conv=>rhs;whnf
   refine Zbl rfl ?_;conv=>rhs;whnf
   refine Zg (ZcB (f:=Ze) (g:=Ze) (fun ka kb:Int=>(ka==kb)) (fun _ _=>rfl) (ZB (fun ka kb:Int=>(ka==kb)) (ZB (fun ka kb:Int=>(ka==kb)) m5_0 c (w64 ((List.length (m3_0++[(Zj.mk c 0)]):Int)-1))) c (w64 ((List.length ((m3_0++[(Zj.mk c 0)])++[(Zj.mk c 1)]):Int)-1))) c 0) ?_;conv=>rhs;whnf
   refine Zg (ZcB (f:=Ze) (g:=Ze) (fun ka kb:Int=>(ka==kb)) (fun _ _=>rfl) (ZB (fun ka kb:Int=>(ka==kb)) (ZB (fun ka kb:Int=>(ka==kb)) m5_0 c (w64 ((List.length (m3_0++[(Zj.mk c 0)]):Int)-1))) c (w64 ((List.length ((m3_0++[(Zj.mk c 0)])++[(Zj.mk c 1)]):Int)-1))) c 0) ?_;conv=>rhs;whnf
   refine Zc _ Zbk fun x11 hx11=>?_;conv=>rhs;whnf
   refine Zk rfl rfl fun x12 hx12=>?_;conv=>rhs;whnf
   refine Zk rfl rfl fun x13 hx13=>?_;conv=>rhs;whnf
   refine Zg (ZcB (f:=Ze) (g:=Ze) (fun ka kb:Int=>(ka==kb)) (fun _ _=>rfl) (ZB (fun ka kb:Int=>(ka==kb)) (ZB (fun ka kb:Int=>(ka==kb)) m5_0 c (w64 ((List.length (m3_0++[(Zj.mk c 0)]):Int)-1))) c (w64 ((List.length ((m3_0++[(Zj.mk c 0)])++[(Zj.mk c 1)]):Int)-1))) c 0) ?_;conv=>rhs;whnf
   refine Zg (ZfL (f:=Zv) (g:=Ze) (fun ka kb:Zl=>((ka.maker==kb.maker)&&((ka.user==kb.user)&&((ka.pos==kb.pos)&&true)))) (fun _ _=>rfl) m6_0 x13 (ZaT (fun ka kb:Int=>(ka==kb)) (ZB (fun ka kb:Int=>(ka==kb)) (ZB (fun ka kb:Int=>(ka==kb)) m5_0 c (w64 ((List.length (m3_0++[(Zj.mk c 0)]):Int)-1))) c (w64 ((List.length ((m3_0++[(Zj.mk c 0)])++[(Zj.mk c 1)]):Int)-1))) c 0)) ?_;conv=>rhs;whnf
   refine Zc _ (ZdV _) fun r26 hr26=>?_;conv=>rhs;whnf
   exact Zh rfl
  ·refine Zc _ ZbA fun x27 hx27=>?_;conv=>rhs;whnf
   refine Zg (ZfL (f:=Ze) (g:=Ze) (fun ka kb:Int=>(ka==kb)) (fun _ _=>rfl) (ZB (fun ka kb:Int=>(ka==kb)) m5_0 c (w64 ((List.length (m3_0++[(Zj.mk c 0)]):Int)-1))) c (w64 ((List.length ((m3_0++[(Zj.mk c 0)])++[(Zj.mk c 1)]):Int)-1))) ?_;conv=>rhs;whnf
   refine Zbl rfl ?_;conv=>rhs;whnf
   refine Zg (ZcB (f:=Ze) (g:=Ze) (fun ka kb:Int=>(ka==kb)) (fun _ _=>rfl) (ZB (fun ka kb:Int=>(ka==kb)) (ZB (fun ka kb:Int=>(ka==kb)) m5_0 c (w64 ((List.length (m3_0++[(Zj.mk c 0)]):Int)-1))) c (w64 ((List.length ((m3_0++[(Zj.mk c 0)])++[(Zj.mk c 1)]):Int)-1))) c 0) ?_;conv=>rhs;whnf
   refine Zg (ZcB (f:=Ze) (g:=Ze) (fun ka kb:Int=>(ka==kb)) (fun _ _=>rfl) (ZB (fun ka kb:Int=>(ka==kb)) (ZB (fun ka kb:Int=>(ka==kb)) m5_0 c (w64 ((List.length (m3_0++[(Zj.mk c 0)]):Int)-1))) c (w64 ((List.length ((m3_0++[(Zj.mk c 0)])++[(Zj.mk c 1)]):Int)-1))) c 0) ?_;conv=>rhs;whnf
   refine Zc _ Zbk fun x28 hx28=>?_;conv=>rhs;whnf
   refine Zk rfl rfl fun x29 hx29=>?_;conv=>rhs;whnf
   refine Zk rfl rfl fun x30 hx30=>?_;conv=>rhs;whnf
   refine Zg (ZcB (f:=Ze) (g:=Ze) (fun ka kb:Int=>(ka==kb)) (fun _ _=>rfl) (ZB (fun ka kb:Int=>(ka==kb)) (ZB (fun ka kb:Int=>(ka==kb)) m5_0 c (w64 ((List.length (m3_0++[(Zj.mk c 0)]):Int)-1))) c (w64 ((List.length ((m3_0++[(Zj.mk c 0)])++[(Zj.mk c 1)]):Int)-1))) c 0) ?_;conv=>rhs;whnf
   refine Zg (ZfL (f:=Zv) (g:=Ze) (fun ka kb:Zl=>((ka.maker==kb.maker)&&((ka.user==kb.user)&&((ka.pos==kb.pos)&&true)))) (fun _ _=>rfl) m6_0 x30 (ZaT (fun ka kb:Int=>(ka==kb)) (ZB (fun ka kb:Int=>(ka==kb)) (ZB (fun ka kb:Int=>(ka==kb)) m5_0 c (w64 ((List.length (m3_0++[(Zj.mk c 0)]):Int)-1))) c (w64 ((List.length ((m3_0++[(Zj.mk c 0)])++[(Zj.mk c 1)]):Int)-1))) c 0)) ?_;conv=>rhs;whnf
   refine Zc _ (ZdV _) fun r43 hr43=>?_;conv=>rhs;whnf
   exact Zh rfl
 ·exact Zh rfl
def ZhM (t0:Bool) (t1:Bool) (t2:Bool) (t3:Bool) (b:Zp) (c:Int) (m1_0:List Int) (m2_0:List Zo) (m3_0:List Zj) (m4_0:(List (Int×Int))) (m5_0:(List (Int×Int))) (m6_0:(List (Zl×Int))) (x0:List Int) (x2:Zas):(((List (Int×Int))×(List (Zl×Int))×(List Int)×(List Zo)×(List Zj))⊕Unit)→Ex×List V×Zs
  | (.inl r)=>(.exit 0,[],[(.cells [(.sl 7 1),(.sl 8 2),(.sl 9 2),(.mp 4),(.mp 5),(.mp 6)]),.dead,.dead,.dead,(.mp (mpD Ze Ze (ZB (fun ka kb:Int=>(ka==kb)) m4_0 c (m3_0.length:Int)))),(.mp (mpD Ze Ze r.1)),(.mp (mpD Zv Ze r.2.1)),(.arr 1 (List.map Ze r.2.2.1)),(.arr 2 (List.map ZA r.2.2.2.1)),(.arr 2 (List.map Zbe r.2.2.2.2))])
  | (.inr r)=>(.exit 0,[],[(.cells [(.sl 7 1),(.sl 2 2),(.sl 8 2),(.mp 4),(.mp 5),(.mp 6)]),.dead,(.arr 2 (List.map ZA m2_0)),.dead,(.mp (mpD Ze Ze (ZB (fun ka kb:Int=>(ka==kb)) m4_0 c (m3_0.length:Int)))),(.mp (mpD Ze Ze (ZB (fun ka kb:Int=>(ka==kb)) m5_0 c (w64 ((List.length (m3_0++[(Zj.mk c 0)]):Int)-1))))),(.mp (mpD Zv Ze m6_0)),(.arr 1 (List.map Ze (m1_0++[(w64 (x2.work-0))]))),(.arr 2 (List.map Zbe (m3_0++[(Zj.mk c 0)])))])
theorem Zkd {t0 t1:Bool}{t2 t3:Bool}{b:Zp}{c:Int}{m1_0:List Int}{m2_0:List Zo}{m3_0:List Zj}{m4_0:(List (Int×Int))}{m5_0:(List (Int×Int))}{m6_0:(List (Zl×Int))}{x0:List Int}{x2:Zas}:∀(s46:Unit) (r:(((List (Int×Int))×(List (Zl×Int))×(List Int)×(List Zo)×(List Zj))⊕Unit)),lp (Zdh b c m1_0 m2_0 m3_0 m5_0 m6_0 x0 x2) s46=some r→lpW ctx 7 [0,2,4,6,7,26,27] [] ZsL [(.ptr 0 0),(.d (Ze c)),(.ptr 7 0),(.d (Ze x2.work)),(.d (D.list true (List.map Ze x0))),(.d (Ze (w64 ((x0.length:Int)+1)))),(.d (Ze 1))] [(.cells [(.sl 8 1),(.sl 2 2),(.sl 9 2),(.mp 4),(.mp 5),(.mp 6)]),.dead,(.arr 2 (List.map ZA m2_0)),.dead,(.mp (mpD Ze Ze (ZB (fun ka kb:Int=>(ka==kb)) m4_0 c (m3_0.length:Int)))),(.mp (mpD Ze Ze (ZB (fun ka kb:Int=>(ka==kb)) m5_0 c (w64 ((List.length (m3_0++[(Zj.mk c 0)]):Int)-1))))),(.mp (mpD Zv Ze m6_0)),(.cells (dV t0 t1 t2 t3 b)),(.arr 1 (List.map Ze (m1_0++[(w64 (x2.work-0))]))),(.arr 2 (List.map Zbe (m3_0++[(Zj.mk c 0)])))]=some ((ZhM t0 t1 t2 t3 b c m1_0 m2_0 m3_0 m4_0 m5_0 m6_0 x0 x2) r):=by
 refine Zah (ZhM t0 t1 t2 t3 b c m1_0 m2_0 m3_0 m4_0 m5_0 m6_0 x0 x2) ?_
 intro s46 rcl ih
 show ZN _ _ (lpW _ _ _ _ _ _ _)
 unfold Zdh
 rw[Zai]
 conv=>rhs;whnf
 refine Zf rfl ?_ ?_<;>conv=>rhs;whnf
 ·refine Zk rfl rfl fun x47 hx47=>?_;conv=>rhs;whnf
  refine Zm (ZK _ _) ?_;conv=>rhs;whnf
  refine Zf rfl ?_ ?_<;>conv=>rhs;whnf
  ·refine Zk rfl rfl fun x48 hx48=>?_;conv=>rhs;whnf
   refine Zk rfl rfl fun x49 hx49=>?_;conv=>rhs;whnf
   refine Zc _ ZbA fun x50 hx50=>?_;conv=>rhs;whnf
   refine Zg (ZfL (f:=Ze) (g:=Ze) (fun ka kb:Int=>(ka==kb)) (fun _ _=>rfl) (ZB (fun ka kb:Int=>(ka==kb)) m5_0 c (w64 ((List.length (m3_0++[(Zj.mk c 0)]):Int)-1))) c (w64 ((List.length ((m3_0++[(Zj.mk c 0)])++[(Zj.mk c 1)]):Int)-1))) ?_;conv=>rhs;whnf
   refine Zbl rfl ?_;conv=>rhs;whnf
   refine Zg (ZcB (f:=Ze) (g:=Ze) (fun ka kb:Int=>(ka==kb)) (fun _ _=>rfl) (ZB (fun ka kb:Int=>(ka==kb)) (ZB (fun ka kb:Int=>(ka==kb)) m5_0 c (w64 ((List.length (m3_0++[(Zj.mk c 0)]):Int)-1))) c (w64 ((List.length ((m3_0++[(Zj.mk c 0)])++[(Zj.mk c 1)]):Int)-1))) c 0) ?_;conv=>rhs;whnf
   refine Zg (ZcB (f:=Ze) (g:=Ze) (fun ka kb:Int=>(ka==kb)) (fun _ _=>rfl) (ZB (fun ka kb:Int=>(ka==kb)) (ZB (fun ka kb:Int=>(ka==kb)) m5_0 c (w64 ((List.length (m3_0++[(Zj.mk c 0)]):Int)-1))) c (w64 ((List.length ((m3_0++[(Zj.mk c 0)])++[(Zj.mk c 1)]):Int)-1))) c 0) ?_;conv=>rhs;whnf
   refine Zc _ Zbk fun x51 hx51=>?_;conv=>rhs;whnf
   refine Zk rfl rfl fun x52 hx52=>?_;conv=>rhs;whnf
   refine Zk rfl rfl fun x53 hx53=>?_;conv=>rhs;whnf
   refine Zg (ZcB (f:=Ze) (g:=Ze) (fun ka kb:Int=>(ka==kb)) (fun _ _=>rfl) (ZB (fun ka kb:Int=>(ka==kb)) (ZB (fun ka kb:Int=>(ka==kb)) m5_0 c (w64 ((List.length (m3_0++[(Zj.mk c 0)]):Int)-1))) c (w64 ((List.length ((m3_0++[(Zj.mk c 0)])++[(Zj.mk c 1)]):Int)-1))) c 0) ?_;conv=>rhs;whnf
   refine Zg (ZfL (f:=Zv) (g:=Ze) (fun ka kb:Zl=>((ka.maker==kb.maker)&&((ka.user==kb.user)&&((ka.pos==kb.pos)&&true)))) (fun _ _=>rfl) m6_0 x53 (ZaT (fun ka kb:Int=>(ka==kb)) (ZB (fun ka kb:Int=>(ka==kb)) (ZB (fun ka kb:Int=>(ka==kb)) m5_0 c (w64 ((List.length (m3_0++[(Zj.mk c 0)]):Int)-1))) c (w64 ((List.length ((m3_0++[(Zj.mk c 0)])++[(Zj.mk c 1)]):Int)-1))) c 0)) ?_;conv=>rhs;whnf
   refine Zc _ (ZdV _) fun r66 hr66=>?_;conv=>rhs;whnf
   exact Zh rfl
  ·refine Zc _ ZbA fun x67 hx67=>?_;conv=>rhs;whnf
   refine Zg (ZfL (f:=Ze) (g:=Ze) (fun ka kb:Int=>(ka==kb)) (fun _ _=>rfl) (ZB (fun ka kb:Int=>(ka==kb)) m5_0 c (w64 ((List.length (m3_0++[(Zj.mk c 0)]):Int)-1))) c (w64 ((List.length ((m3_0++[(Zj.mk c 0)])++[(Zj.mk c 1)]):Int)-1))) ?_;conv=>rhs;whnf
   refine Zbl rfl ?_;conv=>rhs;whnf
   refine Zg (ZcB (f:=Ze) (g:=Ze) (fun ka kb:Int=>(ka==kb)) (fun _ _=>rfl) (ZB (fun ka kb:Int=>(ka==kb)) (ZB (fun ka kb:Int=>(ka==kb)) m5_0 c (w64 ((List.length (m3_0++[(Zj.mk c 0)]):Int)-1))) c (w64 ((List.length ((m3_0++[(Zj.mk c 0)])++[(Zj.mk c 1)]):Int)-1))) c 0) ?_;conv=>rhs;whnf
   refine Zg (ZcB (f:=Ze) (g:=Ze) (fun ka kb:Int=>(ka==kb)) (fun _ _=>rfl) (ZB (fun ka kb:Int=>(ka==kb)) (ZB (fun ka kb:Int=>(ka==kb)) m5_0 c (w64 ((List.length (m3_0++[(Zj.mk c 0)]):Int)-1))) c (w64 ((List.length ((m3_0++[(Zj.mk c 0)])++[(Zj.mk c 1)]):Int)-1))) c 0) ?_;conv=>rhs;whnf
   refine Zc _ Zbk fun x68 hx68=>?_;conv=>rhs;whnf
   refine Zk rfl rfl fun x69 hx69=>?_;conv=>rhs;whnf
   refine Zk rfl rfl fun x70 hx70=>?_;conv=>rhs;whnf
   refine Zg (ZcB (f:=Ze) (g:=Ze) (fun ka kb:Int=>(ka==kb)) (fun _ _=>rfl) (ZB (fun ka kb:Int=>(ka==kb)) (ZB (fun ka kb:Int=>(ka==kb)) m5_0 c (w64 ((List.length (m3_0++[(Zj.mk c 0)]):Int)-1))) c (w64 ((List.length ((m3_0++[(Zj.mk c 0)])++[(Zj.mk c 1)]):Int)-1))) c 0) ?_;conv=>rhs;whnf
   refine Zg (ZfL (f:=Zv) (g:=Ze) (fun ka kb:Zl=>((ka.maker==kb.maker)&&((ka.user==kb.user)&&((ka.pos==kb.pos)&&true)))) (fun _ _=>rfl) m6_0 x70 (ZaT (fun ka kb:Int=>(ka==kb)) (ZB (fun ka kb:Int=>(ka==kb)) (ZB (fun ka kb:Int=>(ka==kb)) m5_0 c (w64 ((List.length (m3_0++[(Zj.mk c 0)]):Int)-1))) c (w64 ((List.length ((m3_0++[(Zj.mk c 0)])++[(Zj.mk c 1)]):Int)-1))) c 0)) ?_;conv=>rhs;whnf
   refine Zc _ (ZdV _) fun r83 hr83=>?_;conv=>rhs;whnf
   exact Zh rfl
 ·exact Zh rfl
def ZhC (t0:Bool) (t1:Bool) (t2:Bool) (t3:Bool) (b:Zp) (c:Int) (m1_0:List Int) (m2_0:List Zo) (m3_0:List Zj) (m4_0:(List (Int×Int))) (m5_0:(List (Int×Int))) (m6_0:(List (Zl×Int))) (x0:List Int):(((List (Int×Int))×(List (Zl×Int))×(List Int)×(List Zo)×(List Zj))⊕((List Int)⊕Unit))→Ex×List V×Zs
  | (.inl r)=>(.exit 0,[],[(.cells [(.sl 7 1),(.sl 8 2),(.sl 9 2),(.mp 4),(.mp 5),(.mp 6)]),.dead,.dead,.dead,(.mp (mpD Ze Ze (ZB (fun ka kb:Int=>(ka==kb)) m4_0 c (m3_0.length:Int)))),(.mp (mpD Ze Ze r.1)),(.mp (mpD Zv Ze r.2.1)),(.arr 1 (List.map Ze r.2.2.1)),(.arr 2 (List.map ZA r.2.2.2.1)),(.arr 2 (List.map Zbe r.2.2.2.2))])
  | (.inr (.inl r))=>(.exit 0,[],[(.cells [(.sl 7 1),(.sl 2 2),(.sl 8 2),(.mp 4),(.mp 5),(.mp 6)]),.dead,(.arr 2 (List.map ZA m2_0)),.dead,(.mp (mpD Ze Ze (ZB (fun ka kb:Int=>(ka==kb)) m4_0 c (m3_0.length:Int)))),(.mp (mpD Ze Ze (ZB (fun ka kb:Int=>(ka==kb)) m5_0 c (w64 ((List.length (m3_0++[(Zj.mk c 0)]):Int)-1))))),(.mp (mpD Zv Ze m6_0)),(.arr 1 (List.map Ze r)),(.arr 2 (List.map Zbe (m3_0++[(Zj.mk c 0)])))])
  | (.inr (.inr r))=>(.exit 0,[],[(.cells [(.sl 1 1),(.sl 2 2),(.sl 3 2),(.mp 4),(.mp 5),(.mp 6)]),(.arr 1 (List.map Ze m1_0)),(.arr 2 (List.map ZA m2_0)),(.arr 2 (List.map Zbe m3_0)),(.mp (mpD Ze Ze (ZB (fun ka kb:Int=>(ka==kb)) m4_0 c (m3_0.length:Int)))),(.mp (mpD Ze Ze m5_0)),(.mp (mpD Zv Ze m6_0))])
theorem Zke {t0 t1:Bool}{t2 t3:Bool}{b:Zp}{c:Int}{m1_0:List Int}{m2_0:List Zo}{m3_0:List Zj}{m4_0:(List (Int×Int))}{m5_0:(List (Int×Int))}{m6_0:(List (Zl×Int))}{x0:List Int}:∀(s1:Unit) (r:(((List (Int×Int))×(List (Zl×Int))×(List Int)×(List Zo)×(List Zj))⊕((List Int)⊕Unit))),lp (Zcr b c m1_0 m2_0 m3_0 m5_0 m6_0 x0) s1=some r→lpW ctx 7 [0,2,4,6,7,26,27] [] ZsL [(.ptr 0 0),(.d (Ze c)),(.ptr 7 0),(.d (Ze 0)),(.d (D.list true (List.map Ze x0))),(.d (Ze (w64 ((x0.length:Int)+1)))),(.d (Ze 0))] [(.cells [(.sl 1 1),(.sl 2 2),(.sl 3 2),(.mp 4),(.mp 5),(.mp 6)]),(.arr 1 (List.map Ze m1_0)),(.arr 2 (List.map ZA m2_0)),(.arr 2 (List.map Zbe m3_0)),(.mp (mpD Ze Ze (ZB (fun ka kb:Int=>(ka==kb)) m4_0 c (m3_0.length:Int)))),(.mp (mpD Ze Ze m5_0)),(.mp (mpD Zv Ze m6_0)),(.cells (dV t0 t1 t2 t3 b))]=some ((ZhC t0 t1 t2 t3 b c m1_0 m2_0 m3_0 m4_0 m5_0 m6_0 x0) r):=by
 refine Zah (ZhC t0 t1 t2 t3 b c m1_0 m2_0 m3_0 m4_0 m5_0 m6_0 x0) ?_
 intro s1 rcl ih
 show ZN _ _ (lpW _ _ _ _ _ _ _)
 unfold Zcr
 rw[Zai]
 conv=>rhs;whnf
 refine Zf rfl ?_ ?_<;>conv=>rhs;whnf
 ·refine Zk rfl rfl fun x2 hx2=>?_;conv=>rhs;whnf
  refine Zm (ZK _ _) ?_;conv=>rhs;whnf
  refine Zf rfl ?_ ?_<;>conv=>rhs;whnf
  ·refine Zk rfl rfl fun x3 hx3=>?_;conv=>rhs;whnf
   refine Zk rfl rfl fun x4 hx4=>?_;conv=>rhs;whnf
   refine Zc _ ZbA fun x5 hx5=>?_;conv=>rhs;whnf
   refine Zg (ZfL (f:=Ze) (g:=Ze) (fun ka kb:Int=>(ka==kb)) (fun _ _=>rfl) m5_0 c (w64 ((List.length (m3_0++[(Zj.mk c 0)]):Int)-1))) ?_;conv=>rhs;whnf
   refine ZV rfl ?_;conv=>rhs;whnf
   refine Zc _ (Zj5 _) fun r44 hr44=>?_
   clear hr44
   rcases r44 with r44 | r44
   ·conv=>rhs;whnf
    exact Zh rfl
   ·conv=>rhs;whnf
    exact Zh rfl
  ·refine Zc _ ZbA fun x45 hx45=>?_;conv=>rhs;whnf
   refine Zg (ZfL (f:=Ze) (g:=Ze) (fun ka kb:Int=>(ka==kb)) (fun _ _=>rfl) m5_0 c (w64 ((List.length (m3_0++[(Zj.mk c 0)]):Int)-1))) ?_;conv=>rhs;whnf
   refine ZV rfl ?_;conv=>rhs;whnf
   refine Zc _ (Zkd _) fun r84 hr84=>?_
   clear hr84
   rcases r84 with r84 | r84
   ·conv=>rhs;whnf
    exact Zh rfl
   ·conv=>rhs;whnf
    exact Zh rfl
 ·exact Zh rfl
theorem ZmJ {t0 t1:Bool}{t2 t3:Bool}{b:Zp}{c:Int}{m1_0:List Int}{m2_0:List Zo}{m3_0:List Zj}{m4_0:(List (Int×Int))}{m5_0:(List (Int×Int))}{m6_0:(List (Zl×Int))}:∀r,(Ze6 b c m1_0 m2_0 m3_0 m5_0 m6_0)=some r→evW ctx 25 [(.ptr 0 0),(.d (D.agg (dA t0 t1 t2 t3 b))),(.d (Ze c))] [(.cells [(.sl 1 1),(.sl 2 2),(.sl 3 2),(.mp 4),(.mp 5),(.mp 6)]),(.arr 1 (List.map Ze m1_0)),(.arr 2 (List.map ZA m2_0)),(.arr 2 (List.map Zbe m3_0)),(.mp (mpD Ze Ze m4_0)),(.mp (mpD Ze Ze m5_0)),(.mp (mpD Zv Ze m6_0))]=some ((Zi1 t0 t1 t2 t3 b c m1_0 m2_0 m3_0 m4_0 m5_0 m6_0) r):=by
 show ZN _ (fun r rhs=>rhs=some ((Zi1 t0 t1 t2 t3 b c m1_0 m2_0 m3_0 m4_0 m5_0 m6_0) r)) _
 unfold Ze6
 rw[ZeK ctx 25 ZEM _ _ rfl rfl]
 conv=>rhs;whnf
 refine Zm (ZK _ _) ?_;conv=>rhs;whnf
 refine Zg (ZfL (f:=Ze) (g:=Ze) (fun ka kb:Int=>(ka==kb)) (fun _ _=>rfl) m4_0 c (m3_0.length:Int)) ?_;conv=>rhs;whnf
 refine Zq _ Zqe rfl fun x0 hx0=>?_;conv=>rhs;whnf
 refine Zm (ZK _ _) ?_;conv=>rhs;whnf
 refine Zc _ (Zke _) fun r85 hr85=>?_
 clear hr85
 rcases r85 with r85 | (r85 | r85)
 ·conv=>rhs;whnf
  exact Zh rfl
 ·conv=>rhs;whnf
  exact Zh rfl
 ·conv=>rhs;whnf
  exact Zh rfl
def Zm4 (r:Bool):D:=(D.bool r)
theorem ZqF {a:Int}:∀r,(Zep a)=some r→evD ctx 49 [(.d (Ze a))]=some (Zm4 r):=by
 show ZN _ (fun r rhs=>rhs=some (Zm4 r)) _
 unfold Zep
 rw[Zbj ctx 49 ZE8 _ rfl rfl]
 conv=>rhs;whnf
 refine Zf rfl ?_ ?_<;>conv=>rhs;whnf
 ·exact Zh rfl
 ·refine Zf rfl ?_ ?_<;>conv=>rhs;whnf
  ·exact Zh rfl
  ·exact Zh rfl
def ZdH (r:Int):D:=(Ze r)
def Zdf (t0:Bool) (a:List Int):(Int⊕Unit)→Ex×List V×Zs
  | (.inl r)=>(.ret,[(.d (Ze r))],[])
  | (.inr r)=>(.exit 0,[.bad],[])
theorem Zge {t0:Bool}{a:List Int}:∀(s0:Int) (r:(Int⊕Unit)),lp (Zbc a (fun z0=>Zep z0)) s0=some r→lpW ctx 0 [0,1,7,8] [4] Zxc [(.d (D.list t0 (List.map Ze a))),(.d (D.fn 49 [])),(.d (Ze (a.length:Int))),(.d (Ze s0))] []=some ((Zdf t0 a) r):=by
 refine Zah (Zdf t0 a) ?_
 intro s0 rcl ih
 show ZN _ _ (lpW _ _ _ _ _ _ _)
 unfold Zbc
 rw[Zai]
 conv=>rhs;whnf
 refine Zf rfl ?_ ?_<;>conv=>rhs;whnf
 ·refine Zk rfl rfl fun x1 hx1=>?_;conv=>rhs;whnf
  refine Zq _ ZqF rfl fun x2 hx2=>?_;conv=>rhs;whnf
  refine Zf rfl ?_ ?_<;>conv=>rhs;whnf
  ·exact Zh rfl
  ·exact Zd (ih _)
 ·exact Zh rfl
theorem ZgS {t0:Bool}{a:List Int}:∀r,(ZbL a (fun z0=>Zep z0))=some r→evD ctx 73 [(.d (D.list t0 (List.map Ze a))),(.d (D.fn 49 []))]=some (ZdH r):=by
 show ZN _ (fun r rhs=>rhs=some (ZdH r)) _
 unfold ZbL
 rw[Zbj ctx 73 ZB6 _ rfl rfl]
 conv=>rhs;whnf
 refine Zm (ZK _ _) ?_;conv=>rhs;whnf
 refine Zc _ (Zge _) fun r3 hr3=>?_
 clear hr3
 rcases r3 with r3 | r3
 ·conv=>rhs;whnf
  exact Zh rfl
 ·conv=>rhs;whnf
  exact Zh rfl
def Zdj (r:Bool):D:=(D.bool r)
theorem Zgf {t0:Bool}{a:List Int}:∀r,(ZaP a (fun z0=>Zep z0))=some r→evD ctx 47 [(.d (D.list t0 (List.map Ze a))),(.d (D.fn 49 []))]=some (Zdj r):=by
 show ZN _ (fun r rhs=>rhs=some (Zdj r)) _
 unfold ZaP
 rw[Zbj ctx 47 ZB2 _ rfl rfl]
 conv=>rhs;whnf
 refine Zq _ ZgS rfl fun x0 hx0=>?_;conv=>rhs;whnf
 refine Zf rfl ?_ ?_<;>conv=>rhs;whnf
 ·exact Zh rfl
 ·exact Zh rfl
def Zm9 (r:Bool):D:=(D.bool r)
theorem ZlS {t0 t1:Bool}{a:Int}{b0:List Int}{b1:List Zo}:∀r,(Zhh a b0)=some r→evD ctx 50 [(.d (Ze a)),(.d (D.rptr [(D.list t0 (List.map Ze b0)),(D.list t1 (List.map ZA b1))]))]=some (Zm9 r):=by
 show ZN _ (fun r rhs=>rhs=some (Zm9 r)) _
 unfold Zhh
 rw[Zbj ctx 50 ZFa _ rfl rfl]
 conv=>rhs;whnf
 refine Zf rfl ?_ ?_<;>conv=>rhs;whnf
 ·refine Zm (ZK _ _) ?_;conv=>rhs;whnf
  refine Zf rfl ?_ ?_<;>conv=>rhs;whnf
  ·exact Zh rfl
  ·exact Zh rfl
 ·exact Zh rfl
def ZoL (r:((List Int)×Bool)):D:=(D.tup [(D.list true (List.map Ze r.1)),(D.bool r.2)])
def Zmc (t0:Bool) (t1:Bool) (a:Zar) (s0:(List Int)×(List Bool)) (s1:Int):(Unit⊕Unit)→Ex×List V×Zs
  | (.inl r)=>(.exit 3,[(.ptr 0 0),(.sl 1 1),(.sl 2 1),(.d (Ze s1)),(.d (Ze (a.work.length:Int))),(.d (Ze s1))],[(.cells [(.d (D.list t0 (List.map Ze a.work))),(.d (D.list t1 (List.map ZA a.edges)))]),(.arr 1 (List.map Ze s0.1)),(.arr 1 (List.map D.bool s0.2))])
  | (.inr r)=>(.exit 4,[(.ptr 0 0),(.sl 1 1),(.sl 2 1),(.d (Ze s1)),(.d (Ze (a.work.length:Int))),(.d (Ze s1))],[(.cells [(.d (D.list t0 (List.map Ze a.work))),(.d (D.list t1 (List.map ZA a.edges)))]),(.arr 1 (List.map Ze s0.1)),(.arr 1 (List.map D.bool s0.2))])
theorem Zp3 {t0 t1:Bool}{a:Zar}{s0:(List Int)×(List Bool)}{s1:Int}:∀(s3:Int) (r:(Unit⊕Unit)),lp (ZgR a s0 s1) s3=some r→lpW ctx 0 [1,4,5,6,21,22,30,31,32] [1,4,5,6,21,22] ZBI [(.ptr 0 0),(.sl 1 1),(.sl 2 1),(.d (Ze s1)),(.d (Ze (a.work.length:Int))),(.d (Ze s1)),(.d (D.list t1 (List.map ZA a.edges))),(.d (Ze (a.edges.length:Int))),(.d (Ze s3))] [(.cells [(.d (D.list t0 (List.map Ze a.work))),(.d (D.list t1 (List.map ZA a.edges)))]),(.arr 1 (List.map Ze s0.1)),(.arr 1 (List.map D.bool s0.2))]=some ((Zmc t0 t1 a s0 s1) r):=by
 refine Zah (Zmc t0 t1 a s0 s1) ?_
 intro s3 rcl ih
 show ZN _ _ (lpW _ _ _ _ _ _ _)
 unfold ZgR
 rw[Zai]
 conv=>rhs;whnf
 refine Zf rfl ?_ ?_<;>conv=>rhs;whnf
 ·refine Zk rfl rfl fun x4 hx4=>?_;conv=>rhs;whnf
  refine Zf rfl ?_ ?_<;>conv=>rhs;whnf
  ·refine Zk rfl rfl fun x5 hx5=>?_;conv=>rhs;whnf
   refine Zg (Zn rfl hx5) ?_;conv=>rhs;whnf
   refine Zf rfl ?_ ?_<;>conv=>rhs;whnf
   ·exact Zd (ih _)
   ·exact Zh rfl
  ·exact Zd (ih _)
 ·exact Zh rfl
def Zl5 (t0:Bool) (t1:Bool) (a:Zar) (s0:(List Int)×(List Bool)):(((List Int)×(List Bool))⊕Unit)→Ex×List V×Zs
  | (.inl r)=>(.exit 1,[(.ptr 0 0),(.sl 1 1),(.sl 2 1)],[(.cells [(.d (D.list t0 (List.map Ze a.work))),(.d (D.list t1 (List.map ZA a.edges)))]),(.arr 1 (List.map Ze r.1)),(.arr 1 (List.map D.bool r.2))])
  | (.inr r)=>(.exit 2,[(.ptr 0 0),(.sl 1 1),(.sl 2 1)],[(.cells [(.d (D.list t0 (List.map Ze a.work))),(.d (D.list t1 (List.map ZA a.edges)))]),(.arr 1 (List.map Ze s0.1)),(.arr 1 (List.map D.bool s0.2))])
theorem Zqc {t0 t1:Bool}{a:Zar}{s0:(List Int)×(List Bool)}:∀(s1:Int) (r:(((List Int)×(List Bool))⊕Unit)),lp (ZfD a s0) s1=some r→lpW ctx 0 [1,4,5,21,22] [1,4,5] ZAi [(.ptr 0 0),(.sl 1 1),(.sl 2 1),(.d (Ze (a.work.length:Int))),(.d (Ze s1))] [(.cells [(.d (D.list t0 (List.map Ze a.work))),(.d (D.list t1 (List.map ZA a.edges)))]),(.arr 1 (List.map Ze s0.1)),(.arr 1 (List.map D.bool s0.2))]=some ((Zl5 t0 t1 a s0) r):=by
 refine Zah (Zl5 t0 t1 a s0) ?_
 intro s1 rcl ih
 show ZN _ _ (lpW _ _ _ _ _ _ _)
 unfold ZfD
 rw[Zai]
 conv=>rhs;whnf
 refine Zf rfl ?_ ?_<;>conv=>rhs;whnf
 ·refine Zk rfl rfl fun x2 hx2=>?_;conv=>rhs;whnf
  refine Zg (Zn rfl hx2) ?_;conv=>rhs;whnf
  refine Zf rfl ?_ ?_<;>conv=>rhs;whnf
  ·exact Zd (ih _)
  ·refine Zm (ZK _ _) ?_;conv=>rhs;whnf
   refine Zc _ (Zp3 _) fun r6 hr6=>?_
   clear hr6
   rcases r6 with r6 | r6
   ·conv=>rhs;whnf
    exact Zd (ih _)
   ·conv=>rhs;whnf
    refine Zg (Zam rfl hx2) ?_;conv=>rhs;whnf
    refine Zg (Zn rfl hx2) ?_;conv=>rhs;whnf
    refine Zm (ZZ D.bool s0.2 s1.toNat true) ?_;conv=>rhs;whnf
    refine Zbl rfl ?_;conv=>rhs;whnf
    refine Zf (Zfd Ze s0.1 1) ?_ ?_
    ·conv=>rhs;whnf
     refine Zm (Zfc Ze s0.1 [s1]) ?_;conv=>rhs;whnf
     exact Zh rfl
    ·exact ZaH
 ·exact Zh rfl
def ZlO (t0:Bool) (t1:Bool) (a:Zar):((List Int)⊕(List Int))→Ex×List V×Zs
  | (.inl r)=>(.ret,[(.nilsl 1),(.d (D.bool false)),(.sl 0 1)],[(.arr 1 (List.map Ze r))])
  | (.inr r)=>(.exit 0,[.bad,.bad,(.sl 0 1)],[(.arr 1 (List.map Ze r))])
theorem Zqq {t0 t1:Bool}{a:Zar}:∀(s0:(List Int)×(List Bool)) (r:((List Int)⊕(List Int))),lp (ZgU a) s0=some r→lpW ctx 0 [1,4,5] [2,3,4] ZzC [(.ptr 0 0),(.sl 1 1),(.sl 2 1)] [(.cells [(.d (D.list t0 (List.map Ze a.work))),(.d (D.list t1 (List.map ZA a.edges)))]),(.arr 1 (List.map Ze s0.1)),(.arr 1 (List.map D.bool s0.2))]=some ((ZlO t0 t1 a) r):=by
 refine Zah (ZlO t0 t1 a) ?_
 intro s0 rcl ih
 show ZN _ _ (lpW _ _ _ _ _ _ _)
 unfold ZgU
 rw[Zai]
 conv=>rhs;whnf
 refine Zm (ZK _ _) ?_;conv=>rhs;whnf
 refine Zm (ZK _ _) ?_;conv=>rhs;whnf
 refine Zf rfl ?_ ?_<;>conv=>rhs;whnf
 ·refine Zm (ZK _ _) ?_;conv=>rhs;whnf
  refine Zc _ (Zqc _) fun r7 hr7=>?_
  clear hr7
  rcases r7 with r7 | r7
  ·conv=>rhs;whnf
   exact Zd (ih _)
  ·conv=>rhs;whnf
   exact Zh rfl
 ·exact Zh rfl
theorem ZnA {t0 t1:Bool}{a:Zar}:∀r,(ZgW a)=some r→evD ctx 51 [(.d (D.agg [(D.list t0 (List.map Ze a.work)),(D.list t1 (List.map ZA a.edges))]))]=some (ZoL r):=by
 show ZN _ (fun r rhs=>rhs=some (ZoL r)) _
 unfold ZgW
 rw[Zbj ctx 51 ZEj _ rfl rfl]
 conv=>rhs;whnf
 refine Zm (ZK _ _) ?_;conv=>rhs;whnf
 refine Zf rfl ?_ ?_
 ·conv=>rhs;whnf
  refine Zm (ZuQ D.bool (false:Bool) (a.work.length:Int)) ?_;conv=>rhs;whnf
  refine Zc _ (Zqq _) fun r8 hr8=>?_
  clear hr8
  rcases r8 with r8 | r8
  ·conv=>rhs;whnf
   exact Zh rfl
  ·conv=>rhs;whnf
   exact Zh rfl
 ·exact ZaH
def ZoS (r:Int):D:=(Ze r)
def ZlT (t0:Bool) (t1:Bool) (a:Zar):(Unit⊕Unit)→Ex×List V×Zs
  | (.inl r)=>(.ret,[(.ptr 0 0),(.d (Ze 42))],[(.cells [(.d (D.list t0 (List.map Ze a.work))),(.d (D.list t1 (List.map ZA a.edges)))])])
  | (.inr r)=>(.exit 0,[(.ptr 0 0),.bad],[(.cells [(.d (D.list t0 (List.map Ze a.work))),(.d (D.list t1 (List.map ZA a.edges)))])])
theorem Zqr {t0 t1:Bool}{a:Zar}:∀(s1:Int) (r:(Unit⊕Unit)),lp (ZfV a) s1=some r→lpW ctx 0 [1,3,23,24,25] [1,2] Zy2 [(.ptr 0 0),(.fn 50 [(.ptr 0 0)]),(.d (D.list t1 (List.map ZA a.edges))),(.d (Ze (a.edges.length:Int))),(.d (Ze s1))] [(.cells [(.d (D.list t0 (List.map Ze a.work))),(.d (D.list t1 (List.map ZA a.edges)))])]=some ((ZlT t0 t1 a) r):=by
 refine Zah (ZlT t0 t1 a) ?_
 intro s1 rcl ih
 show ZN _ _ (lpW _ _ _ _ _ _ _)
 unfold ZfV
 rw[Zai]
 conv=>rhs;whnf
 refine Zf rfl ?_ ?_<;>conv=>rhs;whnf
 ·refine Zk rfl rfl fun x2 hx2=>?_;conv=>rhs;whnf
  refine Zq _ ZlS rfl fun x3 hx3=>?_;conv=>rhs;whnf
  refine Zf rfl ?_ ?_<;>conv=>rhs;whnf
  ·refine Zq _ ZlS rfl fun x4 hx4=>?_;conv=>rhs;whnf
   refine Zf rfl ?_ ?_<;>conv=>rhs;whnf
   ·refine Zf rfl ?_ ?_<;>conv=>rhs;whnf
    ·exact Zh rfl
    ·refine Zf rfl ?_ ?_
     ·conv=>rhs;whnf
      refine Zf (ZAn ZA a.edges s1.toNat) ?_ ?_
      ·conv=>rhs;whnf
       refine Zbl rfl ?_;conv=>rhs;whnf
       refine Zm (Zu3 ZA a.edges s1.toNat) ?_;conv=>rhs;whnf
       refine Zq _ Zgh rfl fun x5 hx5=>?_;conv=>rhs;whnf
       refine Zf rfl ?_ ?_<;>conv=>rhs;whnf
       ·exact Zh rfl
       ·exact Zd (ih _)
      ·exact ZaH
     ·exact ZaH
   ·exact Zh rfl
  ·exact Zh rfl
 ·exact Zh rfl
theorem ZkT {t0 t1:Bool}{a:Zar}:∀r,(ZhI a)=some r→evD ctx 28 [(.d (D.agg [(D.list t0 (List.map Ze a.work)),(D.list t1 (List.map ZA a.edges))]))]=some (ZoS r):=by
 show ZN _ (fun r rhs=>rhs=some (ZoS r)) _
 unfold ZhI
 rw[Zbj ctx 28 ZD0 _ rfl rfl]
 conv=>rhs;whnf
 refine Zm (ZK _ _) ?_;conv=>rhs;whnf
 refine Zf rfl ?_ ?_<;>conv=>rhs;whnf
 ·exact Zh rfl
 ·refine Zm (ZK _ _) ?_;conv=>rhs;whnf
  refine Zf rfl ?_ ?_<;>conv=>rhs;whnf
  ·exact Zh rfl
  ·refine Zq _ Zgf rfl fun x0 hx0=>?_;conv=>rhs;whnf
   refine Zf rfl ?_ ?_<;>conv=>rhs;whnf
   ·exact Zh rfl
   ·refine Zm (ZK _ _) ?_;conv=>rhs;whnf
    refine Zc _ (Zqr _) fun r6 hr6=>?_
    clear hr6
    rcases r6 with r6 | r6
    ·conv=>rhs;whnf
     exact Zh rfl
    ·conv=>rhs;whnf
     refine Zq _ ZnA rfl fun x7 hx7=>?_;conv=>rhs;whnf
     refine Zf rfl ?_ ?_<;>conv=>rhs;whnf
     ·exact Zh rfl
     ·exact Zh rfl
def ZmU (r:(Znj×Int)):D:=(D.tup [(D.agg [(D.list true (List.map Ze r.1.dag.work)),(D.list true (List.map ZA r.1.dag.edges)),(D.list true (List.map Zbe r.1.pieces))]),(Ze r.2)])
def ZkB (t0:Bool) (t1:Bool) (t2:Bool) (t3:Bool) (a:Zp):((List Int)×(List Zo)×(List Zj)×(List (Int×Int))×(List (Int×Int))×(List (Zl×Int)))→Ex×List V×Zs
  | r=>(.exit 0,[(.ptr 0 0),(.ptr 1 0),(.ptr 2 0)],[(.cells (dV t0 t1 t2 t3 a)),(.cells [(.sl 3 1),(.sl 4 2),(.sl 5 2)]),(.cells [(.sl 6 1),(.sl 7 2),(.sl 8 2),(.mp 9),(.mp 10),(.mp 11)]),(.arr 1 []),(.arr 2 []),(.arr 2 []),(.arr 1 (List.map Ze r.1)),(.arr 2 (List.map ZA r.2.1)),(.arr 2 (List.map Zbe r.2.2.1)),(.mp (mpD Ze Ze r.2.2.2.1)),(.mp (mpD Ze Ze r.2.2.2.2.1)),(.mp (mpD Zv Ze r.2.2.2.2.2))])
theorem Zou {t0 t1:Bool}{t2 t3:Bool}{a:Zp}:∀(s1:Int×(List Int)×(List Zo)×(List Zj)×(List (Int×Int))×(List (Int×Int))×(List (Zl×Int))) (r:((List Int)×(List Zo)×(List Zj)×(List (Int×Int))×(List (Int×Int))×(List (Zl×Int)))),lp (Zdz a) s1=some r→lpW ctx 0 [1,2,5,31,32] [1,2,5] ZAz [(.ptr 0 0),(.ptr 1 0),(.ptr 2 0),(.d (Ze (a.parts.length:Int))),(.d (Ze s1.1))] [(.cells (dV t0 t1 t2 t3 a)),(.cells [(.sl 3 1),(.sl 4 2),(.sl 5 2)]),(.cells [(.sl 6 1),(.sl 7 2),(.sl 8 2),(.mp 9),(.mp 10),(.mp 11)]),(.arr 1 []),(.arr 2 []),(.arr 2 []),(.arr 1 (List.map Ze s1.2.1)),(.arr 2 (List.map ZA s1.2.2.1)),(.arr 2 (List.map Zbe s1.2.2.2.1)),(.mp (mpD Ze Ze s1.2.2.2.2.1)),(.mp (mpD Ze Ze s1.2.2.2.2.2.1)),(.mp (mpD Zv Ze s1.2.2.2.2.2.2))]=some ((ZkB t0 t1 t2 t3 a) r):=by
 refine Zah (ZkB t0 t1 t2 t3 a) ?_
 intro s1 rcl ih
 show ZN _ _ (lpW _ _ _ _ _ _ _)
 unfold Zdz
 rw[Zai]
 conv=>rhs;whnf
 refine Zf rfl ?_ ?_<;>conv=>rhs;whnf
 ·refine Zc _ ZmJ fun x2 hx2=>?_
  clear hx2
  rcases x2 with x2 | (x2 | x2)
  ·conv=>rhs;whnf
   exact Zd (ih _)
  ·conv=>rhs;whnf
   exact Zd (ih _)
  ·conv=>rhs;whnf
   exact Zd (ih _)
 ·exact Zh rfl
def Zkz (t0:Bool) (t1:Bool) (t2:Bool) (t3:Bool) (a:Zp) (r3:((List Int)×(List Zo)×(List Zj)×(List (Int×Int))×(List (Int×Int))×(List (Zl×Int)))):(List Zo)→Ex×List V×Zs
  | r=>(.exit 2,[(.ptr 0 0),(.ptr 1 0),(.ptr 2 0)],[(.cells (dV t0 t1 t2 t3 a)),(.cells [(.sl 3 1),(.sl 4 2),(.sl 5 2)]),(.cells [(.sl 6 1),(.sl 7 2),(.sl 8 2),(.mp 9),(.mp 10),(.mp 11)]),(.arr 1 []),(.arr 2 []),(.arr 2 []),(.arr 1 (List.map Ze r3.1)),(.arr 2 (List.map ZA r)),(.arr 2 (List.map Zbe r3.2.2.1)),(.mp (mpD Ze Ze r3.2.2.2.1)),(.mp (mpD Ze Ze r3.2.2.2.2.1)),(.mp (mpD Zv Ze r3.2.2.2.2.2))])
theorem Zos {t0 t1:Bool}{t2 t3:Bool}{a:Zp}{r3:((List Int)×(List Zo)×(List Zj)×(List (Int×Int))×(List (Int×Int))×(List (Zl×Int)))}:∀(s4:Int×(List Zo)) (r:List Zo),lp (Zd3 a r3) s4=some r→lpW ctx 0 [1,2,5,41,42,43] [1,2,5] ZBj [(.ptr 0 0),(.ptr 1 0),(.ptr 2 0),(.d (D.list t1 (List.map ZA a.edges))),(.d (Ze (a.edges.length:Int))),(.d (Ze s4.1))] [(.cells (dV t0 t1 t2 t3 a)),(.cells [(.sl 3 1),(.sl 4 2),(.sl 5 2)]),(.cells [(.sl 6 1),(.sl 7 2),(.sl 8 2),(.mp 9),(.mp 10),(.mp 11)]),(.arr 1 []),(.arr 2 []),(.arr 2 []),(.arr 1 (List.map Ze r3.1)),(.arr 2 (List.map ZA s4.2)),(.arr 2 (List.map Zbe r3.2.2.1)),(.mp (mpD Ze Ze r3.2.2.2.1)),(.mp (mpD Ze Ze r3.2.2.2.2.1)),(.mp (mpD Zv Ze r3.2.2.2.2.2))]=some ((Zkz t0 t1 t2 t3 a r3) r):=by
 refine Zah (Zkz t0 t1 t2 t3 a r3) ?_
 intro s4 rcl ih
 show ZN _ _ (lpW _ _ _ _ _ _ _)
 unfold Zd3
 rw[Zai]
 conv=>rhs;whnf
 refine Zf rfl ?_ ?_<;>conv=>rhs;whnf
 ·refine Zk rfl rfl fun x5 hx5=>?_;conv=>rhs;whnf
  refine Zg (ZcB (f:=Ze) (g:=Ze) (fun ka kb:Int=>(ka==kb)) (fun _ _=>rfl) r3.2.2.2.2.1 x5.src 0) ?_;conv=>rhs;whnf
  refine Zg (ZcB (f:=Ze) (g:=Ze) (fun ka kb:Int=>(ka==kb)) (fun _ _=>rfl) r3.2.2.2.1 x5.dst 0) ?_;conv=>rhs;whnf
  refine Zc _ Zbk fun x6 hx6=>?_;conv=>rhs;whnf
  exact Zd (ih _)
 ·exact Zh rfl
def ZkX (t0:Bool) (t1:Bool) (t2:Bool) (t3:Bool) (a:Zp) (r3:((List Int)×(List Zo)×(List Zj)×(List (Int×Int))×(List (Int×Int))×(List (Zl×Int)))):(List Zo)→Ex×List V×Zs
  | r=>(.exit 4,[(.ptr 0 0),(.ptr 1 0),(.ptr 2 0)],[(.cells (dV t0 t1 t2 t3 a)),(.cells [(.sl 3 1),(.sl 4 2),(.sl 5 2)]),(.cells [(.sl 6 1),(.sl 7 2),(.sl 8 2),(.mp 9),(.mp 10),(.mp 11)]),(.arr 1 []),(.arr 2 []),(.arr 2 []),(.arr 1 (List.map Ze r3.1)),(.arr 2 (List.map ZA r)),(.arr 2 (List.map Zbe r3.2.2.1)),(.mp (mpD Ze Ze r3.2.2.2.1)),(.mp (mpD Ze Ze r3.2.2.2.2.1)),(.mp (mpD Zv Ze r3.2.2.2.2.2))])
theorem Zom {t0 t1:Bool}{t2 t3:Bool}{a:Zp}{r3:((List Int)×(List Zo)×(List Zj)×(List (Int×Int))×(List (Int×Int))×(List (Zl×Int)))}:∀(s8:Int×(List Zo)) (r:List Zo),lp (Zef a r3) s8=some r→lpW ctx 0 [1,2,5,65,66,67] [1,2,5] Zzv [(.ptr 0 0),(.ptr 1 0),(.ptr 2 0),(.d (D.list t2 (List.map Zv a.futures))),(.d (Ze (a.futures.length:Int))),(.d (Ze s8.1))] [(.cells (dV t0 t1 t2 t3 a)),(.cells [(.sl 3 1),(.sl 4 2),(.sl 5 2)]),(.cells [(.sl 6 1),(.sl 7 2),(.sl 8 2),(.mp 9),(.mp 10),(.mp 11)]),(.arr 1 []),(.arr 2 []),(.arr 2 []),(.arr 1 (List.map Ze r3.1)),(.arr 2 (List.map ZA s8.2)),(.arr 2 (List.map Zbe r3.2.2.1)),(.mp (mpD Ze Ze r3.2.2.2.1)),(.mp (mpD Ze Ze r3.2.2.2.2.1)),(.mp (mpD Zv Ze r3.2.2.2.2.2))]=some ((ZkX t0 t1 t2 t3 a r3) r):=by
 refine Zah (ZkX t0 t1 t2 t3 a r3) ?_
 intro s8 rcl ih
 show ZN _ _ (lpW _ _ _ _ _ _ _)
 unfold Zef
 rw[Zai]
 conv=>rhs;whnf
 refine Zf rfl ?_ ?_<;>conv=>rhs;whnf
 ·refine Zk rfl rfl fun x9 hx9=>?_;conv=>rhs;whnf
  refine Zg (ZcB (f:=Ze) (g:=Ze) (fun ka kb:Int=>(ka==kb)) (fun _ _=>rfl) r3.2.2.2.2.1 x9.maker 0) ?_;conv=>rhs;whnf
  refine Zg (ZcB (f:=Zv) (g:=Ze) (fun ka kb:Zl=>((ka.maker==kb.maker)&&((ka.user==kb.user)&&((ka.pos==kb.pos)&&true)))) (fun _ _=>rfl) r3.2.2.2.2.2 x9 0) ?_;conv=>rhs;whnf
  refine Zc _ Zbk fun x10 hx10=>?_;conv=>rhs;whnf
  exact Zd (ih _)
 ·exact Zh rfl
def Zk0 (t3:Bool) (a:Zp) (r3:((List Int)×(List Zo)×(List Zj)×(List (Int×Int))×(List (Int×Int))×(List (Zl×Int)))) (s12:Int×(List Int)×(List Zo)×(List Zj)) (x13:Zw):(List Zo)→Ex×List V×Zs
  | r=>(.exit 8,[(.ptr 0 0),(.ptr 1 0),(.ptr 2 0),(.d (Ze (w64 ((List.length (s12.2.2.2++[(Zj.mk (-1) s12.1)]):Int)-1)))),(.d (D.list t3 (List.map ZD a.barriers))),(.d (Ze (a.barriers.length:Int))),(.d (Ze s12.1))],[(.cells [(.sl 3 1),(.sl 4 2),(.sl 5 2)]),(.cells [(.sl 6 1),(.sl 7 2),(.sl 8 2),(.mp 9),(.mp 10),(.mp 11)]),(.cells [(.d (D.list true (List.map Ze x13.ins))),(.d (D.list true (List.map Ze x13.outs)))]),(.arr 1 []),(.arr 2 []),(.arr 2 []),(.arr 1 (List.map Ze (s12.2.1++[1]))),(.arr 2 (List.map ZA r)),(.arr 2 (List.map Zbe (s12.2.2.2++[(Zj.mk (-1) s12.1)]))),(.mp (mpD Ze Ze r3.2.2.2.1)),(.mp (mpD Ze Ze r3.2.2.2.2.1)),(.mp (mpD Zv Ze r3.2.2.2.2.2))])
theorem Zon {t3:Bool}{a:Zp}{r3:((List Int)×(List Zo)×(List Zj)×(List (Int×Int))×(List (Int×Int))×(List (Zl×Int)))}{s12:Int×(List Int)×(List Zo)×(List Zj)}{x13:Zw}:∀(s15:Int×(List Zo)) (r:List Zo),lp (Zfn r3 s12 x13) s15=some r→lpW ctx 0 [2,5,12,13,88,89,90,100,101,102] [2,5,12,13,88,89,90] ZBL [(.ptr 0 0),(.ptr 1 0),(.ptr 2 0),(.d (Ze (w64 ((List.length (s12.2.2.2++[(Zj.mk (-1) s12.1)]):Int)-1)))),(.d (D.list t3 (List.map ZD a.barriers))),(.d (Ze (a.barriers.length:Int))),(.d (Ze s12.1)),(.d (D.list true (List.map Ze x13.ins))),(.d (Ze (x13.ins.length:Int))),(.d (Ze s15.1))] [(.cells [(.sl 3 1),(.sl 4 2),(.sl 5 2)]),(.cells [(.sl 6 1),(.sl 7 2),(.sl 8 2),(.mp 9),(.mp 10),(.mp 11)]),(.cells [(.d (D.list true (List.map Ze x13.ins))),(.d (D.list true (List.map Ze x13.outs)))]),(.arr 1 []),(.arr 2 []),(.arr 2 []),(.arr 1 (List.map Ze (s12.2.1++[1]))),(.arr 2 (List.map ZA s15.2)),(.arr 2 (List.map Zbe (s12.2.2.2++[(Zj.mk (-1) s12.1)]))),(.mp (mpD Ze Ze r3.2.2.2.1)),(.mp (mpD Ze Ze r3.2.2.2.2.1)),(.mp (mpD Zv Ze r3.2.2.2.2.2))]=some ((Zk0 t3 a r3 s12 x13) r):=by
 refine Zah (Zk0 t3 a r3 s12 x13) ?_
 intro s15 rcl ih
 show ZN _ _ (lpW _ _ _ _ _ _ _)
 unfold Zfn
 rw[Zai]
 conv=>rhs;whnf
 refine Zf rfl ?_ ?_<;>conv=>rhs;whnf
 ·refine Zk rfl rfl fun x16 hx16=>?_;conv=>rhs;whnf
  refine Zg (ZcB (f:=Ze) (g:=Ze) (fun ka kb:Int=>(ka==kb)) (fun _ _=>rfl) r3.2.2.2.2.1 x16 0) ?_;conv=>rhs;whnf
  refine Zc _ Zbk fun x17 hx17=>?_;conv=>rhs;whnf
  exact Zd (ih _)
 ·exact Zh rfl
def ZkO (t3:Bool) (a:Zp) (r3:((List Int)×(List Zo)×(List Zj)×(List (Int×Int))×(List (Int×Int))×(List (Zl×Int)))) (s12:Int×(List Int)×(List Zo)×(List Zj)) (x13:Zw):(List Zo)→Ex×List V×Zs
  | r=>(.exit 10,[(.ptr 0 0),(.ptr 1 0),(.d (D.list t3 (List.map ZD a.barriers))),(.d (Ze (a.barriers.length:Int))),(.d (Ze s12.1))],[(.cells [(.sl 2 1),(.sl 3 2),(.sl 4 2)]),(.cells [(.sl 5 1),(.sl 6 2),(.sl 7 2),(.mp 8),(.mp 9),(.mp 10)]),(.arr 1 []),(.arr 2 []),(.arr 2 []),(.arr 1 (List.map Ze (s12.2.1++[1]))),(.arr 2 (List.map ZA r)),(.arr 2 (List.map Zbe (s12.2.2.2++[(Zj.mk (-1) s12.1)]))),(.mp (mpD Ze Ze r3.2.2.2.1)),(.mp (mpD Ze Ze r3.2.2.2.2.1)),(.mp (mpD Zv Ze r3.2.2.2.2.2))])
theorem Zoz {t3:Bool}{a:Zp}{r3:((List Int)×(List Zo)×(List Zj)×(List (Int×Int))×(List (Int×Int))×(List (Zl×Int)))}{s12:Int×(List Int)×(List Zo)×(List Zj)}{x13:Zw}:∀(s19:Int×(List Zo)) (r:List Zo),lp (Zfp r3 s12 x13) s19=some r→lpW ctx 0 [2,5,13,88,89,90,117,118,119] [2,5,88,89,90] Zzk [(.ptr 0 0),(.ptr 1 0),(.d (Ze (w64 ((List.length (s12.2.2.2++[(Zj.mk (-1) s12.1)]):Int)-1)))),(.d (D.list t3 (List.map ZD a.barriers))),(.d (Ze (a.barriers.length:Int))),(.d (Ze s12.1)),(.d (D.list true (List.map Ze x13.outs))),(.d (Ze (x13.outs.length:Int))),(.d (Ze s19.1))] [(.cells [(.sl 2 1),(.sl 3 2),(.sl 4 2)]),(.cells [(.sl 5 1),(.sl 6 2),(.sl 7 2),(.mp 8),(.mp 9),(.mp 10)]),(.arr 1 []),(.arr 2 []),(.arr 2 []),(.arr 1 (List.map Ze (s12.2.1++[1]))),(.arr 2 (List.map ZA s19.2)),(.arr 2 (List.map Zbe (s12.2.2.2++[(Zj.mk (-1) s12.1)]))),(.mp (mpD Ze Ze r3.2.2.2.1)),(.mp (mpD Ze Ze r3.2.2.2.2.1)),(.mp (mpD Zv Ze r3.2.2.2.2.2))]=some ((ZkO t3 a r3 s12 x13) r):=by
 refine Zah (ZkO t3 a r3 s12 x13) ?_
 intro s19 rcl ih
 show ZN _ _ (lpW _ _ _ _ _ _ _)
 unfold Zfp
 rw[Zai]
 conv=>rhs;whnf
 refine Zf rfl ?_ ?_<;>conv=>rhs;whnf
 ·refine Zk rfl rfl fun x20 hx20=>?_;conv=>rhs;whnf
  refine Zg (ZcB (f:=Ze) (g:=Ze) (fun ka kb:Int=>(ka==kb)) (fun _ _=>rfl) r3.2.2.2.1 x20 0) ?_;conv=>rhs;whnf
  refine Zc _ Zbk fun x21 hx21=>?_;conv=>rhs;whnf
  exact Zd (ih _)
 ·exact Zh rfl
def ZkJ (t3:Bool) (a:Zp) (r3:((List Int)×(List Zo)×(List Zj)×(List (Int×Int))×(List (Int×Int))×(List (Zl×Int)))):((List Int)×(List Zo)×(List Zj))→Ex×List V×Zs
  | r=>(.exit 6,[(.ptr 0 0),(.ptr 1 0)],[(.cells [(.sl 2 1),(.sl 3 2),(.sl 4 2)]),(.cells [(.sl 5 1),(.sl 6 2),(.sl 7 2),(.mp 8),(.mp 9),(.mp 10)]),(.arr 1 []),(.arr 2 []),(.arr 2 []),(.arr 1 (List.map Ze r.1)),(.arr 2 (List.map ZA r.2.1)),(.arr 2 (List.map Zbe r.2.2)),(.mp (mpD Ze Ze r3.2.2.2.1)),(.mp (mpD Ze Ze r3.2.2.2.2.1)),(.mp (mpD Zv Ze r3.2.2.2.2.2))])
theorem ZoE {t3:Bool}{a:Zp}{r3:((List Int)×(List Zo)×(List Zj)×(List (Int×Int))×(List (Int×Int))×(List (Zl×Int)))}:∀(s12:Int×(List Int)×(List Zo)×(List Zj)) (r:((List Int)×(List Zo)×(List Zj))),lp (Zea a r3) s12=some r→lpW ctx 0 [2,5,88,89,90] [2,5] ZAe [(.ptr 0 0),(.ptr 1 0),(.d (D.list t3 (List.map ZD a.barriers))),(.d (Ze (a.barriers.length:Int))),(.d (Ze s12.1))] [(.cells [(.sl 2 1),(.sl 3 2),(.sl 4 2)]),(.cells [(.sl 5 1),(.sl 6 2),(.sl 7 2),(.mp 8),(.mp 9),(.mp 10)]),(.arr 1 []),(.arr 2 []),(.arr 2 []),(.arr 1 (List.map Ze s12.2.1)),(.arr 2 (List.map ZA s12.2.2.1)),(.arr 2 (List.map Zbe s12.2.2.2)),(.mp (mpD Ze Ze r3.2.2.2.1)),(.mp (mpD Ze Ze r3.2.2.2.2.1)),(.mp (mpD Zv Ze r3.2.2.2.2.2))]=some ((ZkJ t3 a r3) r):=by
 refine Zah (ZkJ t3 a r3) ?_
 intro s12 rcl ih
 show ZN _ _ (lpW _ _ _ _ _ _ _)
 unfold Zea
 rw[Zai]
 conv=>rhs;whnf
 refine Zf rfl ?_ ?_<;>conv=>rhs;whnf
 ·refine Zk rfl rfl fun x13 hx13=>?_;conv=>rhs;whnf
  refine Zc _ ZbA fun x14 hx14=>?_;conv=>rhs;whnf
  refine Zm (ZK _ _) ?_;conv=>rhs;whnf
  refine Zc _ (Zon _) fun r18 hr18=>?_;conv=>rhs;whnf
  refine Zm (ZK _ _) ?_;conv=>rhs;whnf
  refine Zc _ (Zoz _) fun r22 hr22=>?_;conv=>rhs;whnf
  exact Zd (ih _)
 ·exact Zh rfl
theorem ZqK {t0 t1:Bool}{t2 t3:Bool}{a:Zp}:∀r,(Zik a)=some r→evD ctx 13 [(.d (D.agg (dA t0 t1 t2 t3 a)))]=some (ZmU r):=by
 show ZN _ (fun r rhs=>rhs=some (ZmU r)) _
 unfold Zik
 rw[Zbj ctx 13 ZEI _ rfl rfl]
 conv=>rhs;whnf
 refine Zq _ ZmY rfl fun x0 hx0=>?_;conv=>rhs;whnf
 refine Zf rfl ?_ ?_<;>conv=>rhs;whnf
 ·exact Zh rfl
 ·refine Zm (ZK _ _) ?_;conv=>rhs;whnf
  refine Zc _ (Zou _) fun r3 hr3=>?_;conv=>rhs;whnf
  refine Zm (ZK _ _) ?_;conv=>rhs;whnf
  refine Zc _ (Zos _) fun r7 hr7=>?_;conv=>rhs;whnf
  refine Zm (ZK _ _) ?_;conv=>rhs;whnf
  refine Zc _ (Zom _) fun r11 hr11=>?_;conv=>rhs;whnf
  refine Zm (ZK _ _) ?_;conv=>rhs;whnf
  refine Zc _ (ZoE _) fun r23 hr23=>?_;conv=>rhs;whnf
  refine Zq _ ZkT rfl fun x24 hx24=>?_;conv=>rhs;whnf
  refine Zf rfl ?_ ?_<;>conv=>rhs;whnf
  ·exact Zh rfl
  ·exact Zh rfl
def ZoK (r:Int):D:=(Ze r)
def ZlX (t0:Bool) (a:Zar):Int→Ex×List V×Zs
  | r=>(.exit 0,[(.d (Ze r))],[])
theorem ZpQ {t0:Bool}{a:Zar}:∀(s1:Int×Int) (r:Int),lp (ZgI a) s1=some r→lpW ctx 0 [3,10,11,12] [3] ZAI [(.d (Ze s1.1)),(.d (D.list t0 (List.map Ze a.work))),(.d (Ze (a.work.length:Int))),(.d (Ze s1.2))] []=some ((ZlX t0 a) r):=by
 refine Zah (ZlX t0 a) ?_
 intro s1 rcl ih
 show ZN _ _ (lpW _ _ _ _ _ _ _)
 unfold ZgI
 rw[Zai]
 conv=>rhs;whnf
 refine Zf rfl ?_ ?_<;>conv=>rhs;whnf
 ·refine Zk rfl rfl fun x2 hx2=>?_;conv=>rhs;whnf
  exact Zd (ih _)
 ·exact Zh rfl
theorem Zs7 {t0 t1:Bool}{a:Zar}:∀r,(Zjw a)=some r→evD ctx 14 [(.d (D.agg [(D.list t0 (List.map Ze a.work)),(D.list t1 (List.map ZA a.edges))]))]=some (ZoK r):=by
 show ZN _ (fun r rhs=>rhs=some (ZoK r)) _
 unfold Zjw
 rw[Zbj ctx 14 ZE7 _ rfl rfl]
 conv=>rhs;whnf
 refine Zq _ ZkT rfl fun x0 hx0=>?_;conv=>rhs;whnf
 refine Zf rfl ?_ ?_<;>conv=>rhs;whnf
 ·refine Zm (ZK _ _) ?_;conv=>rhs;whnf
  refine Zc _ (ZpQ _) fun r3 hr3=>?_;conv=>rhs;whnf
  exact Zh rfl
 ·exact Zh rfl
def ZoT (r:List Int):D:=(D.list true (List.map Ze r))
theorem ZrY {t0 t1:Bool}{a:Zar}:∀r,(Zjz a)=some r→evD ctx 29 [(.d (D.agg [(D.list t0 (List.map Ze a.work)),(D.list t1 (List.map ZA a.edges))]))]=some (ZoT r):=by
 show ZN _ (fun r rhs=>rhs=some (ZoT r)) _
 unfold Zjz
 rw[Zbj ctx 29 ZD2 _ rfl rfl]
 conv=>rhs;whnf
 refine Zq _ ZkT rfl fun x0 hx0=>?_;conv=>rhs;whnf
 refine Zf rfl ?_ ?_<;>conv=>rhs;whnf
 ·exact Zh rfl
 ·refine Zq _ ZnA rfl fun x1 hx1=>?_;conv=>rhs;whnf
  refine Zf rfl ?_ ?_<;>conv=>rhs;whnf
  ·exact Zh rfl
  ·exact Zh rfl
def Zm3 (r:(Int×Bool)):D:=(D.tup [(Ze r.1),(D.bool r.2)])
theorem ZqD {a:Zo}{b0:Int}:∀r,(Zgm a b0)=some r→evD ctx 53 [(.d (D.agg [(Ze a.src),(Ze a.dst)])),(.d (D.rptr [(Ze b0)]))]=some (Zm3 r):=by
 show ZN _ (fun r rhs=>rhs=some (Zm3 r)) _
 unfold Zgm
 rw[Zbj ctx 53 ZE9 _ rfl rfl]
 conv=>rhs;whnf
 refine Zf rfl ?_ ?_<;>conv=>rhs;whnf
 ·exact Zh rfl
 ·exact Zh rfl
def Zlj (r:Bool):D:=(D.bool r)
theorem Zkw {a:Int}:∀r,(Zha a)=some r→evD ctx 113 [(.d (Ze a))]=some (Zlj r):=by
 show ZN _ (fun r rhs=>rhs=some (Zlj r)) _
 unfold Zha
 rw[Zbj ctx 113 ZBP _ rfl rfl]
 conv=>rhs;whnf
 refine Zf rfl ?_ ?_<;>conv=>rhs;whnf
 ·exact Zh rfl
 ·exact Zh rfl
def ZlU (r:Bool):D:=(D.bool r)
theorem Z5 {a b:Int}:∀r,(Zaa a b)=some r→evD ctx 102 [(.d (Ze a)),(.d (Ze b))]=some (ZlU r):=by
 show ZN _ (fun r rhs=>rhs=some (ZlU r)) _
 unfold Zaa
 rw[Zbj ctx 102 ZAb _ rfl rfl]
 conv=>rhs;whnf
 refine Zq _ Zkw rfl fun x0 hx0=>?_;conv=>rhs;whnf
 refine Zf rfl ?_ ?_<;>conv=>rhs;whnf
 ·refine Zq _ Zkw rfl fun x1 hx1=>?_;conv=>rhs;whnf
  refine Zf rfl ?_ ?_<;>conv=>rhs;whnf
  ·refine Zf rfl ?_ ?_<;>conv=>rhs;whnf
   ·exact Zh rfl
   ·exact Zh rfl
  ·exact Zh rfl
 ·refine Zf rfl ?_ ?_<;>conv=>rhs;whnf
  ·exact Zh rfl
  ·exact Zh rfl
def Zfh (b:Int) (c:Int) (m0_0:List Int):(List Int)→V×Zs
  | r=>((.d (D.tup [])),[(.arr 1 (List.map Ze r))])
def Zex (b:Int) (c:Int) (s0:Int×(List Int)):(List Int)→Ex×List V×Zs
  | r=>(.exit 2,[(.sl 0 1),(.d (Ze b)),(.d (Ze c)),(.d (Ze s0.1))],[(.arr 1 (List.map Ze r))])
theorem Zhx {b c:Int}{s0:Int×(List Int)}:∀(s1:Int×(List Int)) (r:List Int),lp (Zbw b) s1=some r→lpW ctx 1 [0,1,2,6,7] [0,1,2,6] Zzd [(.sl 0 1),(.d (Ze b)),(.d (Ze c)),(.d (Ze s0.1)),(.d (Ze s1.1))] [(.arr 1 (List.map Ze s1.2))]=some ((Zex b c s0) r):=by
 refine Zah (Zex b c s0) ?_
 intro s1 rcl ih
 show ZN _ _ (lpW _ _ _ _ _ _ _)
 unfold Zbw
 rw[Zai]
 conv=>rhs;whnf
 refine Zf rfl ?_ ?_<;>conv=>rhs;whnf
 ·refine Zk rfl rfl fun x2 hx2=>?_;conv=>rhs;whnf
  refine Zg (Zn rfl hx2) ?_;conv=>rhs;whnf
  refine Zk rfl rfl fun x3 hx3=>?_;conv=>rhs;whnf
  refine Zg (Zn rfl hx3) ?_;conv=>rhs;whnf
  refine Zq _ Z5 rfl fun x4 hx4=>?_;conv=>rhs;whnf
  refine Zf rfl ?_ ?_<;>conv=>rhs;whnf
  ·refine Zg (Zam rfl hx3) ?_;conv=>rhs;whnf
   refine Zg (Zn rfl hx3) ?_;conv=>rhs;whnf
   refine Zg (Zam rfl hx2) ?_;conv=>rhs;whnf
   refine Zg (Zn rfl hx2) ?_;conv=>rhs;whnf
   refine Zg (Zam rfl hx2) ?_;conv=>rhs;whnf
   refine Zg (Zn rfl hx2) ?_;conv=>rhs;whnf
   refine Zm (ZZ Ze s1.2 s1.1.toNat x3) ?_;conv=>rhs;whnf
   refine Zk rfl rfl fun x5 hx5=>?_;conv=>rhs;whnf
   refine Zg (Zn rfl hx5) ?_;conv=>rhs;whnf
   refine Zm (ZZ Ze (List.set s1.2 s1.1.toNat x3) (w64 (s1.1-1)).toNat x2) ?_;conv=>rhs;whnf
   exact Zd (ih _)
  ·exact Zh rfl
 ·exact Zh rfl
def Zev (b:Int) (c:Int):(List Int)→Ex×List V×Zs
  | r=>(.exit 0,[],[(.arr 1 (List.map Ze r))])
theorem ZhA {b c:Int}:∀(s0:Int×(List Int)) (r:List Int),lp (Zbv b c) s0=some r→lpW ctx 1 [0,1,2,6] [] ZA6 [(.sl 0 1),(.d (Ze b)),(.d (Ze c)),(.d (Ze s0.1))] [(.arr 1 (List.map Ze s0.2))]=some ((Zev b c) r):=by
 refine Zah (Zev b c) ?_
 intro s0 rcl ih
 show ZN _ _ (lpW _ _ _ _ _ _ _)
 unfold Zbv
 rw[Zai]
 conv=>rhs;whnf
 refine Zf rfl ?_ ?_<;>conv=>rhs;whnf
 ·refine Zc _ (Zhx _) fun r6 hr6=>?_;conv=>rhs;whnf
  exact Zd (ih _)
 ·exact Zh rfl
theorem Zb7 {b c:Int}{m0_0:List Int}:∀r,(ZaB b c m0_0)=some r→evW ctx 96 [(.sl 0 1),(.d (Ze b)),(.d (Ze c))] [(.arr 1 (List.map Ze m0_0))]=some ((Zfh b c m0_0) r):=by
 show ZN _ (fun r rhs=>rhs=some ((Zfh b c m0_0) r)) _
 unfold ZaB
 rw[ZeK ctx 96 ZDU _ _ rfl rfl]
 conv=>rhs;whnf
 refine Zc _ (ZhA _) fun r7 hr7=>?_;conv=>rhs;whnf
 exact Zh rfl
def ZgN (b:Int) (c:Int) (d:Int) (m0_0:List Int):(List Int)→V×Zs
  | r=>((.d (D.tup [])),[(.arr 1 (List.map Ze r))])
def ZfY (c:Int) (d:Int):((List Int)⊕(List Int))→Ex×List V×Zs
  | (.inl r)=>(.exit 0,[],[(.arr 1 (List.map Ze r))])
  | (.inr r)=>(.ret,[],[(.arr 1 (List.map Ze r))])
theorem Ziu {c d:Int}:∀(s0:Int×(List Int)) (r:((List Int)⊕(List Int))),lp (Zb1 c d) s0=some r→lpW ctx 1 [0,2,3,8] [] Zx8 [(.sl 0 1),(.d (Ze c)),(.d (Ze d)),(.d (Ze s0.1))] [(.arr 1 (List.map Ze s0.2))]=some ((ZfY c d) r):=by
 refine Zah (ZfY c d) ?_
 intro s0 rcl ih
 show ZN _ _ (lpW _ _ _ _ _ _ _)
 unfold Zb1
 rw[Zai]
 conv=>rhs;whnf
 refine Zf rfl ?_ ?_<;>conv=>rhs;whnf
 ·exact Zh rfl
 ·refine Zf rfl ?_ ?_<;>conv=>rhs;whnf
  ·refine Zk rfl rfl fun x1 hx1=>?_;conv=>rhs;whnf
   refine Zg (Zn rfl hx1) ?_;conv=>rhs;whnf
   refine Zk rfl rfl fun x2 hx2=>?_;conv=>rhs;whnf
   refine Zg (Zn rfl hx2) ?_;conv=>rhs;whnf
   refine Zq _ Z5 rfl fun x3 hx3=>?_;conv=>rhs;whnf
   refine Zf rfl ?_ ?_<;>conv=>rhs;whnf
   ·refine Zk rfl rfl fun x4 hx4=>?_;conv=>rhs;whnf
    refine Zg (Zn rfl hx4) ?_;conv=>rhs;whnf
    refine Zk rfl rfl fun x5 hx5=>?_;conv=>rhs;whnf
    refine Zg (Zn rfl hx5) ?_;conv=>rhs;whnf
    refine Zq _ Z5 rfl fun x6 hx6=>?_;conv=>rhs;whnf
    refine Zf rfl ?_ ?_<;>conv=>rhs;whnf
    ·refine Zg (Zam rfl hx5) ?_;conv=>rhs;whnf
     refine Zg (Zn rfl hx5) ?_;conv=>rhs;whnf
     refine Zg (Zam rfl hx4) ?_;conv=>rhs;whnf
     refine Zg (Zn rfl hx4) ?_;conv=>rhs;whnf
     refine Zg (Zam rfl hx4) ?_;conv=>rhs;whnf
     refine Zg (Zn rfl hx4) ?_;conv=>rhs;whnf
     refine Zm (ZZ Ze s0.2 (w64 (d+s0.1)).toNat x5) ?_;conv=>rhs;whnf
     refine Zk rfl rfl fun x7 hx7=>?_;conv=>rhs;whnf
     refine Zg (Zn rfl hx7) ?_;conv=>rhs;whnf
     refine Zm (ZZ Ze (List.set s0.2 (w64 (d+s0.1)).toNat x5) (w64 (d+(w64 ((w64 ((w64 (2*s0.1))+1))+1)))).toNat x4) ?_;conv=>rhs;whnf
     exact Zd (ih _)
    ·exact Zh rfl
   ·refine Zk rfl rfl fun x8 hx8=>?_;conv=>rhs;whnf
    refine Zg (Zn rfl hx8) ?_;conv=>rhs;whnf
    refine Zg (Zam rfl hx1) ?_;conv=>rhs;whnf
    refine Zg (Zn rfl hx1) ?_;conv=>rhs;whnf
    refine Zq _ Z5 rfl fun x9 hx9=>?_;conv=>rhs;whnf
    refine Zf rfl ?_ ?_<;>conv=>rhs;whnf
    ·refine Zg (Zam rfl hx1) ?_;conv=>rhs;whnf
     refine Zg (Zn rfl hx1) ?_;conv=>rhs;whnf
     refine Zg (Zam rfl hx8) ?_;conv=>rhs;whnf
     refine Zg (Zn rfl hx8) ?_;conv=>rhs;whnf
     refine Zg (Zam rfl hx8) ?_;conv=>rhs;whnf
     refine Zg (Zn rfl hx8) ?_;conv=>rhs;whnf
     refine Zm (ZZ Ze s0.2 (w64 (d+s0.1)).toNat x1) ?_;conv=>rhs;whnf
     refine Zk rfl rfl fun x10 hx10=>?_;conv=>rhs;whnf
     refine Zg (Zn rfl hx10) ?_;conv=>rhs;whnf
     refine Zm (ZZ Ze (List.set s0.2 (w64 (d+s0.1)).toNat x1) (w64 (d+(w64 ((w64 (2*s0.1))+1)))).toNat x8) ?_;conv=>rhs;whnf
     exact Zd (ih _)
    ·exact Zh rfl
  ·refine Zk rfl rfl fun x11 hx11=>?_;conv=>rhs;whnf
   refine Zg (Zn rfl hx11) ?_;conv=>rhs;whnf
   refine Zk rfl rfl fun x12 hx12=>?_;conv=>rhs;whnf
   refine Zg (Zn rfl hx12) ?_;conv=>rhs;whnf
   refine Zq _ Z5 rfl fun x13 hx13=>?_;conv=>rhs;whnf
   refine Zf rfl ?_ ?_<;>conv=>rhs;whnf
   ·refine Zg (Zam rfl hx12) ?_;conv=>rhs;whnf
    refine Zg (Zn rfl hx12) ?_;conv=>rhs;whnf
    refine Zg (Zam rfl hx11) ?_;conv=>rhs;whnf
    refine Zg (Zn rfl hx11) ?_;conv=>rhs;whnf
    refine Zg (Zam rfl hx11) ?_;conv=>rhs;whnf
    refine Zg (Zn rfl hx11) ?_;conv=>rhs;whnf
    refine Zm (ZZ Ze s0.2 (w64 (d+s0.1)).toNat x12) ?_;conv=>rhs;whnf
    refine Zk rfl rfl fun x14 hx14=>?_;conv=>rhs;whnf
    refine Zg (Zn rfl hx14) ?_;conv=>rhs;whnf
    refine Zm (ZZ Ze (List.set s0.2 (w64 (d+s0.1)).toNat x12) (w64 (d+(w64 ((w64 (2*s0.1))+1)))).toNat x11) ?_;conv=>rhs;whnf
    exact Zd (ih _)
   ·exact Zh rfl
theorem Zgx {b c d:Int}{m0_0:List Int}:∀r,(ZbM b c d m0_0)=some r→evW ctx 110 [(.sl 0 1),(.d (Ze b)),(.d (Ze c)),(.d (Ze d))] [(.arr 1 (List.map Ze m0_0))]=some ((ZgN b c d m0_0) r):=by
 show ZN _ (fun r rhs=>rhs=some ((ZgN b c d m0_0) r)) _
 unfold ZbM
 rw[ZeK ctx 110 ZzZ _ _ rfl rfl]
 conv=>rhs;whnf
 refine Zc _ (Ziu _) fun r15 hr15=>?_
 clear hr15
 rcases r15 with r15 | r15
 ·conv=>rhs;whnf
  exact Zh rfl
 ·conv=>rhs;whnf
  exact Zh rfl
def ZgV (b:Int) (c:Int) (m0_0:List Int):(List Int)→V×Zs
  | r=>((.d (D.tup [])),[(.arr 1 (List.map Ze r))])
def Zf0 (b:Int) (c:Int):(List Int)→Ex×List V×Zs
  | r=>(.exit 0,[(.sl 0 1),(.d (Ze b)),(.d (Ze 0)),(.d (Ze (w64 (c-b))))],[(.arr 1 (List.map Ze r))])
theorem Ziz {b c:Int}:∀(s0:Int×(List Int)) (r:List Int),lp (ZbY b c) s0=some r→lpW ctx 1 [0,6,7,8,9] [0,6,7,8] Zy5 [(.sl 0 1),(.d (Ze b)),(.d (Ze 0)),(.d (Ze (w64 (c-b)))),(.d (Ze s0.1))] [(.arr 1 (List.map Ze s0.2))]=some ((Zf0 b c) r):=by
 refine Zah (Zf0 b c) ?_
 intro s0 rcl ih
 show ZN _ _ (lpW _ _ _ _ _ _ _)
 unfold ZbY
 rw[Zai]
 conv=>rhs;whnf
 refine Zf rfl ?_ ?_<;>conv=>rhs;whnf
 ·refine Zc _ Zgx fun x1 hx1=>?_;conv=>rhs;whnf
  exact Zd (ih _)
 ·exact Zh rfl
def Zf1 (b:Int):(List Int)→Ex×List V×Zs
  | r=>(.exit 2,[],[(.arr 1 (List.map Ze r))])
theorem Ziy {b:Int}:∀(s3:Int×(List Int)) (r:List Int),lp (Zb0 b) s3=some r→lpW ctx 1 [0,6,7,10] [] ZBk [(.sl 0 1),(.d (Ze b)),(.d (Ze 0)),(.d (Ze s3.1))] [(.arr 1 (List.map Ze s3.2))]=some ((Zf1 b) r):=by
 refine Zah (Zf1 b) ?_
 intro s3 rcl ih
 show ZN _ _ (lpW _ _ _ _ _ _ _)
 unfold Zb0
 rw[Zai]
 conv=>rhs;whnf
 refine Zf rfl ?_ ?_<;>conv=>rhs;whnf
 ·refine Zk rfl rfl fun x4 hx4=>?_;conv=>rhs;whnf
  refine Zg (Zn rfl hx4) ?_;conv=>rhs;whnf
  refine Zk rfl rfl fun x5 hx5=>?_;conv=>rhs;whnf
  refine Zg (Zn rfl hx5) ?_;conv=>rhs;whnf
  refine Zg (Zam rfl hx5) ?_;conv=>rhs;whnf
  refine Zg (Zn rfl hx5) ?_;conv=>rhs;whnf
  refine Zm (ZZ Ze s3.2 b.toNat x4) ?_;conv=>rhs;whnf
  refine Zk rfl rfl fun x6 hx6=>?_;conv=>rhs;whnf
  refine Zg (Zn rfl hx6) ?_;conv=>rhs;whnf
  refine Zm (ZZ Ze (List.set s3.2 b.toNat x4) (w64 (b+s3.1)).toNat x5) ?_;conv=>rhs;whnf
  refine Zc _ Zgx fun x7 hx7=>?_;conv=>rhs;whnf
  exact Zd (ih _)
 ·exact Zh rfl
theorem ZcH {b c:Int}{m0_0:List Int}:∀r,(Zbb b c m0_0)=some r→evW ctx 97 [(.sl 0 1),(.d (Ze b)),(.d (Ze c))] [(.arr 1 (List.map Ze m0_0))]=some ((ZgV b c m0_0) r):=by
 show ZN _ (fun r rhs=>rhs=some ((ZgV b c m0_0) r)) _
 unfold Zbb
 rw[ZeK ctx 97 ZEi _ _ rfl rfl]
 conv=>rhs;whnf
 refine ZV rfl ?_;conv=>rhs;whnf
 refine Zc _ (Ziz _) fun r2 hr2=>?_;conv=>rhs;whnf
 refine Zc _ (Ziy _) fun r8 hr8=>?_;conv=>rhs;whnf
 exact Zh rfl
def Zg9 (b:Int) (c:Int) (m0_0:List Int) (m1_0:Int):(Int×Int×Int)→V×Zs
  | r=>((.d (D.tup [(Ze r.1),(Ze r.2.1)])),[(.arr 1 (List.map Ze m0_0)),(.cells [(.d (Ze r.2.2))])])
theorem Zeu {b c:Int}{m0_0:List Int}{m1_0:Int}:∀r,(ZbE b c m0_0 m1_0)=some r→evW ctx 115 [(.sl 0 1),(.d (Ze b)),(.d (Ze c)),(.ptr 1 0)] [(.arr 1 (List.map Ze m0_0)),(.cells [(.d (Ze m1_0))])]=some ((Zg9 b c m0_0 m1_0) r):=by
 show ZN _ (fun r rhs=>rhs=some ((Zg9 b c m0_0 m1_0) r)) _
 unfold ZbE
 rw[ZeK ctx 115 ZBp _ _ rfl rfl]
 conv=>rhs;whnf
 refine Zk rfl rfl fun x0 hx0=>?_;conv=>rhs;whnf
 refine Zg (Zn rfl hx0) ?_;conv=>rhs;whnf
 refine Zk rfl rfl fun x1 hx1=>?_;conv=>rhs;whnf
 refine Zg (Zn rfl hx1) ?_;conv=>rhs;whnf
 refine Zq _ Z5 rfl fun x2 hx2=>?_;conv=>rhs;whnf
 refine Zf rfl ?_ ?_<;>conv=>rhs;whnf
 ·exact Zh rfl
 ·exact Zh rfl
def Zhf (b:Int) (c:Int) (d:Int) (m0_0:List Int) (m1_0:Int):(Int×Int)→V×Zs
  | r=>((.d (Ze r.1)),[(.arr 1 (List.map Ze m0_0)),(.cells [(.d (Ze r.2))])])
theorem Zey {b c d:Int}{m0_0:List Int}{m1_0:Int}:∀r,(ZbF b c d m0_0 m1_0)=some r→evW ctx 112 [(.sl 0 1),(.d (Ze b)),(.d (Ze c)),(.d (Ze d)),(.ptr 1 0)] [(.arr 1 (List.map Ze m0_0)),(.cells [(.d (Ze m1_0))])]=some ((Zhf b c d m0_0 m1_0) r):=by
 show ZN _ (fun r rhs=>rhs=some ((Zhf b c d m0_0 m1_0) r)) _
 unfold ZbF
 rw[ZeK ctx 112 ZBB _ _ rfl rfl]
 conv=>rhs;whnf
 refine Zc _ Zeu fun x0 hx0=>?_;conv=>rhs;whnf
 refine Zc _ Zeu fun x1 hx1=>?_;conv=>rhs;whnf
 refine Zc _ Zeu fun x2 hx2=>?_;conv=>rhs;whnf
 exact Zh rfl
def Ze1 (b:Int) (m0_0:List Int) (m1_0:Int):(Int×Int)→V×Zs
  | r=>((.d (Ze r.1)),[(.arr 1 (List.map Ze m0_0)),(.cells [(.d (Ze r.2))])])
theorem ZcY {b:Int}{m0_0:List Int}{m1_0:Int}:∀r,(ZaU b m0_0 m1_0)=some r→evW ctx 111 [(.sl 0 1),(.d (Ze b)),(.ptr 1 0)] [(.arr 1 (List.map Ze m0_0)),(.cells [(.d (Ze m1_0))])]=some ((Ze1 b m0_0 m1_0) r):=by
 show ZN _ (fun r rhs=>rhs=some ((Ze1 b m0_0 m1_0) r)) _
 unfold ZaU
 rw[ZeK ctx 111 Zy7 _ _ rfl rfl]
 conv=>rhs;whnf
 refine Zc _ Zey fun x0 hx0=>?_;conv=>rhs;whnf
 exact Zh rfl
def ZfZ (b:Int) (c:Int) (m0_0:List Int):(Int×Int)→V×Zs
  | r=>((.d (D.tup [(Ze r.1),(Ze r.2)])),[(.arr 1 (List.map Ze m0_0))])
theorem Zce {b c:Int}{m0_0:List Int}:∀r,(ZaQ b c m0_0)=some r→evW ctx 99 [(.sl 0 1),(.d (Ze b)),(.d (Ze c))] [(.arr 1 (List.map Ze m0_0))]=some ((ZfZ b c m0_0) r):=by
 show ZN _ (fun r rhs=>rhs=some ((ZfZ b c m0_0) r)) _
 unfold ZaQ
 rw[ZeK ctx 99 ZDz _ _ rfl rfl]
 conv=>rhs;whnf
 refine ZV rfl ?_;conv=>rhs;whnf
 refine ZV rfl ?_;conv=>rhs;whnf
 refine ZV rfl ?_;conv=>rhs;whnf
 refine Zf rfl ?_ ?_<;>conv=>rhs;whnf
 ·refine Zf rfl ?_ ?_<;>conv=>rhs;whnf
  ·refine Zc _ ZcY fun x0 hx0=>?_;conv=>rhs;whnf
   refine Zc _ ZcY fun x1 hx1=>?_;conv=>rhs;whnf
   refine Zc _ ZcY fun x2 hx2=>?_;conv=>rhs;whnf
   refine Zc _ Zey fun x3 hx3=>?_;conv=>rhs;whnf
   refine Zf rfl ?_ ?_<;>conv=>rhs;whnf
   ·exact Zh rfl
   ·refine Zf rfl ?_ ?_<;>conv=>rhs;whnf
    ·exact Zh rfl
    ·exact Zh rfl
  ·refine Zc _ Zey fun x4 hx4=>?_;conv=>rhs;whnf
   refine Zf rfl ?_ ?_<;>conv=>rhs;whnf
   ·exact Zh rfl
   ·refine Zf rfl ?_ ?_<;>conv=>rhs;whnf
    ·exact Zh rfl
    ·exact Zh rfl
 ·refine Zbl rfl ?_;conv=>rhs;whnf
  exact Zh rfl
def ZfS (b:Int) (c:Int) (m0_0:List Int):(List Int)→V×Zs
  | r=>((.d (D.tup [])),[(.arr 1 (List.map Ze r))])
def ZeL:(List Int)→Ex×List V×Zs
  | r=>(.exit 0,[],[(.arr 1 (List.map Ze r))])
theorem ZhF:∀(s0:Int×Int×(List Int)) (r:List Int),lp (ZbC) s0=some r→lpW ctx 1 [0,6,7] [] ZxB [(.sl 0 1),(.d (Ze s0.1)),(.d (Ze s0.2.1))] [(.arr 1 (List.map Ze s0.2.2))]=some (ZeL r):=by
 refine Zah ZeL ?_
 intro s0 rcl ih
 show ZN _ _ (lpW _ _ _ _ _ _ _)
 unfold ZbC
 rw[Zai]
 conv=>rhs;whnf
 refine Zf rfl ?_ ?_<;>conv=>rhs;whnf
 ·refine Zk rfl rfl fun x1 hx1=>?_;conv=>rhs;whnf
  refine Zg (Zn rfl hx1) ?_;conv=>rhs;whnf
  refine Zk rfl rfl fun x2 hx2=>?_;conv=>rhs;whnf
  refine Zg (Zn rfl hx2) ?_;conv=>rhs;whnf
  refine Zg (Zam rfl hx2) ?_;conv=>rhs;whnf
  refine Zg (Zn rfl hx2) ?_;conv=>rhs;whnf
  refine Zm (ZZ Ze s0.2.2 s0.1.toNat x1) ?_;conv=>rhs;whnf
  refine Zk rfl rfl fun x3 hx3=>?_;conv=>rhs;whnf
  refine Zg (Zn rfl hx3) ?_;conv=>rhs;whnf
  refine Zm (ZZ Ze (List.set s0.2.2 s0.1.toNat x1) s0.2.1.toNat x2) ?_;conv=>rhs;whnf
  exact Zd (ih _)
 ·exact Zh rfl
theorem Zcb {b c:Int}{m0_0:List Int}:∀r,(ZaJ b c m0_0)=some r→evW ctx 100 [(.sl 0 1),(.d (Ze b)),(.d (Ze c))] [(.arr 1 (List.map Ze m0_0))]=some ((ZfS b c m0_0) r):=by
 show ZN _ (fun r rhs=>rhs=some ((ZfS b c m0_0) r)) _
 unfold ZaJ
 rw[ZeK ctx 100 ZBo _ _ rfl rfl]
 conv=>rhs;whnf
 refine Zc _ (ZhF _) fun r4 hr4=>?_;conv=>rhs;whnf
 exact Zh rfl
def ZdL (b:Int) (c:Int) (m0_0:List Int):((List Int)⊕(List Int))→V×Zs
  | (.inl r)=>((.d (D.bool true)),[(.arr 1 (List.map Ze r))])
  | (.inr r)=>((.d (D.bool false)),[(.arr 1 (List.map Ze r))])
def Zds (b:Int) (c:Int) (s0:Int×Int×(List Int)):Int→Ex×List V×Zs
  | r=>(.exit 2,[(.sl 0 1),(.d (Ze b)),(.d (Ze c)),(.d (Ze r)),(.d (Ze s0.2.1))],[(.arr 1 (List.map Ze s0.2.2))])
theorem Zgs {b c:Int}{s0:Int×Int×(List Int)}:∀(s1:Int) (r:Int),lp (Za2 c s0) s1=some r→lpW ctx 1 [0,1,2,7,8] [0,1,2,7,8] Zx9 [(.sl 0 1),(.d (Ze b)),(.d (Ze c)),(.d (Ze s1)),(.d (Ze s0.2.1))] [(.arr 1 (List.map Ze s0.2.2))]=some ((Zds b c s0) r):=by
 refine Zah (Zds b c s0) ?_
 intro s1 rcl ih
 show ZN _ _ (lpW _ _ _ _ _ _ _)
 unfold Za2
 rw[Zai]
 conv=>rhs;whnf
 refine Zf rfl ?_ ?_<;>conv=>rhs;whnf
 ·refine Zk rfl rfl fun x2 hx2=>?_;conv=>rhs;whnf
  refine Zg (Zn rfl hx2) ?_;conv=>rhs;whnf
  refine Zk rfl rfl fun x3 hx3=>?_;conv=>rhs;whnf
  refine Zg (Zn rfl hx3) ?_;conv=>rhs;whnf
  refine Zq _ Z5 rfl fun x4 hx4=>?_;conv=>rhs;whnf
  refine Zf rfl ?_ ?_<;>conv=>rhs;whnf
  ·exact Zh rfl
  ·exact Zd (ih _)
 ·exact Zh rfl
def Zdr (b:Int) (c:Int) (s0:Int×Int×(List Int)) (r5:Int):(List Int)→Ex×List V×Zs
  | r=>(.exit 4,[(.sl 0 1),(.d (Ze b)),(.d (Ze c)),(.d (Ze r5)),(.d (Ze s0.2.1))],[(.arr 1 (List.map Ze r))])
theorem Zgv {b c:Int}{s0:Int×Int×(List Int)}{r5:Int}:∀(s9:Int×(List Int)) (r:List Int),lp (ZaZ) s9=some r→lpW ctx 1 [0,1,2,7,8,9] [0,1,2,7,8] Zxp [(.sl 0 1),(.d (Ze b)),(.d (Ze c)),(.d (Ze r5)),(.d (Ze s0.2.1)),(.d (Ze s9.1))] [(.arr 1 (List.map Ze s9.2))]=some ((Zdr b c s0 r5) r):=by
 refine Zah (Zdr b c s0 r5) ?_
 intro s9 rcl ih
 show ZN _ _ (lpW _ _ _ _ _ _ _)
 unfold ZaZ
 rw[Zai]
 conv=>rhs;whnf
 refine Zf rfl ?_ ?_<;>conv=>rhs;whnf
 ·refine Zk rfl rfl fun x10 hx10=>?_;conv=>rhs;whnf
  refine Zg (Zn rfl hx10) ?_;conv=>rhs;whnf
  refine Zk rfl rfl fun x11 hx11=>?_;conv=>rhs;whnf
  refine Zg (Zn rfl hx11) ?_;conv=>rhs;whnf
  refine Zq _ Z5 rfl fun x12 hx12=>?_;conv=>rhs;whnf
  refine Zf rfl ?_ ?_<;>conv=>rhs;whnf
  ·refine Zg (Zam rfl hx11) ?_;conv=>rhs;whnf
   refine Zg (Zn rfl hx11) ?_;conv=>rhs;whnf
   refine Zg (Zam rfl hx10) ?_;conv=>rhs;whnf
   refine Zg (Zn rfl hx10) ?_;conv=>rhs;whnf
   refine Zg (Zam rfl hx10) ?_;conv=>rhs;whnf
   refine Zg (Zn rfl hx10) ?_;conv=>rhs;whnf
   refine Zm (ZZ Ze s9.2 s9.1.toNat x11) ?_;conv=>rhs;whnf
   refine Zk rfl rfl fun x13 hx13=>?_;conv=>rhs;whnf
   refine Zg (Zn rfl hx13) ?_;conv=>rhs;whnf
   refine Zm (ZZ Ze (List.set s9.2 s9.1.toNat x11) (w64 (s9.1-1)).toNat x10) ?_;conv=>rhs;whnf
   exact Zd (ih _)
  ·exact Zh rfl
 ·exact Zh rfl
def Zdp (b:Int) (c:Int) (s0:Int×Int×(List Int)) (r5:Int):(List Int)→Ex×List V×Zs
  | r=>(.exit 6,[(.sl 0 1),(.d (Ze b)),(.d (Ze c)),(.d (Ze r5)),(.d (Ze s0.2.1))],[(.arr 1 (List.map Ze r))])
theorem Zdd {b c:Int}{s0:Int×Int×(List Int)}{r5:Int}:∀(s15:Int×(List Int)) (r:List Int),lp (Zat c) s15=some r→lpW ctx 1 [0,1,2,7,8,10] [0,1,2,7,8] ZxK [(.sl 0 1),(.d (Ze b)),(.d (Ze c)),(.d (Ze r5)),(.d (Ze s0.2.1)),(.d (Ze s15.1))] [(.arr 1 (List.map Ze s15.2))]=some ((Zdp b c s0 r5) r):=by
 refine Zah (Zdp b c s0 r5) ?_
 intro s15 rcl ih
 show ZN _ _ (lpW _ _ _ _ _ _ _)
 unfold Zat
 rw[Zai]
 conv=>rhs;whnf
 refine Zf rfl ?_ ?_<;>conv=>rhs;whnf
 ·refine Zk rfl rfl fun x16 hx16=>?_;conv=>rhs;whnf
  refine Zg (Zn rfl hx16) ?_;conv=>rhs;whnf
  refine Zk rfl rfl fun x17 hx17=>?_;conv=>rhs;whnf
  refine Zg (Zn rfl hx17) ?_;conv=>rhs;whnf
  refine Zq _ Z5 rfl fun x18 hx18=>?_;conv=>rhs;whnf
  refine Zf rfl ?_ ?_<;>conv=>rhs;whnf
  ·refine Zg (Zam rfl hx17) ?_;conv=>rhs;whnf
   refine Zg (Zn rfl hx17) ?_;conv=>rhs;whnf
   refine Zg (Zam rfl hx16) ?_;conv=>rhs;whnf
   refine Zg (Zn rfl hx16) ?_;conv=>rhs;whnf
   refine Zg (Zam rfl hx16) ?_;conv=>rhs;whnf
   refine Zg (Zn rfl hx16) ?_;conv=>rhs;whnf
   refine Zm (ZZ Ze s15.2 s15.1.toNat x17) ?_;conv=>rhs;whnf
   refine Zk rfl rfl fun x19 hx19=>?_;conv=>rhs;whnf
   refine Zg (Zn rfl hx19) ?_;conv=>rhs;whnf
   refine Zm (ZZ Ze (List.set s15.2 s15.1.toNat x17) (w64 (s15.1-1)).toNat x16) ?_;conv=>rhs;whnf
   exact Zd (ih _)
  ·exact Zh rfl
 ·exact Zh rfl
def Zdq (b:Int) (c:Int):((List Int)⊕((List Int)⊕(List Int)))→Ex×List V×Zs
  | (.inl r)=>(.ret,[(.d (D.bool true))],[(.arr 1 (List.map Ze r))])
  | (.inr (.inl r))=>(.ret,[(.d (D.bool false))],[(.arr 1 (List.map Ze r))])
  | (.inr (.inr r))=>(.exit 0,[.bad],[(.arr 1 (List.map Ze r))])
theorem Zgl {b c:Int}:∀(s0:Int×Int×(List Int)) (r:((List Int)⊕((List Int)⊕(List Int)))),lp (Za1 b c) s0=some r→lpW ctx 1 [0,1,2,7,8] [6] Zx1 [(.sl 0 1),(.d (Ze b)),(.d (Ze c)),(.d (Ze s0.1)),(.d (Ze s0.2.1))] [(.arr 1 (List.map Ze s0.2.2))]=some ((Zdq b c) r):=by
 refine Zah (Zdq b c) ?_
 intro s0 rcl ih
 show ZN _ _ (lpW _ _ _ _ _ _ _)
 unfold Za1
 rw[Zai]
 conv=>rhs;whnf
 refine Zf rfl ?_ ?_<;>conv=>rhs;whnf
 ·refine Zc _ (Zgs _) fun r5 hr5=>?_;conv=>rhs;whnf
  refine Zf rfl ?_ ?_<;>conv=>rhs;whnf
  ·exact Zh rfl
  ·refine Zf rfl ?_ ?_<;>conv=>rhs;whnf
   ·exact Zh rfl
   ·refine Zk rfl rfl fun x6 hx6=>?_;conv=>rhs;whnf
    refine Zg (Zn rfl hx6) ?_;conv=>rhs;whnf
    refine Zk rfl rfl fun x7 hx7=>?_;conv=>rhs;whnf
    refine Zg (Zn rfl hx7) ?_;conv=>rhs;whnf
    refine Zg (Zam rfl hx7) ?_;conv=>rhs;whnf
    refine Zg (Zn rfl hx7) ?_;conv=>rhs;whnf
    refine Zm (ZZ Ze s0.2.2 r5.toNat x6) ?_;conv=>rhs;whnf
    refine Zk rfl rfl fun x8 hx8=>?_;conv=>rhs;whnf
    refine Zg (Zn rfl hx8) ?_;conv=>rhs;whnf
    refine Zm (ZZ Ze (List.set s0.2.2 r5.toNat x6) (w64 (r5-1)).toNat x7) ?_;conv=>rhs;whnf
    refine Zf rfl ?_ ?_<;>conv=>rhs;whnf
    ·refine Zc _ (Zgv _) fun r14 hr14=>?_;conv=>rhs;whnf
     refine Zf rfl ?_ ?_<;>conv=>rhs;whnf
     ·refine Zc _ (Zdd _) fun r20 hr20=>?_;conv=>rhs;whnf
      exact Zd (ih _)
     ·exact Zd (ih _)
    ·refine Zf rfl ?_ ?_<;>conv=>rhs;whnf
     ·refine Zc _ (Zdd _) fun r26 hr26=>?_;conv=>rhs;whnf
      exact Zd (ih _)
     ·exact Zd (ih _)
 ·exact Zh rfl
theorem ZdG {b c:Int}{m0_0:List Int}:∀r,(ZaN b c m0_0)=some r→evW ctx 101 [(.sl 0 1),(.d (Ze b)),(.d (Ze c))] [(.arr 1 (List.map Ze m0_0))]=some ((ZdL b c m0_0) r):=by
 show ZN _ (fun r rhs=>rhs=some ((ZdL b c m0_0) r)) _
 unfold ZaN
 rw[ZeK ctx 101 ZzO _ _ rfl rfl]
 conv=>rhs;whnf
 refine Zc _ (Zgl _) fun r27 hr27=>?_
 clear hr27
 rcases r27 with r27 | (r27 | r27)
 ·conv=>rhs;whnf
  exact Zh rfl
 ·conv=>rhs;whnf
  exact Zh rfl
 ·conv=>rhs;whnf
  exact Zh rfl
def Zgz (b:Int) (c:Int) (d:Int) (m0_0:List Int):((Int×(List Int))⊕(Int×(List Int)))→V×Zs
  | (.inl r)=>((.d (D.tup [(Ze r.1),(D.bool true)])),[(.arr 1 (List.map Ze r.2))])
  | (.inr r)=>((.d (D.tup [(Ze r.1),(D.bool false)])),[(.arr 1 (List.map Ze r.2))])
def ZfP (b:Int) (c:Int) (d:Int) (m0_0:List Int) (x0:Int) (x1:Int):Int→Ex×List V×Zs
  | r=>(.exit 0,[(.sl 0 1),(.d (Ze b)),(.d (Ze r)),(.d (Ze (w64 (c-1))))],[(.arr 1 (List.map Ze (List.set (List.set m0_0 b.toNat x0) d.toNat x1)))])
theorem Zh2 {b c d:Int}{m0_0:List Int}{x0 x1:Int}:∀(s3:Int) (r:Int),lp (ZbT b c d m0_0 x0 x1) s3=some r→lpW ctx 1 [0,1,10,11] [0,1,10,11] Zx5 [(.sl 0 1),(.d (Ze b)),(.d (Ze s3)),(.d (Ze (w64 (c-1))))] [(.arr 1 (List.map Ze (List.set (List.set m0_0 b.toNat x0) d.toNat x1)))]=some ((ZfP b c d m0_0 x0 x1) r):=by
 refine Zah (ZfP b c d m0_0 x0 x1) ?_
 intro s3 rcl ih
 show ZN _ _ (lpW _ _ _ _ _ _ _)
 unfold ZbT
 rw[Zai]
 conv=>rhs;whnf
 refine Zf rfl ?_ ?_<;>conv=>rhs;whnf
 ·refine Zk rfl rfl fun x4 hx4=>?_;conv=>rhs;whnf
  refine Zg (Zn rfl hx4) ?_;conv=>rhs;whnf
  refine Zk rfl rfl fun x5 hx5=>?_;conv=>rhs;whnf
  refine Zg (Zn rfl hx5) ?_;conv=>rhs;whnf
  refine Zq _ Z5 rfl fun x6 hx6=>?_;conv=>rhs;whnf
  refine Zf rfl ?_ ?_<;>conv=>rhs;whnf
  ·exact Zd (ih _)
  ·exact Zh rfl
 ·exact Zh rfl
def ZfR (b:Int) (d:Int) (m0_0:List Int) (x0:Int) (x1:Int) (r7:Int):Int→Ex×List V×Zs
  | r=>(.exit 2,[(.sl 0 1),(.d (Ze b)),(.d (Ze r7)),(.d (Ze r))],[(.arr 1 (List.map Ze (List.set (List.set m0_0 b.toNat x0) d.toNat x1)))])
theorem Zih {b d:Int}{m0_0:List Int}{x0 x1 r7:Int}:∀(s8:Int) (r:Int),lp (ZbN b d m0_0 x0 x1 r7) s8=some r→lpW ctx 1 [0,1,10,11] [0,1,10,11] ZxO [(.sl 0 1),(.d (Ze b)),(.d (Ze r7)),(.d (Ze s8))] [(.arr 1 (List.map Ze (List.set (List.set m0_0 b.toNat x0) d.toNat x1)))]=some ((ZfR b d m0_0 x0 x1 r7) r):=by
 refine Zah (ZfR b d m0_0 x0 x1 r7) ?_
 intro s8 rcl ih
 show ZN _ _ (lpW _ _ _ _ _ _ _)
 unfold ZbN
 rw[Zai]
 conv=>rhs;whnf
 refine Zf rfl ?_ ?_<;>conv=>rhs;whnf
 ·refine Zk rfl rfl fun x9 hx9=>?_;conv=>rhs;whnf
  refine Zg (Zn rfl hx9) ?_;conv=>rhs;whnf
  refine Zk rfl rfl fun x10 hx10=>?_;conv=>rhs;whnf
  refine Zg (Zn rfl hx10) ?_;conv=>rhs;whnf
  refine Zq _ Z5 rfl fun x11 hx11=>?_;conv=>rhs;whnf
  refine Zf rfl ?_ ?_<;>conv=>rhs;whnf
  ·exact Zh rfl
  ·exact Zd (ih _)
 ·exact Zh rfl
def ZfM (b:Int) (s19:Int×Int×(List Int)):Int→Ex×List V×Zs
  | r=>(.exit 6,[(.sl 0 1),(.d (Ze b)),(.d (Ze r)),(.d (Ze s19.2.1))],[(.arr 1 (List.map Ze s19.2.2))])
theorem Zid {b:Int}{s19:Int×Int×(List Int)}:∀(s20:Int) (r:Int),lp (ZbO b s19) s20=some r→lpW ctx 1 [0,1,10,11] [0,1,10,11] ZxF [(.sl 0 1),(.d (Ze b)),(.d (Ze s20)),(.d (Ze s19.2.1))] [(.arr 1 (List.map Ze s19.2.2))]=some ((ZfM b s19) r):=by
 refine Zah (ZfM b s19) ?_
 intro s20 rcl ih
 show ZN _ _ (lpW _ _ _ _ _ _ _)
 unfold ZbO
 rw[Zai]
 conv=>rhs;whnf
 refine Zf rfl ?_ ?_<;>conv=>rhs;whnf
 ·refine Zk rfl rfl fun x21 hx21=>?_;conv=>rhs;whnf
  refine Zg (Zn rfl hx21) ?_;conv=>rhs;whnf
  refine Zk rfl rfl fun x22 hx22=>?_;conv=>rhs;whnf
  refine Zg (Zn rfl hx22) ?_;conv=>rhs;whnf
  refine Zq _ Z5 rfl fun x23 hx23=>?_;conv=>rhs;whnf
  refine Zf rfl ?_ ?_<;>conv=>rhs;whnf
  ·exact Zd (ih _)
  ·exact Zh rfl
 ·exact Zh rfl
def ZfH (b:Int) (s19:Int×Int×(List Int)) (r24:Int):Int→Ex×List V×Zs
  | r=>(.exit 8,[(.sl 0 1),(.d (Ze b)),(.d (Ze r24)),(.d (Ze r))],[(.arr 1 (List.map Ze s19.2.2))])
theorem Zig {b:Int}{s19:Int×Int×(List Int)}{r24:Int}:∀(s25:Int) (r:Int),lp (ZbQ b s19 r24) s25=some r→lpW ctx 1 [0,1,10,11] [0,1,10,11] ZxE [(.sl 0 1),(.d (Ze b)),(.d (Ze r24)),(.d (Ze s25))] [(.arr 1 (List.map Ze s19.2.2))]=some ((ZfH b s19 r24) r):=by
 refine Zah (ZfH b s19 r24) ?_
 intro s25 rcl ih
 show ZN _ _ (lpW _ _ _ _ _ _ _)
 unfold ZbQ
 rw[Zai]
 conv=>rhs;whnf
 refine Zf rfl ?_ ?_<;>conv=>rhs;whnf
 ·refine Zk rfl rfl fun x26 hx26=>?_;conv=>rhs;whnf
  refine Zg (Zn rfl hx26) ?_;conv=>rhs;whnf
  refine Zk rfl rfl fun x27 hx27=>?_;conv=>rhs;whnf
  refine Zg (Zn rfl hx27) ?_;conv=>rhs;whnf
  refine Zq _ Z5 rfl fun x28 hx28=>?_;conv=>rhs;whnf
  refine Zf rfl ?_ ?_<;>conv=>rhs;whnf
  ·exact Zh rfl
  ·exact Zd (ih _)
 ·exact Zh rfl
def ZfN (b:Int):(Int×(List Int))→Ex×List V×Zs
  | r=>(.exit 4,[(.sl 0 1),(.d (Ze b)),(.d (Ze r.1))],[(.arr 1 (List.map Ze r.2))])
theorem Zii {b:Int}:∀(s19:Int×Int×(List Int)) (r:(Int×(List Int))),lp (ZbR b) s19=some r→lpW ctx 1 [0,1,10,11] [0,1,11] Zxu [(.sl 0 1),(.d (Ze b)),(.d (Ze s19.1)),(.d (Ze s19.2.1))] [(.arr 1 (List.map Ze s19.2.2))]=some ((ZfN b) r):=by
 refine Zah (ZfN b) ?_
 intro s19 rcl ih
 show ZN _ _ (lpW _ _ _ _ _ _ _)
 unfold ZbR
 rw[Zai]
 conv=>rhs;whnf
 refine Zc _ (Zid _) fun r24 hr24=>?_;conv=>rhs;whnf
 refine Zc _ (Zig _) fun r29 hr29=>?_;conv=>rhs;whnf
 refine Zf rfl ?_ ?_<;>conv=>rhs;whnf
 ·exact Zh rfl
 ·refine Zk rfl rfl fun x30 hx30=>?_;conv=>rhs;whnf
  refine Zg (Zn rfl hx30) ?_;conv=>rhs;whnf
  refine Zk rfl rfl fun x31 hx31=>?_;conv=>rhs;whnf
  refine Zg (Zn rfl hx31) ?_;conv=>rhs;whnf
  refine Zg (Zam rfl hx31) ?_;conv=>rhs;whnf
  refine Zg (Zn rfl hx31) ?_;conv=>rhs;whnf
  refine Zm (ZZ Ze s19.2.2 r24.toNat x30) ?_;conv=>rhs;whnf
  refine Zk rfl rfl fun x32 hx32=>?_;conv=>rhs;whnf
  refine Zg (Zn rfl hx32) ?_;conv=>rhs;whnf
  refine Zm (ZZ Ze (List.set s19.2.2 r24.toNat x30) r29.toNat x31) ?_;conv=>rhs;whnf
  exact Zd (ih _)
theorem ZC {b c d:Int}{m0_0:List Int}:∀r,(Zy b c d m0_0)=some r→evW ctx 104 [(.sl 0 1),(.d (Ze b)),(.d (Ze c)),(.d (Ze d))] [(.arr 1 (List.map Ze m0_0))]=some ((Zgz b c d m0_0) r):=by
 show ZN _ (fun r rhs=>rhs=some ((Zgz b c d m0_0) r)) _
 unfold Zy
 rw[ZeK ctx 104 ZzX _ _ rfl rfl]
 conv=>rhs;whnf
 refine Zk rfl rfl fun x0 hx0=>?_;conv=>rhs;whnf
 refine Zg (Zn rfl hx0) ?_;conv=>rhs;whnf
 refine Zk rfl rfl fun x1 hx1=>?_;conv=>rhs;whnf
 refine Zg (Zn rfl hx1) ?_;conv=>rhs;whnf
 refine Zg (Zam rfl hx1) ?_;conv=>rhs;whnf
 refine Zg (Zn rfl hx1) ?_;conv=>rhs;whnf
 refine Zm (ZZ Ze m0_0 b.toNat x0) ?_;conv=>rhs;whnf
 refine Zk rfl rfl fun x2 hx2=>?_;conv=>rhs;whnf
 refine Zg (Zn rfl hx2) ?_;conv=>rhs;whnf
 refine Zm (ZZ Ze (List.set m0_0 b.toNat x0) d.toNat x1) ?_;conv=>rhs;whnf
 refine Zc _ (Zh2 _) fun r7 hr7=>?_;conv=>rhs;whnf
 refine Zc _ (Zih _) fun r12 hr12=>?_;conv=>rhs;whnf
 refine Zf rfl ?_ ?_<;>conv=>rhs;whnf
 ·refine Zk rfl rfl fun x13 hx13=>?_;conv=>rhs;whnf
  refine Zg (Zn rfl hx13) ?_;conv=>rhs;whnf
  refine Zk rfl rfl fun x14 hx14=>?_;conv=>rhs;whnf
  refine Zg (Zn rfl hx14) ?_;conv=>rhs;whnf
  refine Zg (Zam rfl hx14) ?_;conv=>rhs;whnf
  refine Zg (Zn rfl hx14) ?_;conv=>rhs;whnf
  refine Zm (ZZ Ze (List.set (List.set m0_0 b.toNat x0) d.toNat x1) r12.toNat x13) ?_;conv=>rhs;whnf
  refine Zk rfl rfl fun x15 hx15=>?_;conv=>rhs;whnf
  refine Zg (Zn rfl hx15) ?_;conv=>rhs;whnf
  refine Zm (ZZ Ze (List.set (List.set (List.set m0_0 b.toNat x0) d.toNat x1) r12.toNat x13) b.toNat x14) ?_;conv=>rhs;whnf
  exact Zh rfl
 ·refine Zk rfl rfl fun x16 hx16=>?_;conv=>rhs;whnf
  refine Zg (Zn rfl hx16) ?_;conv=>rhs;whnf
  refine Zk rfl rfl fun x17 hx17=>?_;conv=>rhs;whnf
  refine Zg (Zn rfl hx17) ?_;conv=>rhs;whnf
  refine Zg (Zam rfl hx17) ?_;conv=>rhs;whnf
  refine Zg (Zn rfl hx17) ?_;conv=>rhs;whnf
  refine Zm (ZZ Ze (List.set (List.set m0_0 b.toNat x0) d.toNat x1) r7.toNat x16) ?_;conv=>rhs;whnf
  refine Zk rfl rfl fun x18 hx18=>?_;conv=>rhs;whnf
  refine Zg (Zn rfl hx18) ?_;conv=>rhs;whnf
  refine Zm (ZZ Ze (List.set (List.set (List.set m0_0 b.toNat x0) d.toNat x1) r7.toNat x16) r12.toNat x17) ?_;conv=>rhs;whnf
  refine Zc _ (Zii _) fun r33 hr33=>?_;conv=>rhs;whnf
  refine Zk rfl rfl fun x34 hx34=>?_;conv=>rhs;whnf
  refine Zg (Zn rfl hx34) ?_;conv=>rhs;whnf
  refine Zk rfl rfl fun x35 hx35=>?_;conv=>rhs;whnf
  refine Zg (Zn rfl hx35) ?_;conv=>rhs;whnf
  refine Zg (Zam rfl hx35) ?_;conv=>rhs;whnf
  refine Zg (Zn rfl hx35) ?_;conv=>rhs;whnf
  refine Zm (ZZ Ze r33.2 r33.1.toNat x34) ?_;conv=>rhs;whnf
  refine Zk rfl rfl fun x36 hx36=>?_;conv=>rhs;whnf
  refine Zg (Zn rfl hx36) ?_;conv=>rhs;whnf
  refine Zm (ZZ Ze (List.set r33.2 r33.1.toNat x34) b.toNat x35) ?_;conv=>rhs;whnf
  exact Zh rfl
def Ze5 (b:Int) (c:Int) (d:Int) (m0_0:List Int):(Int×(List Int))→V×Zs
  | r=>((.d (Ze r.1)),[(.arr 1 (List.map Ze r.2))])
def Zel (b:Int) (s3:Int×Int×(List Int)):Int→Ex×List V×Zs
  | r=>(.exit 2,[(.sl 0 1),(.d (Ze b)),(.d (Ze r)),(.d (Ze s3.2.1))],[(.arr 1 (List.map Ze s3.2.2))])
theorem Zhn {b:Int}{s3:Int×Int×(List Int)}:∀(s4:Int) (r:Int),lp (Zbp b s3) s4=some r→lpW ctx 1 [0,1,9,10] [0,1,9,10] ZxG [(.sl 0 1),(.d (Ze b)),(.d (Ze s4)),(.d (Ze s3.2.1))] [(.arr 1 (List.map Ze s3.2.2))]=some ((Zel b s3) r):=by
 refine Zah (Zel b s3) ?_
 intro s4 rcl ih
 show ZN _ _ (lpW _ _ _ _ _ _ _)
 unfold Zbp
 rw[Zai]
 conv=>rhs;whnf
 refine Zf rfl ?_ ?_<;>conv=>rhs;whnf
 ·refine Zk rfl rfl fun x5 hx5=>?_;conv=>rhs;whnf
  refine Zg (Zn rfl hx5) ?_;conv=>rhs;whnf
  refine Zk rfl rfl fun x6 hx6=>?_;conv=>rhs;whnf
  refine Zg (Zn rfl hx6) ?_;conv=>rhs;whnf
  refine Zq _ Z5 rfl fun x7 hx7=>?_;conv=>rhs;whnf
  refine Zf rfl ?_ ?_<;>conv=>rhs;whnf
  ·exact Zh rfl
  ·exact Zd (ih _)
 ·exact Zh rfl
def Zek (b:Int) (s3:Int×Int×(List Int)) (r8:Int):Int→Ex×List V×Zs
  | r=>(.exit 4,[(.sl 0 1),(.d (Ze b)),(.d (Ze r8)),(.d (Ze r))],[(.arr 1 (List.map Ze s3.2.2))])
theorem Zhp {b:Int}{s3:Int×Int×(List Int)}{r8:Int}:∀(s9:Int) (r:Int),lp (Zbq b s3 r8) s9=some r→lpW ctx 1 [0,1,9,10] [0,1,9,10] Zxw [(.sl 0 1),(.d (Ze b)),(.d (Ze r8)),(.d (Ze s9))] [(.arr 1 (List.map Ze s3.2.2))]=some ((Zek b s3 r8) r):=by
 refine Zah (Zek b s3 r8) ?_
 intro s9 rcl ih
 show ZN _ _ (lpW _ _ _ _ _ _ _)
 unfold Zbq
 rw[Zai]
 conv=>rhs;whnf
 refine Zf rfl ?_ ?_<;>conv=>rhs;whnf
 ·refine Zk rfl rfl fun x10 hx10=>?_;conv=>rhs;whnf
  refine Zg (Zn rfl hx10) ?_;conv=>rhs;whnf
  refine Zk rfl rfl fun x11 hx11=>?_;conv=>rhs;whnf
  refine Zg (Zn rfl hx11) ?_;conv=>rhs;whnf
  refine Zq _ Z5 rfl fun x12 hx12=>?_;conv=>rhs;whnf
  refine Zf rfl ?_ ?_<;>conv=>rhs;whnf
  ·exact Zd (ih _)
  ·exact Zh rfl
 ·exact Zh rfl
def Zem (b:Int):(Int×(List Int))→Ex×List V×Zs
  | r=>(.exit 0,[(.d (Ze r.1))],[(.arr 1 (List.map Ze r.2))])
theorem Zhm {b:Int}:∀(s3:Int×Int×(List Int)) (r:(Int×(List Int))),lp (Zbr b) s3=some r→lpW ctx 1 [0,1,9,10] [9] ZxN [(.sl 0 1),(.d (Ze b)),(.d (Ze s3.1)),(.d (Ze s3.2.1))] [(.arr 1 (List.map Ze s3.2.2))]=some ((Zem b) r):=by
 refine Zah (Zem b) ?_
 intro s3 rcl ih
 show ZN _ _ (lpW _ _ _ _ _ _ _)
 unfold Zbr
 rw[Zai]
 conv=>rhs;whnf
 refine Zc _ (Zhn _) fun r8 hr8=>?_;conv=>rhs;whnf
 refine Zc _ (Zhp _) fun r13 hr13=>?_;conv=>rhs;whnf
 refine Zf rfl ?_ ?_<;>conv=>rhs;whnf
 ·exact Zh rfl
 ·refine Zk rfl rfl fun x14 hx14=>?_;conv=>rhs;whnf
  refine Zg (Zn rfl hx14) ?_;conv=>rhs;whnf
  refine Zk rfl rfl fun x15 hx15=>?_;conv=>rhs;whnf
  refine Zg (Zn rfl hx15) ?_;conv=>rhs;whnf
  refine Zg (Zam rfl hx15) ?_;conv=>rhs;whnf
  refine Zg (Zn rfl hx15) ?_;conv=>rhs;whnf
  refine Zm (ZZ Ze s3.2.2 r8.toNat x14) ?_;conv=>rhs;whnf
  refine Zk rfl rfl fun x16 hx16=>?_;conv=>rhs;whnf
  refine Zg (Zn rfl hx16) ?_;conv=>rhs;whnf
  refine Zm (ZZ Ze (List.set s3.2.2 r8.toNat x14) r13.toNat x15) ?_;conv=>rhs;whnf
  exact Zd (ih _)
theorem Z9 {b c d:Int}{m0_0:List Int}:∀r,(ZP b c d m0_0)=some r→evW ctx 103 [(.sl 0 1),(.d (Ze b)),(.d (Ze c)),(.d (Ze d))] [(.arr 1 (List.map Ze m0_0))]=some ((Ze5 b c d m0_0) r):=by
 show ZN _ (fun r rhs=>rhs=some ((Ze5 b c d m0_0) r)) _
 unfold ZP
 rw[ZeK ctx 103 ZAq _ _ rfl rfl]
 conv=>rhs;whnf
 refine Zk rfl rfl fun x0 hx0=>?_;conv=>rhs;whnf
 refine Zg (Zn rfl hx0) ?_;conv=>rhs;whnf
 refine Zk rfl rfl fun x1 hx1=>?_;conv=>rhs;whnf
 refine Zg (Zn rfl hx1) ?_;conv=>rhs;whnf
 refine Zg (Zam rfl hx1) ?_;conv=>rhs;whnf
 refine Zg (Zn rfl hx1) ?_;conv=>rhs;whnf
 refine Zm (ZZ Ze m0_0 b.toNat x0) ?_;conv=>rhs;whnf
 refine Zk rfl rfl fun x2 hx2=>?_;conv=>rhs;whnf
 refine Zg (Zn rfl hx2) ?_;conv=>rhs;whnf
 refine Zm (ZZ Ze (List.set m0_0 b.toNat x0) d.toNat x1) ?_;conv=>rhs;whnf
 refine Zc _ (Zhm _) fun r17 hr17=>?_;conv=>rhs;whnf
 exact Zh rfl
def Zfi (b:Int) (c:Int) (m0_0:List Int):(List Int)→V×Zs
  | r=>((.d (D.tup [])),[(.arr 1 (List.map Ze r))])
def Zet (b:Int) (c:Int) (x0:Int):(List Int)→Ex×List V×Zs
  | r=>(.exit 0,[],[(.arr 1 (List.map Ze r))])
theorem Zhw {b c x0:Int}:∀(s1:Int×(List Int)×Int) (r:List Int),lp (Zbx b c x0) s1=some r→lpW ctx 1 [0,1,6,7,8,9] [] Zzs [(.sl 0 1),(.d (Ze b)),(.d (Ze (w64 (c-b)))),(.ptr 1 0),(.d (D.int .u64 x0)),(.d (Ze s1.1))] [(.arr 1 (List.map Ze s1.2.1)),(.cells [(.d (D.int .u64 s1.2.2))])]=some ((Zet b c x0) r):=by
 refine Zah (Zet b c x0) ?_
 intro s1 rcl ih
 show ZN _ _ (lpW _ _ _ _ _ _ _)
 unfold Zbx
 rw[Zai]
 conv=>rhs;whnf
 refine ZV rfl ?_;conv=>rhs;whnf
 refine Zf rfl ?_ ?_<;>conv=>rhs;whnf
 ·refine Zc _ ZhY fun x2 hx2=>?_;conv=>rhs;whnf
  refine Zf rfl ?_ ?_<;>conv=>rhs;whnf
  ·refine Zk rfl rfl fun x3 hx3=>?_;conv=>rhs;whnf
   refine Zg (Zn rfl hx3) ?_;conv=>rhs;whnf
   refine Zk rfl rfl fun x4 hx4=>?_;conv=>rhs;whnf
   refine Zg (Zn rfl hx4) ?_;conv=>rhs;whnf
   refine Zg (Zam rfl hx4) ?_;conv=>rhs;whnf
   refine Zg (Zn rfl hx4) ?_;conv=>rhs;whnf
   refine Zm (ZZ Ze s1.2.1 s1.1.toNat x3) ?_;conv=>rhs;whnf
   refine Zk rfl rfl fun x5 hx5=>?_;conv=>rhs;whnf
   refine Zg (Zn rfl hx5) ?_;conv=>rhs;whnf
   refine Zm (ZZ Ze (List.set s1.2.1 s1.1.toNat x3) (w64 (b+(w64 ((w64 (u64.wrap (Zi (u64.wrap (Zi (u64.wrap (Zi (u64.wrap (Zi s1.2.2 ^^^ Zi (u64.wrap (s1.2.2*2 ^ 13))).toNat) ^^^ Zi (Int.fdiv (u64.wrap (Zi s1.2.2 ^^^ Zi (u64.wrap (s1.2.2*2 ^ 13))).toNat) (2 ^ 7))).toNat) ^^^ Zi (u64.wrap ((u64.wrap (Zi (u64.wrap (Zi s1.2.2 ^^^ Zi (u64.wrap (s1.2.2*2 ^ 13))).toNat) ^^^ Zi (Int.fdiv (u64.wrap (Zi s1.2.2 ^^^ Zi (u64.wrap (s1.2.2*2 ^ 13))).toNat) (2 ^ 7))).toNat)*2 ^ 17))).toNat) &&& Zi (u64.wrap (x0-1))).toNat))-(w64 (c-b)))))).toNat x4) ?_;conv=>rhs;whnf
   exact Zd (ih _)
  ·refine Zk rfl rfl fun x6 hx6=>?_;conv=>rhs;whnf
   refine Zg (Zn rfl hx6) ?_;conv=>rhs;whnf
   refine Zk rfl rfl fun x7 hx7=>?_;conv=>rhs;whnf
   refine Zg (Zn rfl hx7) ?_;conv=>rhs;whnf
   refine Zg (Zam rfl hx7) ?_;conv=>rhs;whnf
   refine Zg (Zn rfl hx7) ?_;conv=>rhs;whnf
   refine Zm (ZZ Ze s1.2.1 s1.1.toNat x6) ?_;conv=>rhs;whnf
   refine Zk rfl rfl fun x8 hx8=>?_;conv=>rhs;whnf
   refine Zg (Zn rfl hx8) ?_;conv=>rhs;whnf
   refine Zm (ZZ Ze (List.set s1.2.1 s1.1.toNat x6) (w64 (b+(w64 (u64.wrap (Zi (u64.wrap (Zi (u64.wrap (Zi (u64.wrap (Zi s1.2.2 ^^^ Zi (u64.wrap (s1.2.2*2 ^ 13))).toNat) ^^^ Zi (Int.fdiv (u64.wrap (Zi s1.2.2 ^^^ Zi (u64.wrap (s1.2.2*2 ^ 13))).toNat) (2 ^ 7))).toNat) ^^^ Zi (u64.wrap ((u64.wrap (Zi (u64.wrap (Zi s1.2.2 ^^^ Zi (u64.wrap (s1.2.2*2 ^ 13))).toNat) ^^^ Zi (Int.fdiv (u64.wrap (Zi s1.2.2 ^^^ Zi (u64.wrap (s1.2.2*2 ^ 13))).toNat) (2 ^ 7))).toNat)*2 ^ 17))).toNat) &&& Zi (u64.wrap (x0-1))).toNat)))).toNat x7) ?_;conv=>rhs;whnf
   exact Zd (ih _)
 ·exact Zh rfl
theorem Ze2 {b c:Int}{m0_0:List Int}:∀r,(Zbm b c m0_0)=some r→evW ctx 98 [(.sl 0 1),(.d (Ze b)),(.d (Ze c))] [(.arr 1 (List.map Ze m0_0))]=some ((Zfi b c m0_0) r):=by
 show ZN _ (fun r rhs=>rhs=some ((Zfi b c m0_0) r)) _
 unfold Zbm
 rw[ZeK ctx 98 ZEQ _ _ rfl rfl]
 conv=>rhs;whnf
 refine Zf rfl ?_ ?_<;>conv=>rhs;whnf
 ·refine Zq _ ZhE rfl fun x0 hx0=>?_;conv=>rhs;whnf
  refine ZV rfl ?_;conv=>rhs;whnf
  refine Zc _ (Zhw _) fun r9 hr9=>?_;conv=>rhs;whnf
  exact Zh rfl
 ·exact Zh rfl
def Zb (b:Int) (c:Int) (d:Int) (m0_0:List Int):(List Int)→V×Zs
  | r=>((.d (D.tup [])),[(.arr 1 (List.map Ze r))])
def Zgb (rc:Int→Int→Int→(List Int)→Option (List Int)):(List Int)→Ex×List V×Zs
  | r=>(.ret,[],[(.arr 1 (List.map Ze r))])
theorem ZiH {rc:Int→Int→Int→(List Int)→Option (List Int)} (hrc:∀(b:Int) (c:Int) (d:Int) (m0_0:List Int) (r:List Int),rc b c d m0_0=some r→evW ctx 85 [(.sl 0 1),(.d (Ze b)),(.d (Ze c)),(.d (Ze d))] [(.arr 1 (List.map Ze m0_0))]=some ((Zb b c d m0_0) r)):∀(s0:Int×Int×Int×Bool×Bool×(List Int)) (r:List Int),lp (Zb9 rc) s0=some r→lpW ctx 1 [0,1,2,3,8,9] [] ZAl [(.sl 0 1),(.d (Ze s0.1)),(.d (Ze s0.2.1)),(.d (Ze s0.2.2.1)),(.d (D.bool s0.2.2.2.1)),(.d (D.bool s0.2.2.2.2.1))] [(.arr 1 (List.map Ze s0.2.2.2.2.2))]=some ((Zgb rc) r):=by
 refine Zah (Zgb rc) ?_
 intro s0 rcl ih
 show ZN _ _ (lpW _ _ _ _ _ _ _)
 unfold Zb9
 rw[Zai]
 rcases hb:s0.2.2.2.1 with _ | _
 ·refine Zq0 ?_
  rcases hb:s0.2.2.2.2.1 with _ | _
  ·refine Zq0 ?_;conv=>rhs;whnf
   refine Zf rfl ?_ ?_<;>conv=>rhs;whnf
   ·refine Zc _ Zb7 fun x170 hx170=>?_;conv=>rhs;whnf
    exact Zh rfl
   ·refine Zf rfl ?_ ?_<;>conv=>rhs;whnf
    ·refine Zc _ ZcH fun x171 hx171=>?_;conv=>rhs;whnf
     exact Zh rfl
    ·refine Zc _ Ze2 fun x172 hx172=>?_;conv=>rhs;whnf
     refine Zc _ Zce fun x173 hx173=>?_;conv=>rhs;whnf
     refine Zf rfl ?_ ?_<;>conv=>rhs;whnf
     ·refine Zc _ Zcb fun x174 hx174=>?_;conv=>rhs;whnf
      refine Zf rfl ?_ ?_<;>conv=>rhs;whnf
      ·refine Zk rfl rfl fun x175 hx175=>?_;conv=>rhs;whnf
       refine Zg (Zn rfl hx175) ?_;conv=>rhs;whnf
       refine Zk rfl rfl fun x176 hx176=>?_;conv=>rhs;whnf
       refine Zg (Zn rfl hx176) ?_;conv=>rhs;whnf
       refine Zq _ Z5 rfl fun x177 hx177=>?_;conv=>rhs;whnf
       refine Zf rfl ?_ ?_<;>conv=>rhs;whnf
       ·refine Zc _ ZC fun x178 hx178=>?_
        clear hx178
        rcases x178 with x178 | x178
        ·conv=>rhs;whnf
         refine Zbl rfl ?_;conv=>rhs;whnf
         refine ZV rfl ?_;conv=>rhs;whnf
         refine Zf rfl ?_ ?_<;>conv=>rhs;whnf
         ·refine Zf rfl ?_ ?_<;>conv=>rhs;whnf
          ·refine Zc (Zb s0.1 x178.1 (w64 (s0.2.2.1-1)) x178.2) (hrc s0.1 x178.1 (w64 (s0.2.2.1-1)) x178.2) fun x179 hx179=>?_;conv=>rhs;whnf
           exact Zd (ih _)
          ·refine Zc (Zb s0.1 x178.1 (w64 (s0.2.2.1-1)) x178.2) (hrc s0.1 x178.1 (w64 (s0.2.2.1-1)) x178.2) fun x180 hx180=>?_;conv=>rhs;whnf
           exact Zd (ih _)
         ·refine Zf rfl ?_ ?_<;>conv=>rhs;whnf
          ·refine Zc (Zb (w64 (x178.1+1)) s0.2.1 (w64 (s0.2.2.1-1)) x178.2) (hrc (w64 (x178.1+1)) s0.2.1 (w64 (s0.2.2.1-1)) x178.2) fun x181 hx181=>?_;conv=>rhs;whnf
           exact Zd (ih _)
          ·refine Zc (Zb (w64 (x178.1+1)) s0.2.1 (w64 (s0.2.2.1-1)) x178.2) (hrc (w64 (x178.1+1)) s0.2.1 (w64 (s0.2.2.1-1)) x178.2) fun x182 hx182=>?_;conv=>rhs;whnf
           exact Zd (ih _)
        ·conv=>rhs;whnf
         refine ZV rfl ?_;conv=>rhs;whnf
         refine ZV rfl ?_;conv=>rhs;whnf
         refine Zf rfl ?_ ?_<;>conv=>rhs;whnf
         ·refine Zf rfl ?_ ?_<;>conv=>rhs;whnf
          ·refine Zc (Zb s0.1 x178.1 (w64 (s0.2.2.1-1)) x178.2) (hrc s0.1 x178.1 (w64 (s0.2.2.1-1)) x178.2) fun x183 hx183=>?_;conv=>rhs;whnf
           exact Zd (ih _)
          ·refine Zc (Zb s0.1 x178.1 (w64 (s0.2.2.1-1)) x178.2) (hrc s0.1 x178.1 (w64 (s0.2.2.1-1)) x178.2) fun x184 hx184=>?_;conv=>rhs;whnf
           exact Zd (ih _)
         ·refine Zf rfl ?_ ?_<;>conv=>rhs;whnf
          ·refine Zc (Zb (w64 (x178.1+1)) s0.2.1 (w64 (s0.2.2.1-1)) x178.2) (hrc (w64 (x178.1+1)) s0.2.1 (w64 (s0.2.2.1-1)) x178.2) fun x185 hx185=>?_;conv=>rhs;whnf
           exact Zd (ih _)
          ·refine Zc (Zb (w64 (x178.1+1)) s0.2.1 (w64 (s0.2.2.1-1)) x178.2) (hrc (w64 (x178.1+1)) s0.2.1 (w64 (s0.2.2.1-1)) x178.2) fun x186 hx186=>?_;conv=>rhs;whnf
           exact Zd (ih _)
       ·refine Zc _ Z9 fun x187 hx187=>?_;conv=>rhs;whnf
        exact Zd (ih _)
      ·refine Zc _ ZC fun x188 hx188=>?_
       clear hx188
       rcases x188 with x188 | x188
       ·conv=>rhs;whnf
        refine Zbl rfl ?_;conv=>rhs;whnf
        refine ZV rfl ?_;conv=>rhs;whnf
        refine Zf rfl ?_ ?_<;>conv=>rhs;whnf
        ·refine Zf rfl ?_ ?_<;>conv=>rhs;whnf
         ·refine Zc (Zb s0.1 x188.1 (w64 (s0.2.2.1-1)) x188.2) (hrc s0.1 x188.1 (w64 (s0.2.2.1-1)) x188.2) fun x189 hx189=>?_;conv=>rhs;whnf
          exact Zd (ih _)
         ·refine Zc (Zb s0.1 x188.1 (w64 (s0.2.2.1-1)) x188.2) (hrc s0.1 x188.1 (w64 (s0.2.2.1-1)) x188.2) fun x190 hx190=>?_;conv=>rhs;whnf
          exact Zd (ih _)
        ·refine Zf rfl ?_ ?_<;>conv=>rhs;whnf
         ·refine Zc (Zb (w64 (x188.1+1)) s0.2.1 (w64 (s0.2.2.1-1)) x188.2) (hrc (w64 (x188.1+1)) s0.2.1 (w64 (s0.2.2.1-1)) x188.2) fun x191 hx191=>?_;conv=>rhs;whnf
          exact Zd (ih _)
         ·refine Zc (Zb (w64 (x188.1+1)) s0.2.1 (w64 (s0.2.2.1-1)) x188.2) (hrc (w64 (x188.1+1)) s0.2.1 (w64 (s0.2.2.1-1)) x188.2) fun x192 hx192=>?_;conv=>rhs;whnf
          exact Zd (ih _)
       ·conv=>rhs;whnf
        refine ZV rfl ?_;conv=>rhs;whnf
        refine ZV rfl ?_;conv=>rhs;whnf
        refine Zf rfl ?_ ?_<;>conv=>rhs;whnf
        ·refine Zf rfl ?_ ?_<;>conv=>rhs;whnf
         ·refine Zc (Zb s0.1 x188.1 (w64 (s0.2.2.1-1)) x188.2) (hrc s0.1 x188.1 (w64 (s0.2.2.1-1)) x188.2) fun x193 hx193=>?_;conv=>rhs;whnf
          exact Zd (ih _)
         ·refine Zc (Zb s0.1 x188.1 (w64 (s0.2.2.1-1)) x188.2) (hrc s0.1 x188.1 (w64 (s0.2.2.1-1)) x188.2) fun x194 hx194=>?_;conv=>rhs;whnf
          exact Zd (ih _)
        ·refine Zf rfl ?_ ?_<;>conv=>rhs;whnf
         ·refine Zc (Zb (w64 (x188.1+1)) s0.2.1 (w64 (s0.2.2.1-1)) x188.2) (hrc (w64 (x188.1+1)) s0.2.1 (w64 (s0.2.2.1-1)) x188.2) fun x195 hx195=>?_;conv=>rhs;whnf
          exact Zd (ih _)
         ·refine Zc (Zb (w64 (x188.1+1)) s0.2.1 (w64 (s0.2.2.1-1)) x188.2) (hrc (w64 (x188.1+1)) s0.2.1 (w64 (s0.2.2.1-1)) x188.2) fun x196 hx196=>?_;conv=>rhs;whnf
          exact Zd (ih _)
     ·refine Zf rfl ?_ ?_<;>conv=>rhs;whnf
      ·refine Zk rfl rfl fun x197 hx197=>?_;conv=>rhs;whnf
       refine Zg (Zn rfl hx197) ?_;conv=>rhs;whnf
       refine Zk rfl rfl fun x198 hx198=>?_;conv=>rhs;whnf
       refine Zg (Zn rfl hx198) ?_;conv=>rhs;whnf
       refine Zq _ Z5 rfl fun x199 hx199=>?_;conv=>rhs;whnf
       refine Zf rfl ?_ ?_<;>conv=>rhs;whnf
       ·refine Zc _ ZC fun x200 hx200=>?_
        clear hx200
        rcases x200 with x200 | x200
        ·conv=>rhs;whnf
         refine Zbl rfl ?_;conv=>rhs;whnf
         refine ZV rfl ?_;conv=>rhs;whnf
         refine Zf rfl ?_ ?_<;>conv=>rhs;whnf
         ·refine Zf rfl ?_ ?_<;>conv=>rhs;whnf
          ·refine Zc (Zb s0.1 x200.1 (w64 (s0.2.2.1-1)) x200.2) (hrc s0.1 x200.1 (w64 (s0.2.2.1-1)) x200.2) fun x201 hx201=>?_;conv=>rhs;whnf
           exact Zd (ih _)
          ·refine Zc (Zb s0.1 x200.1 (w64 (s0.2.2.1-1)) x200.2) (hrc s0.1 x200.1 (w64 (s0.2.2.1-1)) x200.2) fun x202 hx202=>?_;conv=>rhs;whnf
           exact Zd (ih _)
         ·refine Zf rfl ?_ ?_<;>conv=>rhs;whnf
          ·refine Zc (Zb (w64 (x200.1+1)) s0.2.1 (w64 (s0.2.2.1-1)) x200.2) (hrc (w64 (x200.1+1)) s0.2.1 (w64 (s0.2.2.1-1)) x200.2) fun x203 hx203=>?_;conv=>rhs;whnf
           exact Zd (ih _)
          ·refine Zc (Zb (w64 (x200.1+1)) s0.2.1 (w64 (s0.2.2.1-1)) x200.2) (hrc (w64 (x200.1+1)) s0.2.1 (w64 (s0.2.2.1-1)) x200.2) fun x204 hx204=>?_;conv=>rhs;whnf
           exact Zd (ih _)
        ·conv=>rhs;whnf
         refine ZV rfl ?_;conv=>rhs;whnf
         refine ZV rfl ?_;conv=>rhs;whnf
         refine Zf rfl ?_ ?_<;>conv=>rhs;whnf
         ·refine Zf rfl ?_ ?_<;>conv=>rhs;whnf
          ·refine Zc (Zb s0.1 x200.1 (w64 (s0.2.2.1-1)) x200.2) (hrc s0.1 x200.1 (w64 (s0.2.2.1-1)) x200.2) fun x205 hx205=>?_;conv=>rhs;whnf
           exact Zd (ih _)
          ·refine Zc (Zb s0.1 x200.1 (w64 (s0.2.2.1-1)) x200.2) (hrc s0.1 x200.1 (w64 (s0.2.2.1-1)) x200.2) fun x206 hx206=>?_;conv=>rhs;whnf
           exact Zd (ih _)
         ·refine Zf rfl ?_ ?_<;>conv=>rhs;whnf
          ·refine Zc (Zb (w64 (x200.1+1)) s0.2.1 (w64 (s0.2.2.1-1)) x200.2) (hrc (w64 (x200.1+1)) s0.2.1 (w64 (s0.2.2.1-1)) x200.2) fun x207 hx207=>?_;conv=>rhs;whnf
           exact Zd (ih _)
          ·refine Zc (Zb (w64 (x200.1+1)) s0.2.1 (w64 (s0.2.2.1-1)) x200.2) (hrc (w64 (x200.1+1)) s0.2.1 (w64 (s0.2.2.1-1)) x200.2) fun x208 hx208=>?_;conv=>rhs;whnf
           exact Zd (ih _)
       ·refine Zc _ Z9 fun x209 hx209=>?_;conv=>rhs;whnf
        exact Zd (ih _)
      ·refine Zc _ ZC fun x210 hx210=>?_
       clear hx210
       rcases x210 with x210 | x210
       ·conv=>rhs;whnf
        refine Zbl rfl ?_;conv=>rhs;whnf
        refine ZV rfl ?_;conv=>rhs;whnf
        refine Zf rfl ?_ ?_<;>conv=>rhs;whnf
        ·refine Zf rfl ?_ ?_<;>conv=>rhs;whnf
         ·refine Zc (Zb s0.1 x210.1 (w64 (s0.2.2.1-1)) x210.2) (hrc s0.1 x210.1 (w64 (s0.2.2.1-1)) x210.2) fun x211 hx211=>?_;conv=>rhs;whnf
          exact Zd (ih _)
         ·refine Zc (Zb s0.1 x210.1 (w64 (s0.2.2.1-1)) x210.2) (hrc s0.1 x210.1 (w64 (s0.2.2.1-1)) x210.2) fun x212 hx212=>?_;conv=>rhs;whnf
          exact Zd (ih _)
        ·refine Zf rfl ?_ ?_<;>conv=>rhs;whnf
         ·refine Zc (Zb (w64 (x210.1+1)) s0.2.1 (w64 (s0.2.2.1-1)) x210.2) (hrc (w64 (x210.1+1)) s0.2.1 (w64 (s0.2.2.1-1)) x210.2) fun x213 hx213=>?_;conv=>rhs;whnf
          exact Zd (ih _)
         ·refine Zc (Zb (w64 (x210.1+1)) s0.2.1 (w64 (s0.2.2.1-1)) x210.2) (hrc (w64 (x210.1+1)) s0.2.1 (w64 (s0.2.2.1-1)) x210.2) fun x214 hx214=>?_;conv=>rhs;whnf
          exact Zd (ih _)
       ·conv=>rhs;whnf
        refine ZV rfl ?_;conv=>rhs;whnf
        refine ZV rfl ?_;conv=>rhs;whnf
        refine Zf rfl ?_ ?_<;>conv=>rhs;whnf
        ·refine Zf rfl ?_ ?_<;>conv=>rhs;whnf
         ·refine Zc (Zb s0.1 x210.1 (w64 (s0.2.2.1-1)) x210.2) (hrc s0.1 x210.1 (w64 (s0.2.2.1-1)) x210.2) fun x215 hx215=>?_;conv=>rhs;whnf
          exact Zd (ih _)
         ·refine Zc (Zb s0.1 x210.1 (w64 (s0.2.2.1-1)) x210.2) (hrc s0.1 x210.1 (w64 (s0.2.2.1-1)) x210.2) fun x216 hx216=>?_;conv=>rhs;whnf
          exact Zd (ih _)
        ·refine Zf rfl ?_ ?_<;>conv=>rhs;whnf
         ·refine Zc (Zb (w64 (x210.1+1)) s0.2.1 (w64 (s0.2.2.1-1)) x210.2) (hrc (w64 (x210.1+1)) s0.2.1 (w64 (s0.2.2.1-1)) x210.2) fun x217 hx217=>?_;conv=>rhs;whnf
          exact Zd (ih _)
         ·refine Zc (Zb (w64 (x210.1+1)) s0.2.1 (w64 (s0.2.2.1-1)) x210.2) (hrc (w64 (x210.1+1)) s0.2.1 (w64 (s0.2.2.1-1)) x210.2) fun x218 hx218=>?_;conv=>rhs;whnf
          exact Zd (ih _)
  ·refine Zqx ?_;conv=>rhs;whnf
   refine Zf rfl ?_ ?_<;>conv=>rhs;whnf
   ·refine Zc _ Zb7 fun x121 hx121=>?_;conv=>rhs;whnf
    exact Zh rfl
   ·refine Zf rfl ?_ ?_<;>conv=>rhs;whnf
    ·refine Zc _ ZcH fun x122 hx122=>?_;conv=>rhs;whnf
     exact Zh rfl
    ·refine Zc _ Ze2 fun x123 hx123=>?_;conv=>rhs;whnf
     refine Zc _ Zce fun x124 hx124=>?_;conv=>rhs;whnf
     refine Zf rfl ?_ ?_<;>conv=>rhs;whnf
     ·refine Zc _ Zcb fun x125 hx125=>?_;conv=>rhs;whnf
      refine Zf rfl ?_ ?_<;>conv=>rhs;whnf
      ·refine Zk rfl rfl fun x126 hx126=>?_;conv=>rhs;whnf
       refine Zg (Zn rfl hx126) ?_;conv=>rhs;whnf
       refine Zk rfl rfl fun x127 hx127=>?_;conv=>rhs;whnf
       refine Zg (Zn rfl hx127) ?_;conv=>rhs;whnf
       refine Zq _ Z5 rfl fun x128 hx128=>?_;conv=>rhs;whnf
       refine Zf rfl ?_ ?_<;>conv=>rhs;whnf
       ·refine Zc _ ZC fun x129 hx129=>?_
        clear hx129
        rcases x129 with x129 | x129
        ·conv=>rhs;whnf
         refine Zbl rfl ?_;conv=>rhs;whnf
         refine ZV rfl ?_;conv=>rhs;whnf
         refine Zf rfl ?_ ?_<;>conv=>rhs;whnf
         ·refine Zf rfl ?_ ?_<;>conv=>rhs;whnf
          ·refine Zc (Zb s0.1 x129.1 (w64 (s0.2.2.1-1)) x129.2) (hrc s0.1 x129.1 (w64 (s0.2.2.1-1)) x129.2) fun x130 hx130=>?_;conv=>rhs;whnf
           exact Zd (ih _)
          ·refine Zc (Zb s0.1 x129.1 (w64 (s0.2.2.1-1)) x129.2) (hrc s0.1 x129.1 (w64 (s0.2.2.1-1)) x129.2) fun x131 hx131=>?_;conv=>rhs;whnf
           exact Zd (ih _)
         ·refine Zf rfl ?_ ?_<;>conv=>rhs;whnf
          ·refine Zc (Zb (w64 (x129.1+1)) s0.2.1 (w64 (s0.2.2.1-1)) x129.2) (hrc (w64 (x129.1+1)) s0.2.1 (w64 (s0.2.2.1-1)) x129.2) fun x132 hx132=>?_;conv=>rhs;whnf
           exact Zd (ih _)
          ·refine Zc (Zb (w64 (x129.1+1)) s0.2.1 (w64 (s0.2.2.1-1)) x129.2) (hrc (w64 (x129.1+1)) s0.2.1 (w64 (s0.2.2.1-1)) x129.2) fun x133 hx133=>?_;conv=>rhs;whnf
           exact Zd (ih _)
        ·conv=>rhs;whnf
         refine ZV rfl ?_;conv=>rhs;whnf
         refine ZV rfl ?_;conv=>rhs;whnf
         refine Zf rfl ?_ ?_<;>conv=>rhs;whnf
         ·refine Zf rfl ?_ ?_<;>conv=>rhs;whnf
          ·refine Zc (Zb s0.1 x129.1 (w64 (s0.2.2.1-1)) x129.2) (hrc s0.1 x129.1 (w64 (s0.2.2.1-1)) x129.2) fun x134 hx134=>?_;conv=>rhs;whnf
           exact Zd (ih _)
          ·refine Zc (Zb s0.1 x129.1 (w64 (s0.2.2.1-1)) x129.2) (hrc s0.1 x129.1 (w64 (s0.2.2.1-1)) x129.2) fun x135 hx135=>?_;conv=>rhs;whnf
           exact Zd (ih _)
         ·refine Zf rfl ?_ ?_<;>conv=>rhs;whnf
          ·refine Zc (Zb (w64 (x129.1+1)) s0.2.1 (w64 (s0.2.2.1-1)) x129.2) (hrc (w64 (x129.1+1)) s0.2.1 (w64 (s0.2.2.1-1)) x129.2) fun x136 hx136=>?_;conv=>rhs;whnf
           exact Zd (ih _)
          ·refine Zc (Zb (w64 (x129.1+1)) s0.2.1 (w64 (s0.2.2.1-1)) x129.2) (hrc (w64 (x129.1+1)) s0.2.1 (w64 (s0.2.2.1-1)) x129.2) fun x137 hx137=>?_;conv=>rhs;whnf
           exact Zd (ih _)
       ·refine Zc _ Z9 fun x138 hx138=>?_;conv=>rhs;whnf
        exact Zd (ih _)
      ·refine Zc _ ZC fun x139 hx139=>?_
       clear hx139
       rcases x139 with x139 | x139
       ·conv=>rhs;whnf
        refine Zbl rfl ?_;conv=>rhs;whnf
        refine ZV rfl ?_;conv=>rhs;whnf
        refine Zf rfl ?_ ?_<;>conv=>rhs;whnf
        ·refine Zf rfl ?_ ?_<;>conv=>rhs;whnf
         ·refine Zc (Zb s0.1 x139.1 (w64 (s0.2.2.1-1)) x139.2) (hrc s0.1 x139.1 (w64 (s0.2.2.1-1)) x139.2) fun x140 hx140=>?_;conv=>rhs;whnf
          exact Zd (ih _)
         ·refine Zc (Zb s0.1 x139.1 (w64 (s0.2.2.1-1)) x139.2) (hrc s0.1 x139.1 (w64 (s0.2.2.1-1)) x139.2) fun x141 hx141=>?_;conv=>rhs;whnf
          exact Zd (ih _)
        ·refine Zf rfl ?_ ?_<;>conv=>rhs;whnf
         ·refine Zc (Zb (w64 (x139.1+1)) s0.2.1 (w64 (s0.2.2.1-1)) x139.2) (hrc (w64 (x139.1+1)) s0.2.1 (w64 (s0.2.2.1-1)) x139.2) fun x142 hx142=>?_;conv=>rhs;whnf
          exact Zd (ih _)
         ·refine Zc (Zb (w64 (x139.1+1)) s0.2.1 (w64 (s0.2.2.1-1)) x139.2) (hrc (w64 (x139.1+1)) s0.2.1 (w64 (s0.2.2.1-1)) x139.2) fun x143 hx143=>?_;conv=>rhs;whnf
          exact Zd (ih _)
       ·conv=>rhs;whnf
        refine ZV rfl ?_;conv=>rhs;whnf
        refine ZV rfl ?_;conv=>rhs;whnf
        refine Zf rfl ?_ ?_<;>conv=>rhs;whnf
        ·refine Zf rfl ?_ ?_<;>conv=>rhs;whnf
         ·refine Zc (Zb s0.1 x139.1 (w64 (s0.2.2.1-1)) x139.2) (hrc s0.1 x139.1 (w64 (s0.2.2.1-1)) x139.2) fun x144 hx144=>?_;conv=>rhs;whnf
          exact Zd (ih _)
         ·refine Zc (Zb s0.1 x139.1 (w64 (s0.2.2.1-1)) x139.2) (hrc s0.1 x139.1 (w64 (s0.2.2.1-1)) x139.2) fun x145 hx145=>?_;conv=>rhs;whnf
          exact Zd (ih _)
        ·refine Zf rfl ?_ ?_<;>conv=>rhs;whnf
         ·refine Zc (Zb (w64 (x139.1+1)) s0.2.1 (w64 (s0.2.2.1-1)) x139.2) (hrc (w64 (x139.1+1)) s0.2.1 (w64 (s0.2.2.1-1)) x139.2) fun x146 hx146=>?_;conv=>rhs;whnf
          exact Zd (ih _)
         ·refine Zc (Zb (w64 (x139.1+1)) s0.2.1 (w64 (s0.2.2.1-1)) x139.2) (hrc (w64 (x139.1+1)) s0.2.1 (w64 (s0.2.2.1-1)) x139.2) fun x147 hx147=>?_;conv=>rhs;whnf
          exact Zd (ih _)
     ·refine Zf rfl ?_ ?_<;>conv=>rhs;whnf
      ·refine Zk rfl rfl fun x148 hx148=>?_;conv=>rhs;whnf
       refine Zg (Zn rfl hx148) ?_;conv=>rhs;whnf
       refine Zk rfl rfl fun x149 hx149=>?_;conv=>rhs;whnf
       refine Zg (Zn rfl hx149) ?_;conv=>rhs;whnf
       refine Zq _ Z5 rfl fun x150 hx150=>?_;conv=>rhs;whnf
       refine Zf rfl ?_ ?_<;>conv=>rhs;whnf
       ·refine Zc _ ZC fun x151 hx151=>?_
        clear hx151
        rcases x151 with x151 | x151
        ·conv=>rhs;whnf
         refine Zbl rfl ?_;conv=>rhs;whnf
         refine ZV rfl ?_;conv=>rhs;whnf
         refine Zf rfl ?_ ?_<;>conv=>rhs;whnf
         ·refine Zf rfl ?_ ?_<;>conv=>rhs;whnf
          ·refine Zc (Zb s0.1 x151.1 (w64 (s0.2.2.1-1)) x151.2) (hrc s0.1 x151.1 (w64 (s0.2.2.1-1)) x151.2) fun x152 hx152=>?_;conv=>rhs;whnf
           exact Zd (ih _)
          ·refine Zc (Zb s0.1 x151.1 (w64 (s0.2.2.1-1)) x151.2) (hrc s0.1 x151.1 (w64 (s0.2.2.1-1)) x151.2) fun x153 hx153=>?_;conv=>rhs;whnf
           exact Zd (ih _)
         ·refine Zf rfl ?_ ?_<;>conv=>rhs;whnf
          ·refine Zc (Zb (w64 (x151.1+1)) s0.2.1 (w64 (s0.2.2.1-1)) x151.2) (hrc (w64 (x151.1+1)) s0.2.1 (w64 (s0.2.2.1-1)) x151.2) fun x154 hx154=>?_;conv=>rhs;whnf
           exact Zd (ih _)
          ·refine Zc (Zb (w64 (x151.1+1)) s0.2.1 (w64 (s0.2.2.1-1)) x151.2) (hrc (w64 (x151.1+1)) s0.2.1 (w64 (s0.2.2.1-1)) x151.2) fun x155 hx155=>?_;conv=>rhs;whnf
           exact Zd (ih _)
        ·conv=>rhs;whnf
         refine ZV rfl ?_;conv=>rhs;whnf
         refine ZV rfl ?_;conv=>rhs;whnf
         refine Zf rfl ?_ ?_<;>conv=>rhs;whnf
         ·refine Zf rfl ?_ ?_<;>conv=>rhs;whnf
          ·refine Zc (Zb s0.1 x151.1 (w64 (s0.2.2.1-1)) x151.2) (hrc s0.1 x151.1 (w64 (s0.2.2.1-1)) x151.2) fun x156 hx156=>?_;conv=>rhs;whnf
           exact Zd (ih _)
          ·refine Zc (Zb s0.1 x151.1 (w64 (s0.2.2.1-1)) x151.2) (hrc s0.1 x151.1 (w64 (s0.2.2.1-1)) x151.2) fun x157 hx157=>?_;conv=>rhs;whnf
           exact Zd (ih _)
         ·refine Zf rfl ?_ ?_<;>conv=>rhs;whnf
          ·refine Zc (Zb (w64 (x151.1+1)) s0.2.1 (w64 (s0.2.2.1-1)) x151.2) (hrc (w64 (x151.1+1)) s0.2.1 (w64 (s0.2.2.1-1)) x151.2) fun x158 hx158=>?_;conv=>rhs;whnf
           exact Zd (ih _)
          ·refine Zc (Zb (w64 (x151.1+1)) s0.2.1 (w64 (s0.2.2.1-1)) x151.2) (hrc (w64 (x151.1+1)) s0.2.1 (w64 (s0.2.2.1-1)) x151.2) fun x159 hx159=>?_;conv=>rhs;whnf
           exact Zd (ih _)
       ·refine Zc _ Z9 fun x160 hx160=>?_;conv=>rhs;whnf
        exact Zd (ih _)
      ·refine Zc _ ZC fun x161 hx161=>?_
       clear hx161
       rcases x161 with x161 | x161
       ·conv=>rhs;whnf
        refine Zbl rfl ?_;conv=>rhs;whnf
        refine ZV rfl ?_;conv=>rhs;whnf
        refine Zf rfl ?_ ?_<;>conv=>rhs;whnf
        ·refine Zf rfl ?_ ?_<;>conv=>rhs;whnf
         ·refine Zc (Zb s0.1 x161.1 (w64 (s0.2.2.1-1)) x161.2) (hrc s0.1 x161.1 (w64 (s0.2.2.1-1)) x161.2) fun x162 hx162=>?_;conv=>rhs;whnf
          exact Zd (ih _)
         ·refine Zc (Zb s0.1 x161.1 (w64 (s0.2.2.1-1)) x161.2) (hrc s0.1 x161.1 (w64 (s0.2.2.1-1)) x161.2) fun x163 hx163=>?_;conv=>rhs;whnf
          exact Zd (ih _)
        ·refine Zf rfl ?_ ?_<;>conv=>rhs;whnf
         ·refine Zc (Zb (w64 (x161.1+1)) s0.2.1 (w64 (s0.2.2.1-1)) x161.2) (hrc (w64 (x161.1+1)) s0.2.1 (w64 (s0.2.2.1-1)) x161.2) fun x164 hx164=>?_;conv=>rhs;whnf
          exact Zd (ih _)
         ·refine Zc (Zb (w64 (x161.1+1)) s0.2.1 (w64 (s0.2.2.1-1)) x161.2) (hrc (w64 (x161.1+1)) s0.2.1 (w64 (s0.2.2.1-1)) x161.2) fun x165 hx165=>?_;conv=>rhs;whnf
          exact Zd (ih _)
       ·conv=>rhs;whnf
        refine ZV rfl ?_;conv=>rhs;whnf
        refine ZV rfl ?_;conv=>rhs;whnf
        refine Zf rfl ?_ ?_<;>conv=>rhs;whnf
        ·refine Zf rfl ?_ ?_<;>conv=>rhs;whnf
         ·refine Zc (Zb s0.1 x161.1 (w64 (s0.2.2.1-1)) x161.2) (hrc s0.1 x161.1 (w64 (s0.2.2.1-1)) x161.2) fun x166 hx166=>?_;conv=>rhs;whnf
          exact Zd (ih _)
         ·refine Zc (Zb s0.1 x161.1 (w64 (s0.2.2.1-1)) x161.2) (hrc s0.1 x161.1 (w64 (s0.2.2.1-1)) x161.2) fun x167 hx167=>?_;conv=>rhs;whnf
          exact Zd (ih _)
        ·refine Zf rfl ?_ ?_<;>conv=>rhs;whnf
         ·refine Zc (Zb (w64 (x161.1+1)) s0.2.1 (w64 (s0.2.2.1-1)) x161.2) (hrc (w64 (x161.1+1)) s0.2.1 (w64 (s0.2.2.1-1)) x161.2) fun x168 hx168=>?_;conv=>rhs;whnf
          exact Zd (ih _)
         ·refine Zc (Zb (w64 (x161.1+1)) s0.2.1 (w64 (s0.2.2.1-1)) x161.2) (hrc (w64 (x161.1+1)) s0.2.1 (w64 (s0.2.2.1-1)) x161.2) fun x169 hx169=>?_;conv=>rhs;whnf
          exact Zd (ih _)
 ·refine Zqx ?_
  rcases hb:s0.2.2.2.2.1 with _ | _
  ·refine Zq0 ?_;conv=>rhs;whnf
   refine Zf rfl ?_ ?_<;>conv=>rhs;whnf
   ·refine Zc _ Zb7 fun x73 hx73=>?_;conv=>rhs;whnf
    exact Zh rfl
   ·refine Zf rfl ?_ ?_<;>conv=>rhs;whnf
    ·refine Zc _ ZcH fun x74 hx74=>?_;conv=>rhs;whnf
     exact Zh rfl
    ·refine Zc _ Zce fun x75 hx75=>?_;conv=>rhs;whnf
     refine Zf rfl ?_ ?_<;>conv=>rhs;whnf
     ·refine Zc _ Zcb fun x76 hx76=>?_;conv=>rhs;whnf
      refine Zf rfl ?_ ?_<;>conv=>rhs;whnf
      ·refine Zk rfl rfl fun x77 hx77=>?_;conv=>rhs;whnf
       refine Zg (Zn rfl hx77) ?_;conv=>rhs;whnf
       refine Zk rfl rfl fun x78 hx78=>?_;conv=>rhs;whnf
       refine Zg (Zn rfl hx78) ?_;conv=>rhs;whnf
       refine Zq _ Z5 rfl fun x79 hx79=>?_;conv=>rhs;whnf
       refine Zf rfl ?_ ?_<;>conv=>rhs;whnf
       ·refine Zc _ ZC fun x80 hx80=>?_
        clear hx80
        rcases x80 with x80 | x80
        ·conv=>rhs;whnf
         refine Zbl rfl ?_;conv=>rhs;whnf
         refine ZV rfl ?_;conv=>rhs;whnf
         refine Zf rfl ?_ ?_<;>conv=>rhs;whnf
         ·refine Zf rfl ?_ ?_<;>conv=>rhs;whnf
          ·refine Zc (Zb s0.1 x80.1 s0.2.2.1 x80.2) (hrc s0.1 x80.1 s0.2.2.1 x80.2) fun x81 hx81=>?_;conv=>rhs;whnf
           exact Zd (ih _)
          ·refine Zc (Zb s0.1 x80.1 s0.2.2.1 x80.2) (hrc s0.1 x80.1 s0.2.2.1 x80.2) fun x82 hx82=>?_;conv=>rhs;whnf
           exact Zd (ih _)
         ·refine Zf rfl ?_ ?_<;>conv=>rhs;whnf
          ·refine Zc (Zb (w64 (x80.1+1)) s0.2.1 s0.2.2.1 x80.2) (hrc (w64 (x80.1+1)) s0.2.1 s0.2.2.1 x80.2) fun x83 hx83=>?_;conv=>rhs;whnf
           exact Zd (ih _)
          ·refine Zc (Zb (w64 (x80.1+1)) s0.2.1 s0.2.2.1 x80.2) (hrc (w64 (x80.1+1)) s0.2.1 s0.2.2.1 x80.2) fun x84 hx84=>?_;conv=>rhs;whnf
           exact Zd (ih _)
        ·conv=>rhs;whnf
         refine ZV rfl ?_;conv=>rhs;whnf
         refine ZV rfl ?_;conv=>rhs;whnf
         refine Zf rfl ?_ ?_<;>conv=>rhs;whnf
         ·refine Zf rfl ?_ ?_<;>conv=>rhs;whnf
          ·refine Zc (Zb s0.1 x80.1 s0.2.2.1 x80.2) (hrc s0.1 x80.1 s0.2.2.1 x80.2) fun x85 hx85=>?_;conv=>rhs;whnf
           exact Zd (ih _)
          ·refine Zc (Zb s0.1 x80.1 s0.2.2.1 x80.2) (hrc s0.1 x80.1 s0.2.2.1 x80.2) fun x86 hx86=>?_;conv=>rhs;whnf
           exact Zd (ih _)
         ·refine Zf rfl ?_ ?_<;>conv=>rhs;whnf
          ·refine Zc (Zb (w64 (x80.1+1)) s0.2.1 s0.2.2.1 x80.2) (hrc (w64 (x80.1+1)) s0.2.1 s0.2.2.1 x80.2) fun x87 hx87=>?_;conv=>rhs;whnf
           exact Zd (ih _)
          ·refine Zc (Zb (w64 (x80.1+1)) s0.2.1 s0.2.2.1 x80.2) (hrc (w64 (x80.1+1)) s0.2.1 s0.2.2.1 x80.2) fun x88 hx88=>?_;conv=>rhs;whnf
           exact Zd (ih _)
       ·refine Zc _ Z9 fun x89 hx89=>?_;conv=>rhs;whnf
        exact Zd (ih _)
      ·refine Zc _ ZC fun x90 hx90=>?_
       clear hx90
       rcases x90 with x90 | x90
       ·conv=>rhs;whnf
        refine Zbl rfl ?_;conv=>rhs;whnf
        refine ZV rfl ?_;conv=>rhs;whnf
        refine Zf rfl ?_ ?_<;>conv=>rhs;whnf
        ·refine Zf rfl ?_ ?_<;>conv=>rhs;whnf
         ·refine Zc (Zb s0.1 x90.1 s0.2.2.1 x90.2) (hrc s0.1 x90.1 s0.2.2.1 x90.2) fun x91 hx91=>?_;conv=>rhs;whnf
          exact Zd (ih _)
         ·refine Zc (Zb s0.1 x90.1 s0.2.2.1 x90.2) (hrc s0.1 x90.1 s0.2.2.1 x90.2) fun x92 hx92=>?_;conv=>rhs;whnf
          exact Zd (ih _)
        ·refine Zf rfl ?_ ?_<;>conv=>rhs;whnf
         ·refine Zc (Zb (w64 (x90.1+1)) s0.2.1 s0.2.2.1 x90.2) (hrc (w64 (x90.1+1)) s0.2.1 s0.2.2.1 x90.2) fun x93 hx93=>?_;conv=>rhs;whnf
          exact Zd (ih _)
         ·refine Zc (Zb (w64 (x90.1+1)) s0.2.1 s0.2.2.1 x90.2) (hrc (w64 (x90.1+1)) s0.2.1 s0.2.2.1 x90.2) fun x94 hx94=>?_;conv=>rhs;whnf
          exact Zd (ih _)
       ·conv=>rhs;whnf
        refine ZV rfl ?_;conv=>rhs;whnf
        refine ZV rfl ?_;conv=>rhs;whnf
        refine Zf rfl ?_ ?_<;>conv=>rhs;whnf
        ·refine Zf rfl ?_ ?_<;>conv=>rhs;whnf
         ·refine Zc (Zb s0.1 x90.1 s0.2.2.1 x90.2) (hrc s0.1 x90.1 s0.2.2.1 x90.2) fun x95 hx95=>?_;conv=>rhs;whnf
          exact Zd (ih _)
         ·refine Zc (Zb s0.1 x90.1 s0.2.2.1 x90.2) (hrc s0.1 x90.1 s0.2.2.1 x90.2) fun x96 hx96=>?_;conv=>rhs;whnf
          exact Zd (ih _)
        ·refine Zf rfl ?_ ?_<;>conv=>rhs;whnf
         ·refine Zc (Zb (w64 (x90.1+1)) s0.2.1 s0.2.2.1 x90.2) (hrc (w64 (x90.1+1)) s0.2.1 s0.2.2.1 x90.2) fun x97 hx97=>?_;conv=>rhs;whnf
          exact Zd (ih _)
         ·refine Zc (Zb (w64 (x90.1+1)) s0.2.1 s0.2.2.1 x90.2) (hrc (w64 (x90.1+1)) s0.2.1 s0.2.2.1 x90.2) fun x98 hx98=>?_;conv=>rhs;whnf
          exact Zd (ih _)
     ·refine Zf rfl ?_ ?_<;>conv=>rhs;whnf
      ·refine Zk rfl rfl fun x99 hx99=>?_;conv=>rhs;whnf
       refine Zg (Zn rfl hx99) ?_;conv=>rhs;whnf
       refine Zk rfl rfl fun x100 hx100=>?_;conv=>rhs;whnf
       refine Zg (Zn rfl hx100) ?_;conv=>rhs;whnf
       refine Zq _ Z5 rfl fun x101 hx101=>?_;conv=>rhs;whnf
       refine Zf rfl ?_ ?_<;>conv=>rhs;whnf
       ·refine Zc _ ZC fun x102 hx102=>?_
        clear hx102
        rcases x102 with x102 | x102
        ·conv=>rhs;whnf
         refine Zbl rfl ?_;conv=>rhs;whnf
         refine ZV rfl ?_;conv=>rhs;whnf
         refine Zf rfl ?_ ?_<;>conv=>rhs;whnf
         ·refine Zf rfl ?_ ?_<;>conv=>rhs;whnf
          ·refine Zc (Zb s0.1 x102.1 s0.2.2.1 x102.2) (hrc s0.1 x102.1 s0.2.2.1 x102.2) fun x103 hx103=>?_;conv=>rhs;whnf
           exact Zd (ih _)
          ·refine Zc (Zb s0.1 x102.1 s0.2.2.1 x102.2) (hrc s0.1 x102.1 s0.2.2.1 x102.2) fun x104 hx104=>?_;conv=>rhs;whnf
           exact Zd (ih _)
         ·refine Zf rfl ?_ ?_<;>conv=>rhs;whnf
          ·refine Zc (Zb (w64 (x102.1+1)) s0.2.1 s0.2.2.1 x102.2) (hrc (w64 (x102.1+1)) s0.2.1 s0.2.2.1 x102.2) fun x105 hx105=>?_;conv=>rhs;whnf
           exact Zd (ih _)
          ·refine Zc (Zb (w64 (x102.1+1)) s0.2.1 s0.2.2.1 x102.2) (hrc (w64 (x102.1+1)) s0.2.1 s0.2.2.1 x102.2) fun x106 hx106=>?_;conv=>rhs;whnf
           exact Zd (ih _)
        ·conv=>rhs;whnf
         refine ZV rfl ?_;conv=>rhs;whnf
         refine ZV rfl ?_;conv=>rhs;whnf
         refine Zf rfl ?_ ?_<;>conv=>rhs;whnf
         ·refine Zf rfl ?_ ?_<;>conv=>rhs;whnf
          ·refine Zc (Zb s0.1 x102.1 s0.2.2.1 x102.2) (hrc s0.1 x102.1 s0.2.2.1 x102.2) fun x107 hx107=>?_;conv=>rhs;whnf
           exact Zd (ih _)
          ·refine Zc (Zb s0.1 x102.1 s0.2.2.1 x102.2) (hrc s0.1 x102.1 s0.2.2.1 x102.2) fun x108 hx108=>?_;conv=>rhs;whnf
           exact Zd (ih _)
         ·refine Zf rfl ?_ ?_<;>conv=>rhs;whnf
          ·refine Zc (Zb (w64 (x102.1+1)) s0.2.1 s0.2.2.1 x102.2) (hrc (w64 (x102.1+1)) s0.2.1 s0.2.2.1 x102.2) fun x109 hx109=>?_;conv=>rhs;whnf
           exact Zd (ih _)
          ·refine Zc (Zb (w64 (x102.1+1)) s0.2.1 s0.2.2.1 x102.2) (hrc (w64 (x102.1+1)) s0.2.1 s0.2.2.1 x102.2) fun x110 hx110=>?_;conv=>rhs;whnf
           exact Zd (ih _)
       ·refine Zc _ Z9 fun x111 hx111=>?_;conv=>rhs;whnf
        exact Zd (ih _)
      ·refine Zc _ ZC fun x112 hx112=>?_
       clear hx112
       rcases x112 with x112 | x112
       ·conv=>rhs;whnf
        refine Zbl rfl ?_;conv=>rhs;whnf
        refine ZV rfl ?_;conv=>rhs;whnf
        refine Zf rfl ?_ ?_<;>conv=>rhs;whnf
        ·refine Zf rfl ?_ ?_<;>conv=>rhs;whnf
         ·refine Zc (Zb s0.1 x112.1 s0.2.2.1 x112.2) (hrc s0.1 x112.1 s0.2.2.1 x112.2) fun x113 hx113=>?_;conv=>rhs;whnf
          exact Zd (ih _)
         ·refine Zc (Zb s0.1 x112.1 s0.2.2.1 x112.2) (hrc s0.1 x112.1 s0.2.2.1 x112.2) fun x114 hx114=>?_;conv=>rhs;whnf
          exact Zd (ih _)
        ·refine Zf rfl ?_ ?_<;>conv=>rhs;whnf
         ·refine Zc (Zb (w64 (x112.1+1)) s0.2.1 s0.2.2.1 x112.2) (hrc (w64 (x112.1+1)) s0.2.1 s0.2.2.1 x112.2) fun x115 hx115=>?_;conv=>rhs;whnf
          exact Zd (ih _)
         ·refine Zc (Zb (w64 (x112.1+1)) s0.2.1 s0.2.2.1 x112.2) (hrc (w64 (x112.1+1)) s0.2.1 s0.2.2.1 x112.2) fun x116 hx116=>?_;conv=>rhs;whnf
          exact Zd (ih _)
       ·conv=>rhs;whnf
        refine ZV rfl ?_;conv=>rhs;whnf
        refine ZV rfl ?_;conv=>rhs;whnf
        refine Zf rfl ?_ ?_<;>conv=>rhs;whnf
        ·refine Zf rfl ?_ ?_<;>conv=>rhs;whnf
         ·refine Zc (Zb s0.1 x112.1 s0.2.2.1 x112.2) (hrc s0.1 x112.1 s0.2.2.1 x112.2) fun x117 hx117=>?_;conv=>rhs;whnf
          exact Zd (ih _)
         ·refine Zc (Zb s0.1 x112.1 s0.2.2.1 x112.2) (hrc s0.1 x112.1 s0.2.2.1 x112.2) fun x118 hx118=>?_;conv=>rhs;whnf
          exact Zd (ih _)
        ·refine Zf rfl ?_ ?_<;>conv=>rhs;whnf
         ·refine Zc (Zb (w64 (x112.1+1)) s0.2.1 s0.2.2.1 x112.2) (hrc (w64 (x112.1+1)) s0.2.1 s0.2.2.1 x112.2) fun x119 hx119=>?_;conv=>rhs;whnf
          exact Zd (ih _)
         ·refine Zc (Zb (w64 (x112.1+1)) s0.2.1 s0.2.2.1 x112.2) (hrc (w64 (x112.1+1)) s0.2.1 s0.2.2.1 x112.2) fun x120 hx120=>?_;conv=>rhs;whnf
          exact Zd (ih _)
  ·refine Zqx ?_;conv=>rhs;whnf
   refine Zf rfl ?_ ?_<;>conv=>rhs;whnf
   ·refine Zc _ Zb7 fun x1 hx1=>?_;conv=>rhs;whnf
    exact Zh rfl
   ·refine Zf rfl ?_ ?_<;>conv=>rhs;whnf
    ·refine Zc _ ZcH fun x2 hx2=>?_;conv=>rhs;whnf
     exact Zh rfl
    ·refine Zc _ Zce fun x3 hx3=>?_;conv=>rhs;whnf
     refine Zf rfl ?_ ?_<;>conv=>rhs;whnf
     ·refine Zc _ Zcb fun x4 hx4=>?_;conv=>rhs;whnf
      refine Zbl rfl ?_;conv=>rhs;whnf
      refine Zc _ ZdG fun x5 hx5=>?_
      clear hx5
      rcases x5 with x5 | x5
      ·conv=>rhs;whnf
       exact Zh rfl
      ·conv=>rhs;whnf
       refine Zf rfl ?_ ?_<;>conv=>rhs;whnf
       ·refine Zk rfl rfl fun x6 hx6=>?_;conv=>rhs;whnf
        refine Zg (Zn rfl hx6) ?_;conv=>rhs;whnf
        refine Zk rfl rfl fun x7 hx7=>?_;conv=>rhs;whnf
        refine Zg (Zn rfl hx7) ?_;conv=>rhs;whnf
        refine Zq _ Z5 rfl fun x8 hx8=>?_;conv=>rhs;whnf
        refine Zf rfl ?_ ?_<;>conv=>rhs;whnf
        ·refine Zc _ ZC fun x9 hx9=>?_
         clear hx9
         rcases x9 with x9 | x9
         ·conv=>rhs;whnf
          refine Zbl rfl ?_;conv=>rhs;whnf
          refine ZV rfl ?_;conv=>rhs;whnf
          refine Zf rfl ?_ ?_<;>conv=>rhs;whnf
          ·refine Zf rfl ?_ ?_<;>conv=>rhs;whnf
           ·refine Zc (Zb s0.1 x9.1 s0.2.2.1 x9.2) (hrc s0.1 x9.1 s0.2.2.1 x9.2) fun x10 hx10=>?_;conv=>rhs;whnf
            exact Zd (ih _)
           ·refine Zc (Zb s0.1 x9.1 s0.2.2.1 x9.2) (hrc s0.1 x9.1 s0.2.2.1 x9.2) fun x11 hx11=>?_;conv=>rhs;whnf
            exact Zd (ih _)
          ·refine Zf rfl ?_ ?_<;>conv=>rhs;whnf
           ·refine Zc (Zb (w64 (x9.1+1)) s0.2.1 s0.2.2.1 x9.2) (hrc (w64 (x9.1+1)) s0.2.1 s0.2.2.1 x9.2) fun x12 hx12=>?_;conv=>rhs;whnf
            exact Zd (ih _)
           ·refine Zc (Zb (w64 (x9.1+1)) s0.2.1 s0.2.2.1 x9.2) (hrc (w64 (x9.1+1)) s0.2.1 s0.2.2.1 x9.2) fun x13 hx13=>?_;conv=>rhs;whnf
            exact Zd (ih _)
         ·conv=>rhs;whnf
          refine ZV rfl ?_;conv=>rhs;whnf
          refine ZV rfl ?_;conv=>rhs;whnf
          refine Zf rfl ?_ ?_<;>conv=>rhs;whnf
          ·refine Zf rfl ?_ ?_<;>conv=>rhs;whnf
           ·refine Zc (Zb s0.1 x9.1 s0.2.2.1 x9.2) (hrc s0.1 x9.1 s0.2.2.1 x9.2) fun x14 hx14=>?_;conv=>rhs;whnf
            exact Zd (ih _)
           ·refine Zc (Zb s0.1 x9.1 s0.2.2.1 x9.2) (hrc s0.1 x9.1 s0.2.2.1 x9.2) fun x15 hx15=>?_;conv=>rhs;whnf
            exact Zd (ih _)
          ·refine Zf rfl ?_ ?_<;>conv=>rhs;whnf
           ·refine Zc (Zb (w64 (x9.1+1)) s0.2.1 s0.2.2.1 x9.2) (hrc (w64 (x9.1+1)) s0.2.1 s0.2.2.1 x9.2) fun x16 hx16=>?_;conv=>rhs;whnf
            exact Zd (ih _)
           ·refine Zc (Zb (w64 (x9.1+1)) s0.2.1 s0.2.2.1 x9.2) (hrc (w64 (x9.1+1)) s0.2.1 s0.2.2.1 x9.2) fun x17 hx17=>?_;conv=>rhs;whnf
            exact Zd (ih _)
        ·refine Zc _ Z9 fun x18 hx18=>?_;conv=>rhs;whnf
         exact Zd (ih _)
       ·refine Zc _ ZC fun x19 hx19=>?_
        clear hx19
        rcases x19 with x19 | x19
        ·conv=>rhs;whnf
         refine Zbl rfl ?_;conv=>rhs;whnf
         refine ZV rfl ?_;conv=>rhs;whnf
         refine Zf rfl ?_ ?_<;>conv=>rhs;whnf
         ·refine Zf rfl ?_ ?_<;>conv=>rhs;whnf
          ·refine Zc (Zb s0.1 x19.1 s0.2.2.1 x19.2) (hrc s0.1 x19.1 s0.2.2.1 x19.2) fun x20 hx20=>?_;conv=>rhs;whnf
           exact Zd (ih _)
          ·refine Zc (Zb s0.1 x19.1 s0.2.2.1 x19.2) (hrc s0.1 x19.1 s0.2.2.1 x19.2) fun x21 hx21=>?_;conv=>rhs;whnf
           exact Zd (ih _)
         ·refine Zf rfl ?_ ?_<;>conv=>rhs;whnf
          ·refine Zc (Zb (w64 (x19.1+1)) s0.2.1 s0.2.2.1 x19.2) (hrc (w64 (x19.1+1)) s0.2.1 s0.2.2.1 x19.2) fun x22 hx22=>?_;conv=>rhs;whnf
           exact Zd (ih _)
          ·refine Zc (Zb (w64 (x19.1+1)) s0.2.1 s0.2.2.1 x19.2) (hrc (w64 (x19.1+1)) s0.2.1 s0.2.2.1 x19.2) fun x23 hx23=>?_;conv=>rhs;whnf
           exact Zd (ih _)
        ·conv=>rhs;whnf
         refine ZV rfl ?_;conv=>rhs;whnf
         refine ZV rfl ?_;conv=>rhs;whnf
         refine Zf rfl ?_ ?_<;>conv=>rhs;whnf
         ·refine Zf rfl ?_ ?_<;>conv=>rhs;whnf
          ·refine Zc (Zb s0.1 x19.1 s0.2.2.1 x19.2) (hrc s0.1 x19.1 s0.2.2.1 x19.2) fun x24 hx24=>?_;conv=>rhs;whnf
           exact Zd (ih _)
          ·refine Zc (Zb s0.1 x19.1 s0.2.2.1 x19.2) (hrc s0.1 x19.1 s0.2.2.1 x19.2) fun x25 hx25=>?_;conv=>rhs;whnf
           exact Zd (ih _)
         ·refine Zf rfl ?_ ?_<;>conv=>rhs;whnf
          ·refine Zc (Zb (w64 (x19.1+1)) s0.2.1 s0.2.2.1 x19.2) (hrc (w64 (x19.1+1)) s0.2.1 s0.2.2.1 x19.2) fun x26 hx26=>?_;conv=>rhs;whnf
           exact Zd (ih _)
          ·refine Zc (Zb (w64 (x19.1+1)) s0.2.1 s0.2.2.1 x19.2) (hrc (w64 (x19.1+1)) s0.2.1 s0.2.2.1 x19.2) fun x27 hx27=>?_;conv=>rhs;whnf
           exact Zd (ih _)
     ·refine Zf rfl ?_ ?_<;>conv=>rhs;whnf
      ·refine Zc _ ZdG fun x28 hx28=>?_
       clear hx28
       rcases x28 with x28 | x28
       ·conv=>rhs;whnf
        exact Zh rfl
       ·conv=>rhs;whnf
        refine Zf rfl ?_ ?_<;>conv=>rhs;whnf
        ·refine Zk rfl rfl fun x29 hx29=>?_;conv=>rhs;whnf
         refine Zg (Zn rfl hx29) ?_;conv=>rhs;whnf
         refine Zk rfl rfl fun x30 hx30=>?_;conv=>rhs;whnf
         refine Zg (Zn rfl hx30) ?_;conv=>rhs;whnf
         refine Zq _ Z5 rfl fun x31 hx31=>?_;conv=>rhs;whnf
         refine Zf rfl ?_ ?_<;>conv=>rhs;whnf
         ·refine Zc _ ZC fun x32 hx32=>?_
          clear hx32
          rcases x32 with x32 | x32
          ·conv=>rhs;whnf
           refine Zbl rfl ?_;conv=>rhs;whnf
           refine ZV rfl ?_;conv=>rhs;whnf
           refine Zf rfl ?_ ?_<;>conv=>rhs;whnf
           ·refine Zf rfl ?_ ?_<;>conv=>rhs;whnf
            ·refine Zc (Zb s0.1 x32.1 s0.2.2.1 x32.2) (hrc s0.1 x32.1 s0.2.2.1 x32.2) fun x33 hx33=>?_;conv=>rhs;whnf
             exact Zd (ih _)
            ·refine Zc (Zb s0.1 x32.1 s0.2.2.1 x32.2) (hrc s0.1 x32.1 s0.2.2.1 x32.2) fun x34 hx34=>?_;conv=>rhs;whnf
             exact Zd (ih _)
           ·refine Zf rfl ?_ ?_<;>conv=>rhs;whnf
            ·refine Zc (Zb (w64 (x32.1+1)) s0.2.1 s0.2.2.1 x32.2) (hrc (w64 (x32.1+1)) s0.2.1 s0.2.2.1 x32.2) fun x35 hx35=>?_;conv=>rhs;whnf
             exact Zd (ih _)
            ·refine Zc (Zb (w64 (x32.1+1)) s0.2.1 s0.2.2.1 x32.2) (hrc (w64 (x32.1+1)) s0.2.1 s0.2.2.1 x32.2) fun x36 hx36=>?_;conv=>rhs;whnf
             exact Zd (ih _)
          ·conv=>rhs;whnf
           refine ZV rfl ?_;conv=>rhs;whnf
           refine ZV rfl ?_;conv=>rhs;whnf
           refine Zf rfl ?_ ?_<;>conv=>rhs;whnf
           ·refine Zf rfl ?_ ?_<;>conv=>rhs;whnf
            ·refine Zc (Zb s0.1 x32.1 s0.2.2.1 x32.2) (hrc s0.1 x32.1 s0.2.2.1 x32.2) fun x37 hx37=>?_;conv=>rhs;whnf
             exact Zd (ih _)
            ·refine Zc (Zb s0.1 x32.1 s0.2.2.1 x32.2) (hrc s0.1 x32.1 s0.2.2.1 x32.2) fun x38 hx38=>?_;conv=>rhs;whnf
             exact Zd (ih _)
           ·refine Zf rfl ?_ ?_<;>conv=>rhs;whnf
            ·refine Zc (Zb (w64 (x32.1+1)) s0.2.1 s0.2.2.1 x32.2) (hrc (w64 (x32.1+1)) s0.2.1 s0.2.2.1 x32.2) fun x39 hx39=>?_;conv=>rhs;whnf
             exact Zd (ih _)
            ·refine Zc (Zb (w64 (x32.1+1)) s0.2.1 s0.2.2.1 x32.2) (hrc (w64 (x32.1+1)) s0.2.1 s0.2.2.1 x32.2) fun x40 hx40=>?_;conv=>rhs;whnf
             exact Zd (ih _)
         ·refine Zc _ Z9 fun x41 hx41=>?_;conv=>rhs;whnf
          exact Zd (ih _)
        ·refine Zc _ ZC fun x42 hx42=>?_
         clear hx42
         rcases x42 with x42 | x42
         ·conv=>rhs;whnf
          refine Zbl rfl ?_;conv=>rhs;whnf
          refine ZV rfl ?_;conv=>rhs;whnf
          refine Zf rfl ?_ ?_<;>conv=>rhs;whnf
          ·refine Zf rfl ?_ ?_<;>conv=>rhs;whnf
           ·refine Zc (Zb s0.1 x42.1 s0.2.2.1 x42.2) (hrc s0.1 x42.1 s0.2.2.1 x42.2) fun x43 hx43=>?_;conv=>rhs;whnf
            exact Zd (ih _)
           ·refine Zc (Zb s0.1 x42.1 s0.2.2.1 x42.2) (hrc s0.1 x42.1 s0.2.2.1 x42.2) fun x44 hx44=>?_;conv=>rhs;whnf
            exact Zd (ih _)
          ·refine Zf rfl ?_ ?_<;>conv=>rhs;whnf
           ·refine Zc (Zb (w64 (x42.1+1)) s0.2.1 s0.2.2.1 x42.2) (hrc (w64 (x42.1+1)) s0.2.1 s0.2.2.1 x42.2) fun x45 hx45=>?_;conv=>rhs;whnf
            exact Zd (ih _)
           ·refine Zc (Zb (w64 (x42.1+1)) s0.2.1 s0.2.2.1 x42.2) (hrc (w64 (x42.1+1)) s0.2.1 s0.2.2.1 x42.2) fun x46 hx46=>?_;conv=>rhs;whnf
            exact Zd (ih _)
         ·conv=>rhs;whnf
          refine ZV rfl ?_;conv=>rhs;whnf
          refine ZV rfl ?_;conv=>rhs;whnf
          refine Zf rfl ?_ ?_<;>conv=>rhs;whnf
          ·refine Zf rfl ?_ ?_<;>conv=>rhs;whnf
           ·refine Zc (Zb s0.1 x42.1 s0.2.2.1 x42.2) (hrc s0.1 x42.1 s0.2.2.1 x42.2) fun x47 hx47=>?_;conv=>rhs;whnf
            exact Zd (ih _)
           ·refine Zc (Zb s0.1 x42.1 s0.2.2.1 x42.2) (hrc s0.1 x42.1 s0.2.2.1 x42.2) fun x48 hx48=>?_;conv=>rhs;whnf
            exact Zd (ih _)
          ·refine Zf rfl ?_ ?_<;>conv=>rhs;whnf
           ·refine Zc (Zb (w64 (x42.1+1)) s0.2.1 s0.2.2.1 x42.2) (hrc (w64 (x42.1+1)) s0.2.1 s0.2.2.1 x42.2) fun x49 hx49=>?_;conv=>rhs;whnf
            exact Zd (ih _)
           ·refine Zc (Zb (w64 (x42.1+1)) s0.2.1 s0.2.2.1 x42.2) (hrc (w64 (x42.1+1)) s0.2.1 s0.2.2.1 x42.2) fun x50 hx50=>?_;conv=>rhs;whnf
            exact Zd (ih _)
      ·refine Zf rfl ?_ ?_<;>conv=>rhs;whnf
       ·refine Zk rfl rfl fun x51 hx51=>?_;conv=>rhs;whnf
        refine Zg (Zn rfl hx51) ?_;conv=>rhs;whnf
        refine Zk rfl rfl fun x52 hx52=>?_;conv=>rhs;whnf
        refine Zg (Zn rfl hx52) ?_;conv=>rhs;whnf
        refine Zq _ Z5 rfl fun x53 hx53=>?_;conv=>rhs;whnf
        refine Zf rfl ?_ ?_<;>conv=>rhs;whnf
        ·refine Zc _ ZC fun x54 hx54=>?_
         clear hx54
         rcases x54 with x54 | x54
         ·conv=>rhs;whnf
          refine Zbl rfl ?_;conv=>rhs;whnf
          refine ZV rfl ?_;conv=>rhs;whnf
          refine Zf rfl ?_ ?_<;>conv=>rhs;whnf
          ·refine Zf rfl ?_ ?_<;>conv=>rhs;whnf
           ·refine Zc (Zb s0.1 x54.1 s0.2.2.1 x54.2) (hrc s0.1 x54.1 s0.2.2.1 x54.2) fun x55 hx55=>?_;conv=>rhs;whnf
            exact Zd (ih _)
           ·refine Zc (Zb s0.1 x54.1 s0.2.2.1 x54.2) (hrc s0.1 x54.1 s0.2.2.1 x54.2) fun x56 hx56=>?_;conv=>rhs;whnf
            exact Zd (ih _)
          ·refine Zf rfl ?_ ?_<;>conv=>rhs;whnf
           ·refine Zc (Zb (w64 (x54.1+1)) s0.2.1 s0.2.2.1 x54.2) (hrc (w64 (x54.1+1)) s0.2.1 s0.2.2.1 x54.2) fun x57 hx57=>?_;conv=>rhs;whnf
            exact Zd (ih _)
           ·refine Zc (Zb (w64 (x54.1+1)) s0.2.1 s0.2.2.1 x54.2) (hrc (w64 (x54.1+1)) s0.2.1 s0.2.2.1 x54.2) fun x58 hx58=>?_;conv=>rhs;whnf
            exact Zd (ih _)
         ·conv=>rhs;whnf
          refine ZV rfl ?_;conv=>rhs;whnf
          refine ZV rfl ?_;conv=>rhs;whnf
          refine Zf rfl ?_ ?_<;>conv=>rhs;whnf
          ·refine Zf rfl ?_ ?_<;>conv=>rhs;whnf
           ·refine Zc (Zb s0.1 x54.1 s0.2.2.1 x54.2) (hrc s0.1 x54.1 s0.2.2.1 x54.2) fun x59 hx59=>?_;conv=>rhs;whnf
            exact Zd (ih _)
           ·refine Zc (Zb s0.1 x54.1 s0.2.2.1 x54.2) (hrc s0.1 x54.1 s0.2.2.1 x54.2) fun x60 hx60=>?_;conv=>rhs;whnf
            exact Zd (ih _)
          ·refine Zf rfl ?_ ?_<;>conv=>rhs;whnf
           ·refine Zc (Zb (w64 (x54.1+1)) s0.2.1 s0.2.2.1 x54.2) (hrc (w64 (x54.1+1)) s0.2.1 s0.2.2.1 x54.2) fun x61 hx61=>?_;conv=>rhs;whnf
            exact Zd (ih _)
           ·refine Zc (Zb (w64 (x54.1+1)) s0.2.1 s0.2.2.1 x54.2) (hrc (w64 (x54.1+1)) s0.2.1 s0.2.2.1 x54.2) fun x62 hx62=>?_;conv=>rhs;whnf
            exact Zd (ih _)
        ·refine Zc _ Z9 fun x63 hx63=>?_;conv=>rhs;whnf
         exact Zd (ih _)
       ·refine Zc _ ZC fun x64 hx64=>?_
        clear hx64
        rcases x64 with x64 | x64
        ·conv=>rhs;whnf
         refine Zbl rfl ?_;conv=>rhs;whnf
         refine ZV rfl ?_;conv=>rhs;whnf
         refine Zf rfl ?_ ?_<;>conv=>rhs;whnf
         ·refine Zf rfl ?_ ?_<;>conv=>rhs;whnf
          ·refine Zc (Zb s0.1 x64.1 s0.2.2.1 x64.2) (hrc s0.1 x64.1 s0.2.2.1 x64.2) fun x65 hx65=>?_;conv=>rhs;whnf
           exact Zd (ih _)
          ·refine Zc (Zb s0.1 x64.1 s0.2.2.1 x64.2) (hrc s0.1 x64.1 s0.2.2.1 x64.2) fun x66 hx66=>?_;conv=>rhs;whnf
           exact Zd (ih _)
         ·refine Zf rfl ?_ ?_<;>conv=>rhs;whnf
          ·refine Zc (Zb (w64 (x64.1+1)) s0.2.1 s0.2.2.1 x64.2) (hrc (w64 (x64.1+1)) s0.2.1 s0.2.2.1 x64.2) fun x67 hx67=>?_;conv=>rhs;whnf
           exact Zd (ih _)
          ·refine Zc (Zb (w64 (x64.1+1)) s0.2.1 s0.2.2.1 x64.2) (hrc (w64 (x64.1+1)) s0.2.1 s0.2.2.1 x64.2) fun x68 hx68=>?_;conv=>rhs;whnf
           exact Zd (ih _)
        ·conv=>rhs;whnf
         refine ZV rfl ?_;conv=>rhs;whnf
         refine ZV rfl ?_;conv=>rhs;whnf
         refine Zf rfl ?_ ?_<;>conv=>rhs;whnf
         ·refine Zf rfl ?_ ?_<;>conv=>rhs;whnf
          ·refine Zc (Zb s0.1 x64.1 s0.2.2.1 x64.2) (hrc s0.1 x64.1 s0.2.2.1 x64.2) fun x69 hx69=>?_;conv=>rhs;whnf
           exact Zd (ih _)
          ·refine Zc (Zb s0.1 x64.1 s0.2.2.1 x64.2) (hrc s0.1 x64.1 s0.2.2.1 x64.2) fun x70 hx70=>?_;conv=>rhs;whnf
           exact Zd (ih _)
         ·refine Zf rfl ?_ ?_<;>conv=>rhs;whnf
          ·refine Zc (Zb (w64 (x64.1+1)) s0.2.1 s0.2.2.1 x64.2) (hrc (w64 (x64.1+1)) s0.2.1 s0.2.2.1 x64.2) fun x71 hx71=>?_;conv=>rhs;whnf
           exact Zd (ih _)
          ·refine Zc (Zb (w64 (x64.1+1)) s0.2.1 s0.2.2.1 x64.2) (hrc (w64 (x64.1+1)) s0.2.1 s0.2.2.1 x64.2) fun x72 hx72=>?_;conv=>rhs;whnf
           exact Zd (ih _)
theorem ZiS (rc:Int→Int→Int→(List Int)→Option (List Int)) (hrc:∀(b:Int) (c:Int) (d:Int) (m0_0:List Int) (r:List Int),rc b c d m0_0=some r→evW ctx 85 [(.sl 0 1),(.d (Ze b)),(.d (Ze c)),(.d (Ze d))] [(.arr 1 (List.map Ze m0_0))]=some ((Zb b c d m0_0) r)) (b:Int) (c:Int) (d:Int) (m0_0:List Int):∀r,(Zcd rc b c d m0_0)=some r→evW ctx 85 [(.sl 0 1),(.d (Ze b)),(.d (Ze c)),(.d (Ze d))] [(.arr 1 (List.map Ze m0_0))]=some ((Zb b c d m0_0) r):=by
 show ZN _ (fun r rhs=>rhs=some ((Zb b c d m0_0) r)) _
 unfold Zcd
 rw[ZeK ctx 85 ZDB _ _ rfl rfl]
 conv=>rhs;whnf
 refine Zc _ (ZiH hrc _) fun r219 hr219=>?_;conv=>rhs;whnf
 exact Zh rfl
theorem Zgd:∀(n:Nat) (b:Int) (c:Int) (d:Int) (m0_0:List Int) (r:List Int),Zbn n b c d m0_0=some r→evW ctx 85 [(.sl 0 1),(.d (Ze b)),(.d (Ze c)),(.d (Ze d))] [(.arr 1 (List.map Ze m0_0))]=some ((Zb b c d m0_0) r)
  | 0,b,c,d,m0_0,r,h=>by cases h
  | n+1,b,c,d,m0_0,r,h=>ZiS (Zbn n) (Zgd n) b c d m0_0 r h
theorem Zjo {b c d:Int}{m0_0:List Int}:∀r,Zfa b c d m0_0=some r→evW ctx 85 [(.sl 0 1),(.d (Ze b)),(.d (Ze c)),(.d (Ze d))] [(.arr 1 (List.map Ze m0_0))]=some ((Zb b c d m0_0) r):=fun r h=>by
  obtain⟨n,hn⟩:=ZxV h
  exact Zgd n b c d m0_0 r hn
def ZhX (m0_0:List Int):(List Int)→V×Zs
  | r=>((.d (D.tup [])),[(.arr 1 (List.map Ze r))])
theorem Zkt {m0_0:List Int}:∀r,(ZcF m0_0)=some r→evW ctx 76 [(.sl 0 1)] [(.arr 1 (List.map Ze m0_0))]=some ((ZhX m0_0) r):=by
 show ZN _ (fun r rhs=>rhs=some ((ZhX m0_0) r)) _
 unfold ZcF
 rw[ZeK ctx 76 ZD4 _ _ rfl rfl]
 conv=>rhs;whnf
 refine Zm (ZK _ _) ?_;conv=>rhs;whnf
 refine Zq _ ZiB rfl fun x0 hx0=>?_;conv=>rhs;whnf
 refine Zc _ Zjo fun x1 hx1=>?_;conv=>rhs;whnf
 exact Zh rfl
def Zio (r:List Int):D:=(D.list true (List.map Ze r))
def Zhr (t1:Bool) (a:Zar) (b0:Int):(List Int)→Ex×List V×Zs
  | r=>(.exit 0,[(.sl 0 1)],[(.arr 1 (List.map Ze r))])
theorem ZjS {t1:Bool}{a:Zar}{b0:Int}:∀(s0:Int×(List Int)) (r:List Int),lp (ZhS a (fun z0=>Zgm z0 b0)) s0=some r→lpW ctx 0 [1,5,11,12,13] [5] Zz8 [(.d (D.fn 53 [(D.rptr [(Ze b0)])])),(.sl 0 1),(.d (D.list t1 (List.map ZA a.edges))),(.d (Ze (a.edges.length:Int))),(.d (Ze s0.1))] [(.arr 1 (List.map Ze s0.2))]=some ((Zhr t1 a b0) r):=by
 refine Zah (Zhr t1 a b0) ?_
 intro s0 rcl ih
 show ZN _ _ (lpW _ _ _ _ _ _ _)
 unfold ZhS
 rw[Zai]
 conv=>rhs;whnf
 refine Zf rfl ?_ ?_<;>conv=>rhs;whnf
 ·refine Zk rfl rfl fun x1 hx1=>?_;conv=>rhs;whnf
  refine Zq _ ZqD rfl fun x2 hx2=>?_;conv=>rhs;whnf
  refine Zf rfl ?_ ?_<;>conv=>rhs;whnf
  ·refine Zbl rfl ?_;conv=>rhs;whnf
   refine Zf (Zfd Ze s0.2 1) ?_ ?_
   ·conv=>rhs;whnf
    refine Zm (Zfc Ze s0.2 [x2.1]) ?_;conv=>rhs;whnf
    exact Zd (ih _)
   ·exact ZaH
  ·exact Zd (ih _)
 ·exact Zh rfl
theorem Zk8 {t0 t1:Bool}{a:Zar}{b0:Int}:∀r,(ZnZ a (fun z0=>Zgm z0 b0))=some r→evD ctx 52 [(.d (D.agg [(D.list t0 (List.map Ze a.work)),(D.list t1 (List.map ZA a.edges))])),(.d (D.fn 53 [(D.rptr [(Ze b0)])]))]=some (Zio r):=by
 show ZN _ (fun r rhs=>rhs=some (Zio r)) _
 unfold ZnZ
 rw[Zbj ctx 52 ZE2 _ rfl rfl]
 conv=>rhs;whnf
 refine Zm (ZK _ _) ?_;conv=>rhs;whnf
 refine Zc _ (ZjS _) fun r3 hr3=>?_;conv=>rhs;whnf
 refine Zc _ Zkt fun x4 hx4=>?_;conv=>rhs;whnf
 exact Zh rfl
def ZoM (r:List Int):D:=(D.list true (List.map Ze r))
theorem Zr2 {t0 t1:Bool}{a:Zar}{b:Int}:∀r,(ZjD a b)=some r→evD ctx 30 [(.d (D.agg [(D.list t0 (List.map Ze a.work)),(D.list t1 (List.map ZA a.edges))])),(.d (Ze b))]=some (ZoM r):=by
 show ZN _ (fun r rhs=>rhs=some (ZoM r)) _
 unfold ZjD
 rw[Zbj ctx 30 ZDJ _ rfl rfl]
 conv=>rhs;whnf
 refine Zq _ Zk8 rfl fun x0 hx0=>?_;conv=>rhs;whnf
 exact Zh rfl
def Zql (r:Int):D:=(Ze r)
def Zm2 (t0:Bool) (t1:Bool) (a:Zar) (x0:List Int) (s1:Int×Int×(List Int)) (x2:Int) (x3:List Int):(List Int)→Ex×List V×Zs
  | r=>(.exit 2,[(.ptr 0 0),(.sl 1 1),(.d (Ze s1.1)),(.d (Ze x2)),(.d (D.list true (List.map Ze x0))),(.d (Ze (x0.length:Int))),(.d (Ze s1.2.1))],[(.cells [(.d (D.list t0 (List.map Ze a.work))),(.d (D.list t1 (List.map ZA a.edges)))]),(.arr 1 (List.map Ze r))])
theorem ZqY {t0 t1:Bool}{a:Zar}{x0:List Int}{s1:Int×Int×(List Int)}{x2:Int}{x3:List Int}:∀(s4:Int×(List Int)) (r:List Int),lp (Zgr x2 x3) s4=some r→lpW ctx 0 [1,3,4,6,14,15,16,22,23,24] [1,3,4,6,14,15,16] ZAD [(.ptr 0 0),(.sl 1 1),(.d (Ze s1.1)),(.d (Ze x2)),(.d (D.list true (List.map Ze x0))),(.d (Ze (x0.length:Int))),(.d (Ze s1.2.1)),(.d (D.list true (List.map Ze x3))),(.d (Ze (x3.length:Int))),(.d (Ze s4.1))] [(.cells [(.d (D.list t0 (List.map Ze a.work))),(.d (D.list t1 (List.map ZA a.edges)))]),(.arr 1 (List.map Ze s4.2))]=some ((Zm2 t0 t1 a x0 s1 x2 x3) r):=by
 refine Zah (Zm2 t0 t1 a x0 s1 x2 x3) ?_
 intro s4 rcl ih
 show ZN _ _ (lpW _ _ _ _ _ _ _)
 unfold Zgr
 rw[Zai]
 conv=>rhs;whnf
 refine Zf rfl ?_ ?_<;>conv=>rhs;whnf
 ·refine Zk rfl rfl fun x5 hx5=>?_;conv=>rhs;whnf
  refine Zk rfl rfl fun x6 hx6=>?_;conv=>rhs;whnf
  refine Zg (Zn rfl hx6) ?_;conv=>rhs;whnf
  refine Zk rfl rfl fun x7 hx7=>?_;conv=>rhs;whnf
  refine Zg (Zn rfl hx7) ?_;conv=>rhs;whnf
  refine Zg (Zam rfl hx6) ?_;conv=>rhs;whnf
  refine Zg (Zn rfl hx6) ?_;conv=>rhs;whnf
  refine Zm (ZZ Ze s4.2 x2.toNat (bif decide (x6<x7) then x7 else x6)) ?_;conv=>rhs;whnf
  exact Zd (ih _)
 ·exact Zh rfl
def Zm6 (t0:Bool) (t1:Bool) (a:Zar) (x0:List Int):Int→Ex×List V×Zs
  | r=>(.exit 0,[(.d (Ze r))],[])
theorem Zq6 {t0 t1:Bool}{a:Zar}{x0:List Int}:∀(s1:Int×Int×(List Int)) (r:Int),lp (Zgw a x0) s1=some r→lpW ctx 0 [1,3,4,14,15,16] [4] ZBi [(.ptr 0 0),(.sl 1 1),(.d (Ze s1.1)),(.d (D.list true (List.map Ze x0))),(.d (Ze (x0.length:Int))),(.d (Ze s1.2.1))] [(.cells [(.d (D.list t0 (List.map Ze a.work))),(.d (D.list t1 (List.map ZA a.edges)))]),(.arr 1 (List.map Ze s1.2.2))]=some ((Zm6 t0 t1 a x0) r):=by
 refine Zah (Zm6 t0 t1 a x0) ?_
 intro s1 rcl ih
 show ZN _ _ (lpW _ _ _ _ _ _ _)
 unfold Zgw
 rw[Zai]
 conv=>rhs;whnf
 refine Zf rfl ?_ ?_<;>conv=>rhs;whnf
 ·refine Zk rfl rfl fun x2 hx2=>?_;conv=>rhs;whnf
  refine Zq _ Zr2 rfl fun x3 hx3=>?_;conv=>rhs;whnf
  refine Zm (ZK _ _) ?_;conv=>rhs;whnf
  refine Zc _ (ZqY _) fun r8 hr8=>?_;conv=>rhs;whnf
  refine Zk rfl rfl fun x9 hx9=>?_;conv=>rhs;whnf
  refine Zg (Zn rfl hx9) ?_;conv=>rhs;whnf
  refine Zk rfl rfl fun x10 hx10=>?_;conv=>rhs;whnf
  refine Zg (Zam rfl hx9) ?_;conv=>rhs;whnf
  refine Zg (Zn rfl hx9) ?_;conv=>rhs;whnf
  refine Zm (ZZ Ze r8 x2.toNat (w64 (x9+x10))) ?_;conv=>rhs;whnf
  refine Zk rfl rfl fun x11 hx11=>?_;conv=>rhs;whnf
  refine Zg (Zn rfl hx11) ?_;conv=>rhs;whnf
  exact Zd (ih _)
 ·exact Zh rfl
theorem Zto {t0 t1:Bool}{a:Zar}:∀r,(ZkC a)=some r→evD ctx 15 [(.d (D.agg [(D.list t0 (List.map Ze a.work)),(D.list t1 (List.map ZA a.edges))]))]=some (Zql r):=by
 show ZN _ (fun r rhs=>rhs=some (Zql r)) _
 unfold ZkC
 rw[Zbj ctx 15 ZEO _ rfl rfl]
 conv=>rhs;whnf
 refine Zm (ZK _ _) ?_;conv=>rhs;whnf
 refine Zf rfl ?_ ?_
 ·conv=>rhs;whnf
  refine Zm (ZuQ Ze (0:Int) (a.work.length:Int)) ?_;conv=>rhs;whnf
  refine Zq _ ZrY rfl fun x0 hx0=>?_;conv=>rhs;whnf
  refine Zm (ZK _ _) ?_;conv=>rhs;whnf
  refine Zc _ (Zq6 _) fun r12 hr12=>?_;conv=>rhs;whnf
  exact Zh rfl
 ·exact ZaH
def Zic (r:Int):D:=(Ze r)
def Zht (t0:Bool) (a:List Int):Int→Ex×List V×Zs
  | r=>(.exit 0,[(.d (Ze r))],[])
theorem ZjU {t0:Bool}{a:List Int}:∀(s1:Int×Int) (r:Int),lp (ZbK a) s1=some r→lpW ctx 0 [0,3,4] [3] Zzf [(.d (D.list t0 (List.map Ze a))),(.d (Ze s1.1)),(.d (Ze s1.2))] []=some ((Zht t0 a) r):=by
 refine Zah (Zht t0 a) ?_
 intro s1 rcl ih
 show ZN _ _ (lpW _ _ _ _ _ _ _)
 unfold ZbK
 rw[Zai]
 conv=>rhs;whnf
 refine Zm (ZK _ _) ?_;conv=>rhs;whnf
 refine Zf rfl ?_ ?_<;>conv=>rhs;whnf
 ·refine Zk rfl rfl fun x2 hx2=>?_;conv=>rhs;whnf
  exact Zd (ih _)
 ·exact Zh rfl
theorem Zk9 {t0:Bool}{a:List Int}:∀r,(ZcZ a)=some r→evD ctx 16 [(.d (D.list t0 (List.map Ze a)))]=some (Zic r):=by
 show ZN _ (fun r rhs=>rhs=some (Zic r)) _
 unfold ZcZ
 rw[Zbj ctx 16 ZE3 _ rfl rfl]
 conv=>rhs;whnf
 refine Zm (ZK _ _) ?_;conv=>rhs;whnf
 refine Zf rfl ?_ ?_
 ·exact ZaH
 ·conv=>rhs;whnf
  refine Zk rfl rfl fun x0 hx0=>?_;conv=>rhs;whnf
  refine Zc _ (ZjU _) fun r3 hr3=>?_;conv=>rhs;whnf
  exact Zh rfl
def ZmP (r:(ZjT×Int)):D:=(D.tup [(D.agg [(Ze r.1.total),(Ze r.1.long),(Ze r.1.most),(Ze r.1.deadline),(Ze r.1.period)]),(Ze r.2)])
theorem ZqS {t0 t1:Bool}{t2 t3:Bool}{a:Zp}:∀r,(Zjr a)=some r→evD ctx 6 [(.d (D.agg (dA t0 t1 t2 t3 a)))]=some (ZmP r):=by
 show ZN _ (fun r rhs=>rhs=some (ZmP r)) _
 unfold Zjr
 rw[Zbj ctx 6 fn6 _ rfl rfl]
 conv=>rhs;whnf
 refine Zq _ ZqK rfl fun x0 hx0=>?_;conv=>rhs;whnf
 refine Zf rfl ?_ ?_<;>conv=>rhs;whnf
 ·exact Zh rfl
 ·refine Zq _ Zs7 rfl fun x1 hx1=>?_;conv=>rhs;whnf
  refine Zq _ Zto rfl fun x2 hx2=>?_;conv=>rhs;whnf
  refine Zq _ Zk9 rfl fun x3 hx3=>?_;conv=>rhs;whnf
  exact Zh rfl
def ZoN (r:(Int×Bool)):D:=(D.tup [(Ze r.1),(D.bool r.2)])
def Zme (a:Int):(Int⊕Unit)→Ex×List V×Zs
  | (.inl r)=>(.ret,[(.d (Ze r)),(.d (D.bool true))],[])
  | (.inr r)=>(.exit 0,[.bad,.bad],[])
theorem Zp0 {a:Int}:∀(s0:Int×Int) (r:(Int⊕Unit)),lp (ZdO a) s0=some r→lpW ctx 0 [0,4,5] [2,3] ZA5 [(.d (Ze a)),(.d (Ze s0.1)),(.d (Ze s0.2))] []=some ((Zme a) r):=by
 refine Zah (Zme a) ?_
 intro s0 rcl ih
 show ZN _ _ (lpW _ _ _ _ _ _ _)
 unfold ZdO
 rw[Zai]
 conv=>rhs;whnf
 refine Zf rfl ?_ ?_<;>conv=>rhs;whnf
 ·refine Zf rfl ?_ ?_<;>conv=>rhs;whnf
  ·exact Zh rfl
  ·exact Zd (ih _)
 ·exact Zh rfl
theorem Zsd {a:Int}:∀r,(ZjJ a)=some r→evD ctx 77 [(.d (Ze a))]=some (ZoN r):=by
 show ZN _ (fun r rhs=>rhs=some (ZoN r)) _
 unfold ZjJ
 rw[Zbj ctx 77 ZDw _ rfl rfl]
 conv=>rhs;whnf
 refine Zc _ (Zp0 _) fun r1 hr1=>?_
 clear hr1
 rcases r1 with r1 | r1
 ·conv=>rhs;whnf
  exact Zh rfl
 ·conv=>rhs;whnf
  exact Zh rfl
def Zno (r:Bool):D:=(D.bool r)
theorem ZrB {t0 t1:Bool}{t2 t3:Bool}{a:Zp}:∀r,(ZiY a)=some r→evD ctx 54 [(.d (D.agg (dA t0 t1 t2 t3 a)))]=some (Zno r):=by
 show ZN _ (fun r rhs=>rhs=some (Zno r)) _
 unfold ZiY
 rw[Zbj ctx 54 ZD8 _ rfl rfl]
 conv=>rhs;whnf
 refine Zq _ Zsd rfl fun x0 hx0=>?_;conv=>rhs;whnf
 refine Zf rfl ?_ ?_<;>conv=>rhs;whnf
 ·refine Zf rfl ?_ ?_<;>conv=>rhs;whnf
  ·refine Zf rfl ?_ ?_<;>conv=>rhs;whnf
   ·refine Zf rfl ?_ ?_<;>conv=>rhs;whnf
    ·exact Zh rfl
    ·exact Zh rfl
   ·exact Zh rfl
  ·exact Zh rfl
 ·exact Zh rfl
def ZmQ (r:Bool):D:=(D.bool r)
def ZkR (t0:Bool) (t1:Bool) (t2:Bool) (t3:Bool) (a:Zp):(Unit⊕Unit)→Ex×List V×Zs
  | (.inl r)=>(.ret,[(.d (D.bool false))],[])
  | (.inr r)=>(.exit 0,[.bad],[])
theorem Zol {t0 t1:Bool}{t2 t3:Bool}{a:Zp}:∀(s0:Int) (r:(Unit⊕Unit)),lp (Zfr a) s0=some r→lpW ctx 0 [1,3] [2] Zy4 [(.ptr 0 0),(.d (Ze s0))] [(.cells (dV t0 t1 t2 t3 a))]=some ((ZkR t0 t1 t2 t3 a) r):=by
 refine Zah (ZkR t0 t1 t2 t3 a) ?_
 intro s0 rcl ih
 show ZN _ _ (lpW _ _ _ _ _ _ _)
 unfold Zfr
 rw[Zai]
 conv=>rhs;whnf
 refine Zm (ZK _ _) ?_;conv=>rhs;whnf
 refine Zf rfl ?_ ?_<;>conv=>rhs;whnf
 ·refine Zk rfl rfl fun x1 hx1=>?_;conv=>rhs;whnf
  refine Zf rfl ?_ ?_<;>conv=>rhs;whnf
  ·exact Zh rfl
  ·refine Zf rfl ?_ ?_<;>conv=>rhs;whnf
   ·exact Zh rfl
   ·refine Zf rfl ?_ ?_<;>conv=>rhs;whnf
    ·exact Zh rfl
    ·refine Zf rfl ?_ ?_<;>conv=>rhs;whnf
     ·exact Zh rfl
     ·refine Zf rfl ?_ ?_<;>conv=>rhs;whnf
      ·exact Zh rfl
      ·refine Zf rfl ?_ ?_<;>conv=>rhs;whnf
       ·exact Zh rfl
       ·exact Zd (ih _)
 ·exact Zh rfl
theorem ZqP {t0 t1:Bool}{t2 t3:Bool}{a:Zp}:∀r,(Zin a)=some r→evD ctx 55 [(.d (D.agg (dA t0 t1 t2 t3 a)))]=some (ZmQ r):=by
 show ZN _ (fun r rhs=>rhs=some (ZmQ r)) _
 unfold Zin
 rw[Zbj ctx 55 ZDW _ rfl rfl]
 conv=>rhs;whnf
 refine Zc _ (Zol _) fun r2 hr2=>?_
 clear hr2
 rcases r2 with r2 | r2
 ·conv=>rhs;whnf
  exact Zh rfl
 ·conv=>rhs;whnf
  exact Zh rfl
def ZnI (r:Bool):D:=(D.bool r)
theorem Zhe {t0 t1:Bool}{t2 t3:Bool}{a:Zp}{b:Int}:∀r,(Zff a b)=some r→evD ctx 78 [(.d (D.agg (dA t0 t1 t2 t3 a))),(.d (Ze b))]=some (ZnI r):=by
 show ZN _ (fun r rhs=>rhs=some (ZnI r)) _
 unfold Zff
 rw[Zbj ctx 78 ZEZ _ rfl rfl]
 conv=>rhs;whnf
 refine Zf rfl ?_ ?_<;>conv=>rhs;whnf
 ·refine Zm (ZK _ _) ?_;conv=>rhs;whnf
  refine Zf rfl ?_ ?_<;>conv=>rhs;whnf
  ·exact Zh rfl
  ·exact Zh rfl
 ·exact Zh rfl
def Zm0 (r:Bool):D:=(D.bool r)
def Zkn (t0:Bool) (t1:Bool) (t2:Bool) (t3:Bool) (a:Zp) (s0:Int) (x1:Zo):(Unit⊕Unit)→Ex×List V×Zs
  | (.inl r)=>(.ret,[(.ptr 0 0),(.d (D.bool false)),(.d (Ze s0))],[(.cells (dV t0 t1 t2 t3 a))])
  | (.inr r)=>(.exit 2,[(.ptr 0 0),.bad,(.d (Ze s0))],[(.cells (dV t0 t1 t2 t3 a))])
theorem Zot {t0 t1:Bool}{t2 t3:Bool}{a:Zp}{s0:Int}{x1:Zo}:∀(s4:Int) (r:(Unit⊕Unit)),lp (Zfs a s0 x1) s4=some r→lpW ctx 0 [1,3,4,5] [1,2,3] ZzY [(.ptr 0 0),(.d (Ze s0)),(.ptr 1 0),(.d (Ze s4))] [(.cells (dV t0 t1 t2 t3 a)),(.cells [(.d (Ze x1.src)),(.d (Ze x1.dst))])]=some ((Zkn t0 t1 t2 t3 a s0 x1) r):=by
 refine Zah (Zkn t0 t1 t2 t3 a s0 x1) ?_
 intro s4 rcl ih
 show ZN _ _ (lpW _ _ _ _ _ _ _)
 unfold Zfs
 rw[Zai]
 conv=>rhs;whnf
 refine Zf rfl ?_ ?_<;>conv=>rhs;whnf
 ·refine Zk rfl rfl fun x5 hx5=>?_;conv=>rhs;whnf
  refine Zf rfl ?_ ?_<;>conv=>rhs;whnf
  ·refine Zg (Zam rfl hx5) ?_;conv=>rhs;whnf
   refine Zf rfl ?_ ?_<;>conv=>rhs;whnf
   ·exact Zh rfl
   ·exact Zd (ih _)
  ·exact Zd (ih _)
 ·exact Zh rfl
def Zkx (t0:Bool) (t1:Bool) (t2:Bool) (t3:Bool) (a:Zp):(Unit⊕Unit)→Ex×List V×Zs
  | (.inl r)=>(.ret,[(.d (D.bool false))],[])
  | (.inr r)=>(.exit 0,[.bad],[])
theorem ZoD {t0 t1:Bool}{t2 t3:Bool}{a:Zp}:∀(s0:Int) (r:(Unit⊕Unit)),lp (Zfv a) s0=some r→lpW ctx 0 [1,3] [2] ZzB [(.ptr 0 0),(.d (Ze s0))] [(.cells (dV t0 t1 t2 t3 a))]=some ((Zkx t0 t1 t2 t3 a) r):=by
 refine Zah (Zkx t0 t1 t2 t3 a) ?_
 intro s0 rcl ih
 show ZN _ _ (lpW _ _ _ _ _ _ _)
 unfold Zfv
 rw[Zai]
 conv=>rhs;whnf
 refine Zm (ZK _ _) ?_;conv=>rhs;whnf
 refine Zf rfl ?_ ?_<;>conv=>rhs;whnf
 ·refine Zk rfl rfl fun x1 hx1=>?_;conv=>rhs;whnf
  refine Zq _ Zhe rfl fun x2 hx2=>?_;conv=>rhs;whnf
  refine Zf rfl ?_ ?_<;>conv=>rhs;whnf
  ·refine Zq _ Zhe rfl fun x3 hx3=>?_;conv=>rhs;whnf
   refine Zf rfl ?_ ?_<;>conv=>rhs;whnf
   ·refine Zf rfl ?_ ?_<;>conv=>rhs;whnf
    ·exact Zh rfl
    ·refine Zc _ (Zot _) fun r6 hr6=>?_
     clear hr6
     rcases r6 with r6 | r6
     ·conv=>rhs;whnf
      exact Zh rfl
     ·conv=>rhs;whnf
      exact Zd (ih _)
   ·exact Zh rfl
  ·exact Zh rfl
 ·exact Zh rfl
theorem ZqM {t0 t1:Bool}{t2 t3:Bool}{a:Zp}:∀r,(Zie a)=some r→evD ctx 56 [(.d (D.agg (dA t0 t1 t2 t3 a)))]=some (Zm0 r):=by
 show ZN _ (fun r rhs=>rhs=some (Zm0 r)) _
 unfold Zie
 rw[Zbj ctx 56 ZEl _ rfl rfl]
 conv=>rhs;whnf
 refine Zc _ (ZoD _) fun r7 hr7=>?_
 clear hr7
 rcases r7 with r7 | r7
 ·conv=>rhs;whnf
  exact Zh rfl
 ·conv=>rhs;whnf
  exact Zh rfl
def Zlr (r:Bool):D:=(D.bool r)
def ZjO (t0:Bool) (t1:Bool) (t2:Bool) (t3:Bool) (a:Zp) (s0:Int) (x1:Zl):(Unit⊕Unit)→Ex×List V×Zs
  | (.inl r)=>(.ret,[(.ptr 0 0),(.d (D.bool false)),(.d (Ze s0))],[(.cells (dV t0 t1 t2 t3 a))])
  | (.inr r)=>(.exit 2,[(.ptr 0 0),.bad,(.d (Ze s0))],[(.cells (dV t0 t1 t2 t3 a))])
theorem Znm {t0 t1:Bool}{t2 t3:Bool}{a:Zp}{s0:Int}{x1:Zl}:∀(s5:Int) (r:(Unit⊕Unit)),lp (Zeb a s0 x1) s5=some r→lpW ctx 0 [1,3,4,5] [1,2,3] Zz9 [(.ptr 0 0),(.d (Ze s0)),(.ptr 1 0),(.d (Ze s5))] [(.cells (dV t0 t1 t2 t3 a)),(.cells [(.d (Ze x1.maker)),(.d (Ze x1.user)),(.d (Ze x1.pos))])]=some ((ZjO t0 t1 t2 t3 a s0 x1) r):=by
 refine Zah (ZjO t0 t1 t2 t3 a s0 x1) ?_
 intro s5 rcl ih
 show ZN _ _ (lpW _ _ _ _ _ _ _)
 unfold Zeb
 rw[Zai]
 conv=>rhs;whnf
 refine Zf rfl ?_ ?_<;>conv=>rhs;whnf
 ·refine Zk rfl rfl fun x6 hx6=>?_;conv=>rhs;whnf
  refine Zf rfl ?_ ?_<;>conv=>rhs;whnf
  ·refine Zg (Zam rfl hx6) ?_;conv=>rhs;whnf
   refine Zf rfl ?_ ?_<;>conv=>rhs;whnf
   ·exact Zh rfl
   ·exact Zd (ih _)
  ·exact Zd (ih _)
 ·exact Zh rfl
def Zjy (t0:Bool) (t1:Bool) (t2:Bool) (t3:Bool) (a:Zp):(Unit⊕Unit)→Ex×List V×Zs
  | (.inl r)=>(.ret,[(.d (D.bool false))],[])
  | (.inr r)=>(.exit 0,[.bad],[])
theorem Zng {t0 t1:Bool}{t2 t3:Bool}{a:Zp}:∀(s0:Int) (r:(Unit⊕Unit)),lp (Zec a) s0=some r→lpW ctx 0 [1,3] [2] ZAJ [(.ptr 0 0),(.d (Ze s0))] [(.cells (dV t0 t1 t2 t3 a))]=some ((Zjy t0 t1 t2 t3 a) r):=by
 refine Zah (Zjy t0 t1 t2 t3 a) ?_
 intro s0 rcl ih
 show ZN _ _ (lpW _ _ _ _ _ _ _)
 unfold Zec
 rw[Zai]
 conv=>rhs;whnf
 refine Zm (ZK _ _) ?_;conv=>rhs;whnf
 refine Zf rfl ?_ ?_<;>conv=>rhs;whnf
 ·refine Zk rfl rfl fun x1 hx1=>?_;conv=>rhs;whnf
  refine Zq _ Zhe rfl fun x2 hx2=>?_;conv=>rhs;whnf
  refine Zf rfl ?_ ?_<;>conv=>rhs;whnf
  ·refine Zq _ Zhe rfl fun x3 hx3=>?_;conv=>rhs;whnf
   refine Zf rfl ?_ ?_<;>conv=>rhs;whnf
   ·refine Zf rfl ?_ ?_<;>conv=>rhs;whnf
    ·exact Zh rfl
    ·refine Zf rfl ?_ ?_<;>conv=>rhs;whnf
     ·exact Zh rfl
     ·refine Zk rfl rfl fun x4 hx4=>?_;conv=>rhs;whnf
      refine Zf rfl ?_ ?_<;>conv=>rhs;whnf
      ·exact Zh rfl
      ·refine Zc _ (Znm _) fun r7 hr7=>?_
       clear hr7
       rcases r7 with r7 | r7
       ·conv=>rhs;whnf
        exact Zh rfl
       ·conv=>rhs;whnf
        exact Zd (ih _)
   ·exact Zh rfl
  ·exact Zh rfl
 ·exact Zh rfl
theorem Zpf {t0 t1:Bool}{t2 t3:Bool}{a:Zp}:∀r,(Zhd a)=some r→evD ctx 57 [(.d (D.agg (dA t0 t1 t2 t3 a)))]=some (Zlr r):=by
 show ZN _ (fun r rhs=>rhs=some (Zlr r)) _
 unfold Zhd
 rw[Zbj ctx 57 ZEV _ rfl rfl]
 conv=>rhs;whnf
 refine Zc _ (Zng _) fun r8 hr8=>?_
 clear hr8
 rcases r8 with r8 | r8
 ·conv=>rhs;whnf
  exact Zh rfl
 ·conv=>rhs;whnf
  exact Zh rfl
def ZoZ (r:Bool):D:=(D.bool r)
def ZlJ (t0:Bool) (t1:Bool) (t2:Bool) (t3:Bool) (t4:Bool) (a:Zp) (b:List Int):(Unit⊕Unit)→Ex×List V×Zs
  | (.inl r)=>(.ret,[(.d (D.list t4 (List.map Ze b))),(.d (D.bool false))],[])
  | (.inr r)=>(.exit 0,[(.d (D.list t4 (List.map Ze b))),.bad],[])
theorem ZpR {t0 t1:Bool}{t2 t3 t4:Bool}{a:Zp}{b:List Int}:∀(s0:Int) (r:(Unit⊕Unit)),lp (ZgT a b) s0=some r→lpW ctx 0 [1,2,5] [1,4] Zzz [(.d (D.list t4 (List.map Ze b))),(.ptr 0 0),(.d (Ze s0))] [(.cells (dV t0 t1 t2 t3 a))]=some ((ZlJ t0 t1 t2 t3 t4 a b) r):=by
 refine Zah (ZlJ t0 t1 t2 t3 t4 a b) ?_
 intro s0 rcl ih
 show ZN _ _ (lpW _ _ _ _ _ _ _)
 unfold ZgT
 rw[Zai]
 conv=>rhs;whnf
 refine Zm (ZK _ _) ?_;conv=>rhs;whnf
 refine Zf rfl ?_ ?_<;>conv=>rhs;whnf
 ·refine Zk rfl rfl fun x1 hx1=>?_;conv=>rhs;whnf
  refine Zq _ Zhe rfl fun x2 hx2=>?_;conv=>rhs;whnf
  refine Zf rfl ?_ ?_<;>conv=>rhs;whnf
  ·refine Zf rfl ?_ ?_<;>conv=>rhs;whnf
   ·refine Zk rfl rfl fun x3 hx3=>?_;conv=>rhs;whnf
    refine Zg (Zam rfl hx1) ?_;conv=>rhs;whnf
    refine Zf rfl ?_ ?_<;>conv=>rhs;whnf
    ·exact Zh rfl
    ·exact Zd (ih _)
   ·exact Zd (ih _)
  ·exact Zh rfl
 ·exact Zh rfl
theorem ZnW {t0 t1:Bool}{t2 t3 t4:Bool}{a:Zp}{b:List Int}:∀r,(ZiF a b)=some r→evD ctx 79 [(.d (D.agg (dA t0 t1 t2 t3 a))),(.d (D.list t4 (List.map Ze b)))]=some (ZoZ r):=by
 show ZN _ (fun r rhs=>rhs=some (ZoZ r)) _
 unfold ZiF
 rw[Zbj ctx 79 ZDN _ rfl rfl]
 conv=>rhs;whnf
 refine Zc _ (ZpR _) fun r4 hr4=>?_
 clear hr4
 rcases r4 with r4 | r4
 ·conv=>rhs;whnf
  exact Zh rfl
 ·conv=>rhs;whnf
  refine Zm (ZK _ _) ?_;conv=>rhs;whnf
  refine Zf rfl ?_ ?_<;>conv=>rhs;whnf
  ·exact Zh rfl
  ·exact Zh rfl
def ZoX (r:Bool):D:=(D.bool r)
def ZlZ (t0:Bool) (a:List Int) (b:Int):(Unit⊕Unit)→Ex×List V×Zs
  | (.inl r)=>(.ret,[(.d (D.bool true))],[])
  | (.inr r)=>(.exit 0,[.bad],[])
theorem Zp4 {t0:Bool}{a:List Int}{b:Int}:∀(s0:Int) (r:(Unit⊕Unit)),lp (ZgQ a b) s0=some r→lpW ctx 0 [0,1,5] [4] ZA4 [(.d (D.list t0 (List.map Ze a))),(.d (Ze b)),(.d (Ze s0))] []=some ((ZlZ t0 a b) r):=by
 refine Zah (ZlZ t0 a b) ?_
 intro s0 rcl ih
 show ZN _ _ (lpW _ _ _ _ _ _ _)
 unfold ZgQ
 rw[Zai]
 conv=>rhs;whnf
 refine Zm (ZK _ _) ?_;conv=>rhs;whnf
 refine Zf rfl ?_ ?_<;>conv=>rhs;whnf
 ·refine Zk rfl rfl fun x1 hx1=>?_;conv=>rhs;whnf
  refine Zf rfl ?_ ?_<;>conv=>rhs;whnf
  ·exact Zh rfl
  ·exact Zd (ih _)
 ·exact Zh rfl
theorem ZsE {t0:Bool}{a:List Int}{b:Int}:∀r,(ZjE a b)=some r→evD ctx 80 [(.d (D.list t0 (List.map Ze a))),(.d (Ze b))]=some (ZoX r):=by
 show ZN _ (fun r rhs=>rhs=some (ZoX r)) _
 unfold ZjE
 rw[Zbj ctx 80 ZE1 _ rfl rfl]
 conv=>rhs;whnf
 refine Zc _ (Zp4 _) fun r2 hr2=>?_
 clear hr2
 rcases r2 with r2 | r2
 ·conv=>rhs;whnf
  exact Zh rfl
 ·conv=>rhs;whnf
  exact Zh rfl
def ZkE (r:Bool):D:=(D.bool r)
def Zi2 (t0:Bool) (t1:Bool) (t2:Bool) (t3:Bool) (a:Zp) (s0:Int) (x1:Zw):(Unit⊕Unit)→Ex×List V×Zs
  | (.inl r)=>(.ret,[(.ptr 0 0),(.d (D.bool false)),(.d (Ze s0))],[(.cells (dV t0 t1 t2 t3 a))])
  | (.inr r)=>(.exit 2,[(.ptr 0 0),.bad,(.d (Ze s0))],[(.cells (dV t0 t1 t2 t3 a))])
theorem ZmF {t0 t1:Bool}{t2 t3:Bool}{a:Zp}{s0:Int}{x1:Zw}:∀(s4:Int) (r:(Unit⊕Unit)),lp (ZdS x1) s4=some r→lpW ctx 0 [1,3,4,5] [1,2,3] ZAP [(.ptr 0 0),(.d (Ze s0)),(.ptr 1 0),(.d (Ze s4))] [(.cells (dV t0 t1 t2 t3 a)),(.cells [(.d (D.list true (List.map Ze x1.ins))),(.d (D.list true (List.map Ze x1.outs)))])]=some ((Zi2 t0 t1 t2 t3 a s0 x1) r):=by
 refine Zah (Zi2 t0 t1 t2 t3 a s0 x1) ?_
 intro s4 rcl ih
 show ZN _ _ (lpW _ _ _ _ _ _ _)
 unfold ZdS
 rw[Zai]
 conv=>rhs;whnf
 refine Zm (ZK _ _) ?_;conv=>rhs;whnf
 refine Zf rfl ?_ ?_<;>conv=>rhs;whnf
 ·refine Zk rfl rfl fun x5 hx5=>?_;conv=>rhs;whnf
  refine Zq _ ZsE rfl fun x6 hx6=>?_;conv=>rhs;whnf
  refine Zf rfl ?_ ?_<;>conv=>rhs;whnf
  ·exact Zh rfl
  ·exact Zd (ih _)
 ·exact Zh rfl
def Zi5 (t0:Bool) (t1:Bool) (t2:Bool) (t3:Bool) (a:Zp):(Unit⊕Unit)→Ex×List V×Zs
  | (.inl r)=>(.ret,[(.d (D.bool false))],[])
  | (.inr r)=>(.exit 0,[.bad],[])
theorem ZmA {t0 t1:Bool}{t2 t3:Bool}{a:Zp}:∀(s0:Int) (r:(Unit⊕Unit)),lp (ZdT a) s0=some r→lpW ctx 0 [1,3] [2] Zza [(.ptr 0 0),(.d (Ze s0))] [(.cells (dV t0 t1 t2 t3 a))]=some ((Zi5 t0 t1 t2 t3 a) r):=by
 refine Zah (Zi5 t0 t1 t2 t3 a) ?_
 intro s0 rcl ih
 show ZN _ _ (lpW _ _ _ _ _ _ _)
 unfold ZdT
 rw[Zai]
 conv=>rhs;whnf
 refine Zm (ZK _ _) ?_;conv=>rhs;whnf
 refine Zf rfl ?_ ?_<;>conv=>rhs;whnf
 ·refine Zk rfl rfl fun x1 hx1=>?_;conv=>rhs;whnf
  refine Zq _ ZnW rfl fun x2 hx2=>?_;conv=>rhs;whnf
  refine Zf rfl ?_ ?_<;>conv=>rhs;whnf
  ·refine Zq _ ZnW rfl fun x3 hx3=>?_;conv=>rhs;whnf
   refine Zf rfl ?_ ?_<;>conv=>rhs;whnf
   ·refine Zc _ (ZmF _) fun r7 hr7=>?_
    clear hr7
    rcases r7 with r7 | r7
    ·conv=>rhs;whnf
     exact Zh rfl
    ·conv=>rhs;whnf
     exact Zd (ih _)
   ·exact Zh rfl
  ·exact Zh rfl
 ·exact Zh rfl
theorem Zoe {t0 t1:Bool}{t2 t3:Bool}{a:Zp}:∀r,(ZgL a)=some r→evD ctx 58 [(.d (D.agg (dA t0 t1 t2 t3 a)))]=some (ZkE r):=by
 show ZN _ (fun r rhs=>rhs=some (ZkE r)) _
 unfold ZgL
 rw[Zbj ctx 58 ZDV _ rfl rfl]
 conv=>rhs;whnf
 refine Zc _ (ZmA _) fun r8 hr8=>?_
 clear hr8
 rcases r8 with r8 | r8
 ·conv=>rhs;whnf
  exact Zh rfl
 ·conv=>rhs;whnf
  exact Zh rfl
def Zm1 (r:Int):D:=(Ze r)
theorem ZqL {t0 t1:Bool}{t2 t3:Bool}{a:Zp}:∀r,(Zib a)=some r→evD ctx 31 [(.d (D.agg (dA t0 t1 t2 t3 a)))]=some (Zm1 r):=by
 show ZN _ (fun r rhs=>rhs=some (Zm1 r)) _
 unfold Zib
 rw[Zbj ctx 31 ZD6 _ rfl rfl]
 conv=>rhs;whnf
 refine Zm (ZK _ _) ?_;conv=>rhs;whnf
 refine Zf rfl ?_ ?_<;>conv=>rhs;whnf
 ·exact Zh rfl
 ·refine Zm (ZK _ _) ?_;conv=>rhs;whnf
  refine Zf rfl ?_ ?_<;>conv=>rhs;whnf
  ·exact Zh rfl
  ·refine Zm (ZK _ _) ?_;conv=>rhs;whnf
   refine Zf rfl ?_ ?_<;>conv=>rhs;whnf
   ·exact Zh rfl
   ·refine Zm (ZK _ _) ?_;conv=>rhs;whnf
    refine Zf rfl ?_ ?_<;>conv=>rhs;whnf
    ·exact Zh rfl
    ·refine Zm (ZK _ _) ?_;conv=>rhs;whnf
     refine Zf rfl ?_ ?_<;>conv=>rhs;whnf
     ·exact Zh rfl
     ·refine Zq _ ZrB rfl fun x0 hx0=>?_;conv=>rhs;whnf
      refine Zf rfl ?_ ?_<;>conv=>rhs;whnf
      ·refine Zq _ ZqP rfl fun x1 hx1=>?_;conv=>rhs;whnf
       refine Zf rfl ?_ ?_<;>conv=>rhs;whnf
       ·refine Zq _ ZqM rfl fun x2 hx2=>?_;conv=>rhs;whnf
        refine Zf rfl ?_ ?_<;>conv=>rhs;whnf
        ·refine Zq _ Zpf rfl fun x3 hx3=>?_;conv=>rhs;whnf
         refine Zf rfl ?_ ?_<;>conv=>rhs;whnf
         ·refine Zq _ Zoe rfl fun x4 hx4=>?_;conv=>rhs;whnf
          refine Zf rfl ?_ ?_<;>conv=>rhs;whnf
          ·exact Zh rfl
          ·exact Zh rfl
         ·exact Zh rfl
        ·exact Zh rfl
       ·exact Zh rfl
      ·exact Zh rfl
def Zlf (r:List Int):D:=(D.list true (List.map Ze r))
def ZjI (t0:Bool) (t1:Bool) (t2:Bool) (t3:Bool) (a:Zp) (b:Int) (s0:Int×(List Int)):(List Int)→Ex×List V×Zs
  | r=>(.exit 2,[(.d (Ze b)),(.ptr 0 0),(.sl 1 1),(.d (Ze s0.1))],[(.cells (dV t0 t1 t2 t3 a)),(.arr 1 (List.map Ze r))])
theorem Znh {t0 t1:Bool}{t2 t3:Bool}{a:Zp}{b:Int}{s0:Int×(List Int)}:∀(s1:Int×(List Int)) (r:List Int),lp (Zdu a b s0) s1=some r→lpW ctx 0 [1,2,5,6,7] [1,2,5,6] ZBY [(.d (Ze b)),(.ptr 0 0),(.sl 1 1),(.d (Ze s0.1)),(.d (Ze s1.1))] [(.cells (dV t0 t1 t2 t3 a)),(.arr 1 (List.map Ze s1.2))]=some ((ZjI t0 t1 t2 t3 a b s0) r):=by
 refine Zah (ZjI t0 t1 t2 t3 a b s0) ?_
 intro s1 rcl ih
 show ZN _ _ (lpW _ _ _ _ _ _ _)
 unfold Zdu
 rw[Zai]
 conv=>rhs;whnf
 refine Zm (ZK _ _) ?_;conv=>rhs;whnf
 refine Zf rfl ?_ ?_<;>conv=>rhs;whnf
 ·refine Zk rfl rfl fun x2 hx2=>?_;conv=>rhs;whnf
  refine Zf rfl ?_ ?_<;>conv=>rhs;whnf
  ·refine Zg (Zam rfl hx2) ?_;conv=>rhs;whnf
   refine Zf rfl ?_ ?_<;>conv=>rhs;whnf
   ·refine Zbl rfl ?_;conv=>rhs;whnf
    refine Zf (Zfd Ze s1.2 1) ?_ ?_
    ·conv=>rhs;whnf
     refine Zm (Zfc Ze s1.2 [s1.1]) ?_;conv=>rhs;whnf
     exact Zd (ih _)
    ·exact ZaH
   ·exact Zd (ih _)
  ·exact Zd (ih _)
 ·exact Zh rfl
def ZjG (t0:Bool) (t1:Bool) (t2:Bool) (t3:Bool) (a:Zp) (b:Int):(List Int)→Ex×List V×Zs
  | r=>(.exit 0,[(.sl 0 1)],[(.arr 1 (List.map Ze r))])
theorem Zni {t0 t1:Bool}{t2 t3:Bool}{a:Zp}{b:Int}:∀(s0:Int×(List Int)) (r:List Int),lp (ZfW a b) s0=some r→lpW ctx 0 [1,2,5,6] [5] ZBf [(.d (Ze b)),(.ptr 0 0),(.sl 1 1),(.d (Ze s0.1))] [(.cells (dV t0 t1 t2 t3 a)),(.arr 1 (List.map Ze s0.2))]=some ((ZjG t0 t1 t2 t3 a b) r):=by
 refine Zah (ZjG t0 t1 t2 t3 a b) ?_
 intro s0 rcl ih
 show ZN _ _ (lpW _ _ _ _ _ _ _)
 unfold ZfW
 rw[Zai]
 conv=>rhs;whnf
 refine Zf rfl ?_ ?_<;>conv=>rhs;whnf
 ·refine Zc _ (Znh _) fun r3 hr3=>?_;conv=>rhs;whnf
  exact Zd (ih _)
 ·exact Zh rfl
theorem Zko {t0 t1:Bool}{t2 t3:Bool}{a:Zp}{b:Int}:∀r,(Ze0 a b)=some r→evD ctx 81 [(.d (D.agg (dA t0 t1 t2 t3 a))),(.d (Ze b))]=some (Zlf r):=by
 show ZN _ (fun r rhs=>rhs=some (Zlf r)) _
 unfold Ze0
 rw[Zbj ctx 81 ZDK _ rfl rfl]
 conv=>rhs;whnf
 refine Zc _ (Zni _) fun r4 hr4=>?_;conv=>rhs;whnf
 exact Zh rfl
def Zne (r:List Int):D:=(D.list true (List.map Ze r))
def Zk7 (t0:Bool) (t1:Bool) (t2:Bool) (t3:Bool) (a:Zp) (b:Int) (x0:List Int):(Int×(List Int))→Ex×List V×Zs
  | r=>(.exit 0,[(.d (Ze b)),(.ptr 0 0),(.sl 1 1),(.d (Ze r.1))],[(.cells (dV t0 t1 t2 t3 a)),(.arr 1 (List.map Ze r.2))])
theorem Zod {t0 t1:Bool}{t2 t3:Bool}{a:Zp}{b:Int}{x0:List Int}:∀(s1:Int×Int×(List Int)) (r:(Int×(List Int))),lp (Zeg a x0) s1=some r→lpW ctx 0 [1,2,5,6,7,8] [1,2,5,6] ZBN [(.d (Ze b)),(.ptr 0 0),(.sl 1 1),(.d (Ze s1.1)),(.d (D.list true (List.map Ze x0))),(.d (Ze s1.2.1))] [(.cells (dV t0 t1 t2 t3 a)),(.arr 1 (List.map Ze s1.2.2))]=some ((Zk7 t0 t1 t2 t3 a b x0) r):=by
 refine Zah (Zk7 t0 t1 t2 t3 a b x0) ?_
 intro s1 rcl ih
 show ZN _ _ (lpW _ _ _ _ _ _ _)
 unfold Zeg
 rw[Zai]
 conv=>rhs;whnf
 refine Zm (ZK _ _) ?_;conv=>rhs;whnf
 refine Zf rfl ?_ ?_<;>conv=>rhs;whnf
 ·refine Zk rfl rfl fun x2 hx2=>?_;conv=>rhs;whnf
  refine Zk rfl rfl fun x3 hx3=>?_;conv=>rhs;whnf
  refine Zbl rfl ?_;conv=>rhs;whnf
  refine Zf (Zfd Ze s1.2.2 1) ?_ ?_
  ·conv=>rhs;whnf
   refine Zm (Zfc Ze s1.2.2 [(w64 (x3.pos-s1.1))]) ?_;conv=>rhs;whnf
   exact Zd (ih _)
  ·exact ZaH
 ·exact Zh rfl
theorem Zmf {t0 t1:Bool}{t2 t3:Bool}{a:Zp}{b:Int}:∀r,(Zhk a b)=some r→evD ctx 59 [(.d (D.agg (dA t0 t1 t2 t3 a))),(.d (Ze b))]=some (Zne r):=by
 show ZN _ (fun r rhs=>rhs=some (Zne r)) _
 unfold Zhk
 rw[Zbj ctx 59 ZDF _ rfl rfl]
 conv=>rhs;whnf
 refine Zq _ Zko rfl fun x0 hx0=>?_;conv=>rhs;whnf
 refine Zc _ (Zod _) fun r4 hr4=>?_;conv=>rhs;whnf
 refine Zk rfl rfl fun x5 hx5=>?_;conv=>rhs;whnf
 refine Zbl rfl ?_;conv=>rhs;whnf
 refine Zf (Zfd Ze r4.2 1) ?_ ?_
 ·conv=>rhs;whnf
  refine Zm (Zfc Ze r4.2 [(w64 (x5.work-r4.1))]) ?_;conv=>rhs;whnf
  exact Zh rfl
 ·exact ZaH
def Zm5 (r:Int):D:=(Ze r)
def ZkQ (t0:Bool) (t1:Bool) (t2:Bool) (t3:Bool) (a:Zp) (b:Int):Int→Ex×List V×Zs
  | r=>(.exit 0,[(.d (Ze r))],[])
theorem Zof {t0 t1:Bool}{t2 t3:Bool}{a:Zp}{b:Int}:∀(s0:Int×Int) (r:Int),lp (Zd6 a b) s0=some r→lpW ctx 0 [1,2,5,6] [5] ZAU [(.d (Ze b)),(.ptr 0 0),(.d (Ze s0.1)),(.d (Ze s0.2))] [(.cells (dV t0 t1 t2 t3 a))]=some ((ZkQ t0 t1 t2 t3 a b) r):=by
 refine Zah (ZkQ t0 t1 t2 t3 a b) ?_
 intro s0 rcl ih
 show ZN _ _ (lpW _ _ _ _ _ _ _)
 unfold Zd6
 rw[Zai]
 conv=>rhs;whnf
 refine Zf rfl ?_ ?_<;>conv=>rhs;whnf
 ·refine Zq _ Zmf rfl fun x1 hx1=>?_;conv=>rhs;whnf
  refine Zm (ZK _ _) ?_;conv=>rhs;whnf
  exact Zd (ih _)
 ·exact Zh rfl
theorem Zfy {t0 t1:Bool}{t2 t3:Bool}{a:Zp}{b:Int}:∀r,(Zdi a b)=some r→evD ctx 60 [(.d (D.agg (dA t0 t1 t2 t3 a))),(.d (Ze b))]=some (Zm5 r):=by
 show ZN _ (fun r rhs=>rhs=some (Zm5 r)) _
 unfold Zdi
 rw[Zbj ctx 60 ZDs _ rfl rfl]
 conv=>rhs;whnf
 refine Zc _ (Zof _) fun r2 hr2=>?_;conv=>rhs;whnf
 exact Zh rfl
def Znd (r:Int):D:=(Ze r)
theorem Zi8 {t0 t1:Bool}{t2 t3:Bool}{a:Zp}{b:Int}:∀r,(Zgu a b)=some r→evD ctx 61 [(.d (D.agg (dA t0 t1 t2 t3 a))),(.d (Ze b))]=some (Znd r):=by
 show ZN _ (fun r rhs=>rhs=some (Znd r)) _
 unfold Zgu
 rw[Zbj ctx 61 ZEc _ rfl rfl]
 conv=>rhs;whnf
 refine Zq _ Zfy rfl fun x0 hx0=>?_;conv=>rhs;whnf
 exact Zh rfl
def Zm7 (r:Int):D:=(Ze r)
def Zkp (t0:Bool) (t1:Bool) (t2:Bool) (t3:Bool) (a:Zp) (b:Zl) (x0:List Int):(Int⊕Unit)→Ex×List V×Zs
  | (.inl r)=>(.ret,[(.d (Ze r))],[])
  | (.inr r)=>(.exit 0,[.bad],[])
theorem Zoh {t0 t1:Bool}{t2 t3:Bool}{a:Zp}{b:Zl}{x0:List Int}:∀(s1:Int) (r:(Int⊕Unit)),lp (Zfx a b x0) s1=some r→lpW ctx 0 [2,3,5,6] [4] ZBa [(.ptr 0 0),(.ptr 1 0),(.d (D.list true (List.map Ze x0))),(.d (Ze s1))] [(.cells (dV t0 t1 t2 t3 a)),(.cells [(.d (Ze b.maker)),(.d (Ze b.user)),(.d (Ze b.pos))])]=some ((Zkp t0 t1 t2 t3 a b x0) r):=by
 refine Zah (Zkp t0 t1 t2 t3 a b x0) ?_
 intro s1 rcl ih
 show ZN _ _ (lpW _ _ _ _ _ _ _)
 unfold Zfx
 rw[Zai]
 conv=>rhs;whnf
 refine Zm (ZK _ _) ?_;conv=>rhs;whnf
 refine Zf rfl ?_ ?_<;>conv=>rhs;whnf
 ·refine Zk rfl rfl fun x2 hx2=>?_;conv=>rhs;whnf
  refine Zk rfl rfl fun x3 hx3=>?_;conv=>rhs;whnf
  refine Zf rfl ?_ ?_<;>conv=>rhs;whnf
  ·refine Zq _ Zfy rfl fun x4 hx4=>?_;conv=>rhs;whnf
   exact Zh rfl
  ·exact Zd (ih _)
 ·exact Zh rfl
theorem ZqO {t0 t1:Bool}{t2 t3:Bool}{a:Zp}{b:Zl}:∀r,(Ziq a b)=some r→evD ctx 62 [(.d (D.agg (dA t0 t1 t2 t3 a))),(.d (D.agg [(Ze b.maker),(Ze b.user),(Ze b.pos)]))]=some (Zm7 r):=by
 show ZN _ (fun r rhs=>rhs=some (Zm7 r)) _
 unfold Ziq
 rw[Zbj ctx 62 ZDY _ rfl rfl]
 conv=>rhs;whnf
 refine Zq _ Zko rfl fun x0 hx0=>?_;conv=>rhs;whnf
 refine Zc _ (Zoh _) fun r5 hr5=>?_
 clear hr5
 rcases r5 with r5 | r5
 ·conv=>rhs;whnf
  exact Zh rfl
 ·conv=>rhs;whnf
  exact Zh rfl
def Zna (r:Znj):D:=(D.agg [(D.list true (List.map Ze r.dag.work)),(D.list true (List.map ZA r.dag.edges)),(D.list true (List.map Zbe r.pieces))])
def Zkv (t0:Bool) (t1:Bool) (t2:Bool) (t3:Bool) (a:Zp) (s0:Int×(List Zo)×(List Int)×(List Zj)) (x1:List Int):((List Zo)×(List Int)×(List Zj))→Ex×List V×Zs
  | r=>(.exit 2,[(.ptr 0 0),(.ptr 1 0),(.ptr 2 0),(.sl 3 2),(.d (Ze s0.1))],[(.cells (dV t0 t1 t2 t3 a)),(.cells [(.sl 4 1),(.sl 5 2),(.sl 6 2)]),(.cells [(.sl 7 1),(.sl 8 2),(.sl 9 2)]),(.arr 2 (List.map ZA r.1)),(.arr 1 []),(.arr 2 []),(.arr 2 []),(.arr 1 (List.map Ze r.2.1)),(.arr 2 []),(.arr 2 (List.map Zbe r.2.2))])
theorem Zow {t0 t1:Bool}{t2 t3:Bool}{a:Zp}{s0:Int×(List Zo)×(List Int)×(List Zj)}{x1:List Int}:∀(s2:Int×(List Zo)×(List Int)×(List Zj)) (r:((List Zo)×(List Int)×(List Zj))),lp (Zd7 a s0 x1) s2=some r→lpW ctx 0 [1,2,3,4,5,6,7] [1,2,3,4,5] ZzP [(.ptr 0 0),(.ptr 1 0),(.ptr 2 0),(.sl 3 2),(.d (Ze s0.1)),(.d (D.list true (List.map Ze x1))),(.d (Ze s2.1))] [(.cells (dV t0 t1 t2 t3 a)),(.cells [(.sl 4 1),(.sl 5 2),(.sl 6 2)]),(.cells [(.sl 7 1),(.sl 8 2),(.sl 9 2)]),(.arr 2 (List.map ZA s2.2.1)),(.arr 1 []),(.arr 2 []),(.arr 2 []),(.arr 1 (List.map Ze s2.2.2.1)),(.arr 2 []),(.arr 2 (List.map Zbe s2.2.2.2))]=some ((Zkv t0 t1 t2 t3 a s0 x1) r):=by
 refine Zah (Zkv t0 t1 t2 t3 a s0 x1) ?_
 intro s2 rcl ih
 show ZN _ _ (lpW _ _ _ _ _ _ _)
 unfold Zd7
 rw[Zai]
 conv=>rhs;whnf
 refine Zm (ZK _ _) ?_;conv=>rhs;whnf
 refine Zf rfl ?_ ?_<;>conv=>rhs;whnf
 ·refine Zbl rfl ?_;conv=>rhs;whnf
  refine Zf (Zfd Zbe s2.2.2.2 1) ?_ ?_
  ·conv=>rhs;whnf
   refine Zm (Zfc Zbe s2.2.2.2 [(Zj.mk s0.1 s2.1)]) ?_;conv=>rhs;whnf
   refine Zk rfl rfl fun x3 hx3=>?_;conv=>rhs;whnf
   refine Zbl rfl ?_;conv=>rhs;whnf
   refine Zf (Zfd Ze s2.2.2.1 1) ?_ ?_
   ·conv=>rhs;whnf
    refine Zm (Zfc Ze s2.2.2.1 [x3]) ?_;conv=>rhs;whnf
    refine Zf rfl ?_ ?_<;>conv=>rhs;whnf
    ·refine Zq _ Zfy rfl fun x4 hx4=>?_;conv=>rhs;whnf
     refine Zq _ Zfy rfl fun x5 hx5=>?_;conv=>rhs;whnf
     refine Zbl rfl ?_;conv=>rhs;whnf
     refine Zf (Zfd ZA s2.2.1 1) ?_ ?_
     ·conv=>rhs;whnf
      refine Zm (Zfc ZA s2.2.1 [(Zo.mk (w64 ((w64 (x4+s2.1))-1)) (w64 (x5+s2.1)))]) ?_;conv=>rhs;whnf
      exact Zd (ih _)
     ·exact ZaH
    ·exact Zd (ih _)
   ·exact ZaH
  ·exact ZaH
 ·exact Zh rfl
def ZkS (t0:Bool) (t1:Bool) (t2:Bool) (t3:Bool) (a:Zp):((List Zo)×(List Int)×(List Zj))→Ex×List V×Zs
  | r=>(.exit 0,[(.ptr 0 0),(.ptr 1 0),(.ptr 2 0),(.sl 3 2)],[(.cells (dV t0 t1 t2 t3 a)),(.cells [(.sl 4 1),(.sl 5 2),(.sl 6 2)]),(.cells [(.sl 7 1),(.sl 8 2),(.sl 9 2)]),(.arr 2 (List.map ZA r.1)),(.arr 1 []),(.arr 2 []),(.arr 2 []),(.arr 1 (List.map Ze r.2.1)),(.arr 2 []),(.arr 2 (List.map Zbe r.2.2))])
theorem ZoA {t0 t1:Bool}{t2 t3:Bool}{a:Zp}:∀(s0:Int×(List Zo)×(List Int)×(List Zj)) (r:((List Zo)×(List Int)×(List Zj))),lp (Zeh a) s0=some r→lpW ctx 0 [1,2,3,4,5] [1,2,3,4] ZAQ [(.ptr 0 0),(.ptr 1 0),(.ptr 2 0),(.sl 3 2),(.d (Ze s0.1))] [(.cells (dV t0 t1 t2 t3 a)),(.cells [(.sl 4 1),(.sl 5 2),(.sl 6 2)]),(.cells [(.sl 7 1),(.sl 8 2),(.sl 9 2)]),(.arr 2 (List.map ZA s0.2.1)),(.arr 1 []),(.arr 2 []),(.arr 2 []),(.arr 1 (List.map Ze s0.2.2.1)),(.arr 2 []),(.arr 2 (List.map Zbe s0.2.2.2))]=some ((ZkS t0 t1 t2 t3 a) r):=by
 refine Zah (ZkS t0 t1 t2 t3 a) ?_
 intro s0 rcl ih
 show ZN _ _ (lpW _ _ _ _ _ _ _)
 unfold Zeh
 rw[Zai]
 conv=>rhs;whnf
 refine Zm (ZK _ _) ?_;conv=>rhs;whnf
 refine Zf rfl ?_ ?_<;>conv=>rhs;whnf
 ·refine Zq _ Zmf rfl fun x1 hx1=>?_;conv=>rhs;whnf
  refine Zc _ (Zow _) fun r6 hr6=>?_;conv=>rhs;whnf
  exact Zd (ih _)
 ·exact Zh rfl
def Zku (t0:Bool) (t1:Bool) (t2:Bool) (t3:Bool) (a:Zp) (r7:((List Zo)×(List Int)×(List Zj))):(List Zo)→Ex×List V×Zs
  | r=>(.exit 4,[(.ptr 0 0),(.ptr 1 0),(.ptr 2 0),(.sl 3 2)],[(.cells (dV t0 t1 t2 t3 a)),(.cells [(.sl 4 1),(.sl 5 2),(.sl 6 2)]),(.cells [(.sl 7 1),(.sl 8 2),(.sl 9 2)]),(.arr 2 (List.map ZA r)),(.arr 1 []),(.arr 2 []),(.arr 2 []),(.arr 1 (List.map Ze r7.2.1)),(.arr 2 []),(.arr 2 (List.map Zbe r7.2.2))])
theorem Zop {t0 t1:Bool}{t2 t3:Bool}{a:Zp}{r7:((List Zo)×(List Int)×(List Zj))}:∀(s8:Int×(List Zo)) (r:List Zo),lp (Zee a) s8=some r→lpW ctx 0 [1,2,3,4,8] [1,2,3,4] ZBh [(.ptr 0 0),(.ptr 1 0),(.ptr 2 0),(.sl 3 2),(.d (Ze s8.1))] [(.cells (dV t0 t1 t2 t3 a)),(.cells [(.sl 4 1),(.sl 5 2),(.sl 6 2)]),(.cells [(.sl 7 1),(.sl 8 2),(.sl 9 2)]),(.arr 2 (List.map ZA s8.2)),(.arr 1 []),(.arr 2 []),(.arr 2 []),(.arr 1 (List.map Ze r7.2.1)),(.arr 2 []),(.arr 2 (List.map Zbe r7.2.2))]=some ((Zku t0 t1 t2 t3 a r7) r):=by
 refine Zah (Zku t0 t1 t2 t3 a r7) ?_
 intro s8 rcl ih
 show ZN _ _ (lpW _ _ _ _ _ _ _)
 unfold Zee
 rw[Zai]
 conv=>rhs;whnf
 refine Zm (ZK _ _) ?_;conv=>rhs;whnf
 refine Zf rfl ?_ ?_<;>conv=>rhs;whnf
 ·refine Zk rfl rfl fun x9 hx9=>?_;conv=>rhs;whnf
  refine Zq _ Zi8 rfl fun x10 hx10=>?_;conv=>rhs;whnf
  refine Zg (Zam rfl hx9) ?_;conv=>rhs;whnf
  refine Zq _ Zfy rfl fun x11 hx11=>?_;conv=>rhs;whnf
  refine Zbl rfl ?_;conv=>rhs;whnf
  refine Zf (Zfd ZA s8.2 1) ?_ ?_
  ·conv=>rhs;whnf
   refine Zm (Zfc ZA s8.2 [(Zo.mk x10 x11)]) ?_;conv=>rhs;whnf
   exact Zd (ih _)
  ·exact ZaH
 ·exact Zh rfl
def ZkZ (t0:Bool) (t1:Bool) (t2:Bool) (t3:Bool) (a:Zp) (r7:((List Zo)×(List Int)×(List Zj))):(List Zo)→Ex×List V×Zs
  | r=>(.exit 6,[(.ptr 0 0),(.ptr 1 0),(.ptr 2 0),(.sl 3 2)],[(.cells (dV t0 t1 t2 t3 a)),(.cells [(.sl 4 1),(.sl 5 2),(.sl 6 2)]),(.cells [(.sl 7 1),(.sl 8 2),(.sl 9 2)]),(.arr 2 (List.map ZA r)),(.arr 1 []),(.arr 2 []),(.arr 2 []),(.arr 1 (List.map Ze r7.2.1)),(.arr 2 []),(.arr 2 (List.map Zbe r7.2.2))])
theorem Zor {t0 t1:Bool}{t2 t3:Bool}{a:Zp}{r7:((List Zo)×(List Int)×(List Zj))}:∀(s13:Int×(List Zo)) (r:List Zo),lp (Zd4 a) s13=some r→lpW ctx 0 [1,2,3,4,9] [1,2,3,4] ZA0 [(.ptr 0 0),(.ptr 1 0),(.ptr 2 0),(.sl 3 2),(.d (Ze s13.1))] [(.cells (dV t0 t1 t2 t3 a)),(.cells [(.sl 4 1),(.sl 5 2),(.sl 6 2)]),(.cells [(.sl 7 1),(.sl 8 2),(.sl 9 2)]),(.arr 2 (List.map ZA s13.2)),(.arr 1 []),(.arr 2 []),(.arr 2 []),(.arr 1 (List.map Ze r7.2.1)),(.arr 2 []),(.arr 2 (List.map Zbe r7.2.2))]=some ((ZkZ t0 t1 t2 t3 a r7) r):=by
 refine Zah (ZkZ t0 t1 t2 t3 a r7) ?_
 intro s13 rcl ih
 show ZN _ _ (lpW _ _ _ _ _ _ _)
 unfold Zd4
 rw[Zai]
 conv=>rhs;whnf
 refine Zm (ZK _ _) ?_;conv=>rhs;whnf
 refine Zf rfl ?_ ?_<;>conv=>rhs;whnf
 ·refine Zk rfl rfl fun x14 hx14=>?_;conv=>rhs;whnf
  refine Zq _ Zi8 rfl fun x15 hx15=>?_;conv=>rhs;whnf
  refine Zg (Zam rfl hx14) ?_;conv=>rhs;whnf
  refine Zq _ ZqO rfl fun x16 hx16=>?_;conv=>rhs;whnf
  refine Zbl rfl ?_;conv=>rhs;whnf
  refine Zf (Zfd ZA s13.2 1) ?_ ?_
  ·conv=>rhs;whnf
   refine Zm (Zfc ZA s13.2 [(Zo.mk x15 x16)]) ?_;conv=>rhs;whnf
   exact Zd (ih _)
  ·exact ZaH
 ·exact Zh rfl
def Zk2 (t0:Bool) (t1:Bool) (t2:Bool) (t3:Bool) (a:Zp) (s18:Int×(List Zo)×(List Int)×(List Zj)) (x19:Zw):(List Zo)→Ex×List V×Zs
  | r=>(.exit 10,[(.ptr 0 0),(.ptr 1 0),(.ptr 2 0),(.sl 3 2),(.d (Ze s18.1)),(.d (Ze (s18.2.2.2.length:Int))),(.ptr 4 0)],[(.cells (dV t0 t1 t2 t3 a)),(.cells [(.sl 5 1),(.sl 6 2),(.sl 7 2)]),(.cells [(.sl 8 1),(.sl 9 2),(.sl 10 2)]),(.arr 2 (List.map ZA r)),(.cells [(.d (D.list true (List.map Ze x19.ins))),(.d (D.list true (List.map Ze x19.outs)))]),(.arr 1 []),(.arr 2 []),(.arr 2 []),(.arr 1 (List.map Ze (s18.2.2.1++[1]))),(.arr 2 []),(.arr 2 (List.map Zbe (s18.2.2.2++[(Zj.mk (-1) s18.1)])))])
theorem Zoq {t0 t1:Bool}{t2 t3:Bool}{a:Zp}{s18:Int×(List Zo)×(List Int)×(List Zj)}{x19:Zw}:∀(s20:Int×(List Zo)) (r:List Zo),lp (ZfC a s18 x19) s20=some r→lpW ctx 0 [1,2,3,4,10,11,12,13] [1,2,3,4,10,11,12] Zzp [(.ptr 0 0),(.ptr 1 0),(.ptr 2 0),(.sl 3 2),(.d (Ze s18.1)),(.d (Ze (s18.2.2.2.length:Int))),(.ptr 4 0),(.d (Ze s20.1))] [(.cells (dV t0 t1 t2 t3 a)),(.cells [(.sl 5 1),(.sl 6 2),(.sl 7 2)]),(.cells [(.sl 8 1),(.sl 9 2),(.sl 10 2)]),(.arr 2 (List.map ZA s20.2)),(.cells [(.d (D.list true (List.map Ze x19.ins))),(.d (D.list true (List.map Ze x19.outs)))]),(.arr 1 []),(.arr 2 []),(.arr 2 []),(.arr 1 (List.map Ze (s18.2.2.1++[1]))),(.arr 2 []),(.arr 2 (List.map Zbe (s18.2.2.2++[(Zj.mk (-1) s18.1)])))]=some ((Zk2 t0 t1 t2 t3 a s18 x19) r):=by
 refine Zah (Zk2 t0 t1 t2 t3 a s18 x19) ?_
 intro s20 rcl ih
 show ZN _ _ (lpW _ _ _ _ _ _ _)
 unfold ZfC
 rw[Zai]
 conv=>rhs;whnf
 refine Zm (ZK _ _) ?_;conv=>rhs;whnf
 refine Zf rfl ?_ ?_<;>conv=>rhs;whnf
 ·refine Zk rfl rfl fun x21 hx21=>?_;conv=>rhs;whnf
  refine Zq _ Zi8 rfl fun x22 hx22=>?_;conv=>rhs;whnf
  refine Zbl rfl ?_;conv=>rhs;whnf
  refine Zf (Zfd ZA s20.2 1) ?_ ?_
  ·conv=>rhs;whnf
   refine Zm (Zfc ZA s20.2 [(Zo.mk x22 (s18.2.2.2.length:Int))]) ?_;conv=>rhs;whnf
   exact Zd (ih _)
  ·exact ZaH
 ·exact Zh rfl
def ZkA (t0:Bool) (t1:Bool) (t2:Bool) (t3:Bool) (a:Zp) (s18:Int×(List Zo)×(List Int)×(List Zj)) (x19:Zw):(List Zo)→Ex×List V×Zs
  | r=>(.exit 12,[(.ptr 0 0),(.ptr 1 0),(.ptr 2 0),(.sl 3 2),(.d (Ze s18.1))],[(.cells (dV t0 t1 t2 t3 a)),(.cells [(.sl 4 1),(.sl 5 2),(.sl 6 2)]),(.cells [(.sl 7 1),(.sl 8 2),(.sl 9 2)]),(.arr 2 (List.map ZA r)),(.arr 1 []),(.arr 2 []),(.arr 2 []),(.arr 1 (List.map Ze (s18.2.2.1++[1]))),(.arr 2 []),(.arr 2 (List.map Zbe (s18.2.2.2++[(Zj.mk (-1) s18.1)])))])
theorem ZoC {t0 t1:Bool}{t2 t3:Bool}{a:Zp}{s18:Int×(List Zo)×(List Int)×(List Zj)}{x19:Zw}:∀(s24:Int×(List Zo)) (r:List Zo),lp (Zfj a s18 x19) s24=some r→lpW ctx 0 [1,2,3,4,10,11,12,14] [1,2,3,4,10] ZA9 [(.ptr 0 0),(.ptr 1 0),(.ptr 2 0),(.sl 3 2),(.d (Ze s18.1)),(.d (Ze (s18.2.2.2.length:Int))),(.ptr 4 0),(.d (Ze s24.1))] [(.cells (dV t0 t1 t2 t3 a)),(.cells [(.sl 5 1),(.sl 6 2),(.sl 7 2)]),(.cells [(.sl 8 1),(.sl 9 2),(.sl 10 2)]),(.arr 2 (List.map ZA s24.2)),(.cells [(.d (D.list true (List.map Ze x19.ins))),(.d (D.list true (List.map Ze x19.outs)))]),(.arr 1 []),(.arr 2 []),(.arr 2 []),(.arr 1 (List.map Ze (s18.2.2.1++[1]))),(.arr 2 []),(.arr 2 (List.map Zbe (s18.2.2.2++[(Zj.mk (-1) s18.1)])))]=some ((ZkA t0 t1 t2 t3 a s18 x19) r):=by
 refine Zah (ZkA t0 t1 t2 t3 a s18 x19) ?_
 intro s24 rcl ih
 show ZN _ _ (lpW _ _ _ _ _ _ _)
 unfold Zfj
 rw[Zai]
 conv=>rhs;whnf
 refine Zm (ZK _ _) ?_;conv=>rhs;whnf
 refine Zf rfl ?_ ?_<;>conv=>rhs;whnf
 ·refine Zk rfl rfl fun x25 hx25=>?_;conv=>rhs;whnf
  refine Zq _ Zfy rfl fun x26 hx26=>?_;conv=>rhs;whnf
  refine Zbl rfl ?_;conv=>rhs;whnf
  refine Zf (Zfd ZA s24.2 1) ?_ ?_
  ·conv=>rhs;whnf
   refine Zm (Zfc ZA s24.2 [(Zo.mk (s18.2.2.2.length:Int) x26)]) ?_;conv=>rhs;whnf
   exact Zd (ih _)
  ·exact ZaH
 ·exact Zh rfl
def ZkV (t0:Bool) (t1:Bool) (t2:Bool) (t3:Bool) (a:Zp):((List Zo)×(List Int)×(List Zj))→Ex×List V×Zs
  | r=>(.exit 8,[(.ptr 0 0),(.ptr 1 0),(.sl 2 2)],[(.cells [(.sl 3 1),(.sl 4 2),(.sl 5 2)]),(.cells [(.sl 6 1),(.sl 7 2),(.sl 8 2)]),(.arr 2 (List.map ZA r.1)),(.arr 1 []),(.arr 2 []),(.arr 2 []),(.arr 1 (List.map Ze r.2.1)),(.arr 2 []),(.arr 2 (List.map Zbe r.2.2))])
theorem Zox {t0 t1:Bool}{t2 t3:Bool}{a:Zp}:∀(s18:Int×(List Zo)×(List Int)×(List Zj)) (r:((List Zo)×(List Int)×(List Zj))),lp (Zd2 a) s18=some r→lpW ctx 0 [1,2,3,4,10] [2,3,4] ZzL [(.ptr 0 0),(.ptr 1 0),(.ptr 2 0),(.sl 3 2),(.d (Ze s18.1))] [(.cells (dV t0 t1 t2 t3 a)),(.cells [(.sl 4 1),(.sl 5 2),(.sl 6 2)]),(.cells [(.sl 7 1),(.sl 8 2),(.sl 9 2)]),(.arr 2 (List.map ZA s18.2.1)),(.arr 1 []),(.arr 2 []),(.arr 2 []),(.arr 1 (List.map Ze s18.2.2.1)),(.arr 2 []),(.arr 2 (List.map Zbe s18.2.2.2))]=some ((ZkV t0 t1 t2 t3 a) r):=by
 refine Zah (ZkV t0 t1 t2 t3 a) ?_
 intro s18 rcl ih
 show ZN _ _ (lpW _ _ _ _ _ _ _)
 unfold Zd2
 rw[Zai]
 conv=>rhs;whnf
 refine Zm (ZK _ _) ?_;conv=>rhs;whnf
 refine Zf rfl ?_ ?_<;>conv=>rhs;whnf
 ·refine Zm (ZK _ _) ?_;conv=>rhs;whnf
  refine Zbl rfl ?_;conv=>rhs;whnf
  refine Zf (Zfd Zbe s18.2.2.2 1) ?_ ?_
  ·conv=>rhs;whnf
   refine Zm (Zfc Zbe s18.2.2.2 [(Zj.mk (-1) s18.1)]) ?_;conv=>rhs;whnf
   refine Zbl rfl ?_;conv=>rhs;whnf
   refine Zf (Zfd Ze s18.2.2.1 1) ?_ ?_
   ·conv=>rhs;whnf
    refine Zm (Zfc Ze s18.2.2.1 [1]) ?_;conv=>rhs;whnf
    refine Zk rfl rfl fun x19 hx19=>?_;conv=>rhs;whnf
    refine Zc _ (Zoq _) fun r23 hr23=>?_;conv=>rhs;whnf
    refine Zc _ (ZoC _) fun r27 hr27=>?_;conv=>rhs;whnf
    exact Zd (ih _)
   ·exact ZaH
  ·exact ZaH
 ·exact Zh rfl
theorem Zqw {t0 t1:Bool}{t2 t3:Bool}{a:Zp}:∀r,(Zh8 a)=some r→evD ctx 32 [(.d (D.agg (dA t0 t1 t2 t3 a)))]=some (Zna r):=by
 show ZN _ (fun r rhs=>rhs=some (Zna r)) _
 unfold Zh8
 rw[Zbj ctx 32 ZD1 _ rfl rfl]
 conv=>rhs;whnf
 refine Zc _ (ZoA _) fun r7 hr7=>?_;conv=>rhs;whnf
 refine Zc _ (Zop _) fun r12 hr12=>?_;conv=>rhs;whnf
 refine Zc _ (Zor _) fun r17 hr17=>?_;conv=>rhs;whnf
 refine Zc _ (Zox _) fun r28 hr28=>?_;conv=>rhs;whnf
 exact Zh rfl
def Znr (r:Bool):D:=(D.bool r)
theorem ZmR {t0 t1:Bool}{a:Zar}{b:Int}:∀r,(ZhR a b)=some r→evD ctx 82 [(.d (D.agg [(D.list t0 (List.map Ze a.work)),(D.list t1 (List.map ZA a.edges))])),(.d (Ze b))]=some (Znr r):=by
 show ZN _ (fun r rhs=>rhs=some (Znr r)) _
 unfold ZhR
 rw[Zbj ctx 82 ZEP _ rfl rfl]
 conv=>rhs;whnf
 refine Zf rfl ?_ ?_<;>conv=>rhs;whnf
 ·refine Zm (ZK _ _) ?_;conv=>rhs;whnf
  refine Zf rfl ?_ ?_<;>conv=>rhs;whnf
  ·exact Zh rfl
  ·exact Zh rfl
 ·exact Zh rfl
def Zm8 (r:Int):D:=(Ze r)
def ZkP (t0:Bool) (t1:Bool) (a:Zar):(Unit⊕Unit)→Ex×List V×Zs
  | (.inl r)=>(.ret,[(.ptr 0 0),(.d (Ze 41))],[(.cells [(.d (D.list t0 (List.map Ze a.work))),(.d (D.list t1 (List.map ZA a.edges)))])])
  | (.inr r)=>(.exit 0,[(.ptr 0 0),.bad],[(.cells [(.d (D.list t0 (List.map Ze a.work))),(.d (D.list t1 (List.map ZA a.edges)))])])
theorem ZoF {t0 t1:Bool}{a:Zar}:∀(s0:Int) (r:(Unit⊕Unit)),lp (Zfl a) s0=some r→lpW ctx 0 [1,3] [1,2] Zz1 [(.ptr 0 0),(.d (Ze s0))] [(.cells [(.d (D.list t0 (List.map Ze a.work))),(.d (D.list t1 (List.map ZA a.edges)))])]=some ((ZkP t0 t1 a) r):=by
 refine Zah (ZkP t0 t1 a) ?_
 intro s0 rcl ih
 show ZN _ _ (lpW _ _ _ _ _ _ _)
 unfold Zfl
 rw[Zai]
 conv=>rhs;whnf
 refine Zm (ZK _ _) ?_;conv=>rhs;whnf
 refine Zf rfl ?_ ?_<;>conv=>rhs;whnf
 ·refine Zk rfl rfl fun x1 hx1=>?_;conv=>rhs;whnf
  refine Zf rfl ?_ ?_<;>conv=>rhs;whnf
  ·exact Zh rfl
  ·refine Zg (Zam rfl hx1) ?_;conv=>rhs;whnf
   refine Zf rfl ?_ ?_<;>conv=>rhs;whnf
   ·exact Zh rfl
   ·exact Zd (ih _)
 ·exact Zh rfl
def ZkF (t0:Bool) (t1:Bool) (a:Zar) (s3:Int) (x4:Zo):(Unit⊕Unit)→Ex×List V×Zs
  | (.inl r)=>(.ret,[(.ptr 0 0),(.d (Ze 42)),(.d (Ze s3))],[(.cells [(.d (D.list t0 (List.map Ze a.work))),(.d (D.list t1 (List.map ZA a.edges)))])])
  | (.inr r)=>(.exit 4,[(.ptr 0 0),.bad,(.d (Ze s3))],[(.cells [(.d (D.list t0 (List.map Ze a.work))),(.d (D.list t1 (List.map ZA a.edges)))])])
theorem Zoj {t0 t1:Bool}{a:Zar}{s3:Int}{x4:Zo}:∀(s7:Int) (r:(Unit⊕Unit)),lp (Zfz a s3 x4) s7=some r→lpW ctx 0 [1,4,5,6] [1,2,4] ZzQ [(.ptr 0 0),(.d (Ze s3)),(.ptr 1 0),(.d (Ze s7))] [(.cells [(.d (D.list t0 (List.map Ze a.work))),(.d (D.list t1 (List.map ZA a.edges)))]),(.cells [(.d (Ze x4.src)),(.d (Ze x4.dst))])]=some ((ZkF t0 t1 a s3 x4) r):=by
 refine Zah (ZkF t0 t1 a s3 x4) ?_
 intro s7 rcl ih
 show ZN _ _ (lpW _ _ _ _ _ _ _)
 unfold Zfz
 rw[Zai]
 conv=>rhs;whnf
 refine Zf rfl ?_ ?_<;>conv=>rhs;whnf
 ·refine Zk rfl rfl fun x8 hx8=>?_;conv=>rhs;whnf
  refine Zf rfl ?_ ?_<;>conv=>rhs;whnf
  ·exact Zh rfl
  ·exact Zd (ih _)
 ·exact Zh rfl
def ZkN (t0:Bool) (t1:Bool) (a:Zar):(Unit⊕Unit)→Ex×List V×Zs
  | (.inl r)=>(.ret,[(.d (Ze 42))],[])
  | (.inr r)=>(.exit 2,[.bad],[])
theorem Zoy {t0 t1:Bool}{a:Zar}:∀(s3:Int) (r:(Unit⊕Unit)),lp (Zfo a) s3=some r→lpW ctx 0 [1,4] [2] ZBs [(.ptr 0 0),(.d (Ze s3))] [(.cells [(.d (D.list t0 (List.map Ze a.work))),(.d (D.list t1 (List.map ZA a.edges)))])]=some ((ZkN t0 t1 a) r):=by
 refine Zah (ZkN t0 t1 a) ?_
 intro s3 rcl ih
 show ZN _ _ (lpW _ _ _ _ _ _ _)
 unfold Zfo
 rw[Zai]
 conv=>rhs;whnf
 refine Zm (ZK _ _) ?_;conv=>rhs;whnf
 refine Zf rfl ?_ ?_<;>conv=>rhs;whnf
 ·refine Zk rfl rfl fun x4 hx4=>?_;conv=>rhs;whnf
  refine Zq _ ZmR rfl fun x5 hx5=>?_;conv=>rhs;whnf
  refine Zf rfl ?_ ?_<;>conv=>rhs;whnf
  ·refine Zq _ ZmR rfl fun x6 hx6=>?_;conv=>rhs;whnf
   refine Zf rfl ?_ ?_<;>conv=>rhs;whnf
   ·refine Zf rfl ?_ ?_<;>conv=>rhs;whnf
    ·exact Zh rfl
    ·refine Zc _ (Zoj _) fun r9 hr9=>?_
     clear hr9
     rcases r9 with r9 | r9
     ·conv=>rhs;whnf
      exact Zh rfl
     ·conv=>rhs;whnf
      exact Zd (ih _)
   ·exact Zh rfl
  ·exact Zh rfl
 ·exact Zh rfl
theorem Zq3 {t0 t1:Bool}{a:Zar}:∀r,(Zij a)=some r→evD ctx 63 [(.d (D.agg [(D.list t0 (List.map Ze a.work)),(D.list t1 (List.map ZA a.edges))]))]=some (Zm8 r):=by
 show ZN _ (fun r rhs=>rhs=some (Zm8 r)) _
 unfold Zij
 rw[Zbj ctx 63 ZEp _ rfl rfl]
 conv=>rhs;whnf
 refine Zm (ZK _ _) ?_;conv=>rhs;whnf
 refine Zf rfl ?_ ?_<;>conv=>rhs;whnf
 ·exact Zh rfl
 ·refine Zm (ZK _ _) ?_;conv=>rhs;whnf
  refine Zf rfl ?_ ?_<;>conv=>rhs;whnf
  ·exact Zh rfl
  ·refine Zc _ (ZoF _) fun r2 hr2=>?_
   clear hr2
   rcases r2 with r2 | r2
   ·conv=>rhs;whnf
    exact Zh rfl
   ·conv=>rhs;whnf
    refine Zc _ (Zoy _) fun r10 hr10=>?_
    clear hr10
    rcases r10 with r10 | r10
    ·conv=>rhs;whnf
     exact Zh rfl
    ·conv=>rhs;whnf
     exact Zh rfl
def ZmZ (r:List Bool):D:=(D.list true (List.map D.bool r))
def Zk3 (t0:Bool) (t1:Bool) (a:Zar) (b:Int) (s0:Int×(List Bool)):(List Bool)→Ex×List V×Zs
  | r=>(.exit 2,[(.d (Ze b)),(.ptr 0 0),(.sl 1 1),(.d (Ze s0.1))],[(.cells [(.d (D.list t0 (List.map Ze a.work))),(.d (D.list t1 (List.map ZA a.edges)))]),(.arr 1 (List.map D.bool r))])
theorem Zog {t0 t1:Bool}{a:Zar}{b:Int}{s0:Int×(List Bool)}:∀(s1:Int×(List Bool)) (r:List Bool),lp (Zej a b) s1=some r→lpW ctx 0 [1,2,5,6,7] [1,2,5,6] ZzI [(.d (Ze b)),(.ptr 0 0),(.sl 1 1),(.d (Ze s0.1)),(.d (Ze s1.1))] [(.cells [(.d (D.list t0 (List.map Ze a.work))),(.d (D.list t1 (List.map ZA a.edges)))]),(.arr 1 (List.map D.bool s1.2))]=some ((Zk3 t0 t1 a b s0) r):=by
 refine Zah (Zk3 t0 t1 a b s0) ?_
 intro s1 rcl ih
 show ZN _ _ (lpW _ _ _ _ _ _ _)
 unfold Zej
 rw[Zai]
 conv=>rhs;whnf
 refine Zm (ZK _ _) ?_;conv=>rhs;whnf
 refine Zf rfl ?_ ?_<;>conv=>rhs;whnf
 ·refine Zk rfl rfl fun x2 hx2=>?_;conv=>rhs;whnf
  refine Zf rfl ?_ ?_<;>conv=>rhs;whnf
  ·refine Zk rfl rfl fun x3 hx3=>?_;conv=>rhs;whnf
   refine Zg (Zn rfl hx3) ?_;conv=>rhs;whnf
   refine Zm (ZZ D.bool s1.2 x2.dst.toNat true) ?_;conv=>rhs;whnf
   exact Zd (ih _)
  ·refine Zk rfl rfl fun x4 hx4=>?_;conv=>rhs;whnf
   refine Zg (Zn rfl hx4) ?_;conv=>rhs;whnf
   refine Zf rfl ?_ ?_<;>conv=>rhs;whnf
   ·refine Zk rfl rfl fun x5 hx5=>?_;conv=>rhs;whnf
    refine Zg (Zn rfl hx5) ?_;conv=>rhs;whnf
    refine Zm (ZZ D.bool s1.2 x2.dst.toNat true) ?_;conv=>rhs;whnf
    exact Zd (ih _)
   ·exact Zd (ih _)
 ·exact Zh rfl
def ZkL (t0:Bool) (t1:Bool) (a:Zar) (b:Int):(List Bool)→Ex×List V×Zs
  | r=>(.exit 0,[(.sl 0 1)],[(.arr 1 (List.map D.bool r))])
theorem Zoi {t0 t1:Bool}{a:Zar}{b:Int}:∀(s0:Int×(List Bool)) (r:List Bool),lp (Zd5 a b) s0=some r→lpW ctx 0 [1,2,5,6] [5] ZBM [(.d (Ze b)),(.ptr 0 0),(.sl 1 1),(.d (Ze s0.1))] [(.cells [(.d (D.list t0 (List.map Ze a.work))),(.d (D.list t1 (List.map ZA a.edges)))]),(.arr 1 (List.map D.bool s0.2))]=some ((ZkL t0 t1 a b) r):=by
 refine Zah (ZkL t0 t1 a b) ?_
 intro s0 rcl ih
 show ZN _ _ (lpW _ _ _ _ _ _ _)
 unfold Zd5
 rw[Zai]
 conv=>rhs;whnf
 refine Zm (ZK _ _) ?_;conv=>rhs;whnf
 refine Zf rfl ?_ ?_<;>conv=>rhs;whnf
 ·refine Zc _ (Zog _) fun r6 hr6=>?_;conv=>rhs;whnf
  exact Zd (ih _)
 ·exact Zh rfl
theorem ZqT {t0 t1:Bool}{a:Zar}{b:Int}:∀r,(Zip a b)=some r→evD ctx 64 [(.d (D.agg [(D.list t0 (List.map Ze a.work)),(D.list t1 (List.map ZA a.edges))])),(.d (Ze b))]=some (ZmZ r):=by
 show ZN _ (fun r rhs=>rhs=some (ZmZ r)) _
 unfold Zip
 rw[Zbj ctx 64 ZD3 _ rfl rfl]
 conv=>rhs;whnf
 refine Zm (ZK _ _) ?_;conv=>rhs;whnf
 refine Zf rfl ?_ ?_
 ·conv=>rhs;whnf
  refine Zm (ZuQ D.bool (false:Bool) (a.work.length:Int)) ?_;conv=>rhs;whnf
  refine Zc _ (Zoi _) fun r7 hr7=>?_;conv=>rhs;whnf
  exact Zh rfl
 ·exact ZaH
def Znc (r:Int):D:=(Ze r)
def ZkD (t0:Bool) (t1:Bool) (a:Zar):(Unit⊕Unit)→Ex×List V×Zs
  | (.inl r)=>(.ret,[(.d (Ze 43))],[])
  | (.inr r)=>(.exit 0,[.bad],[])
theorem Zoo {t0 t1:Bool}{a:Zar}:∀(s1:Int) (r:(Unit⊕Unit)),lp (Zft a) s1=some r→lpW ctx 0 [1,4] [2] ZAA [(.ptr 0 0),(.d (Ze s1))] [(.cells [(.d (D.list t0 (List.map Ze a.work))),(.d (D.list t1 (List.map ZA a.edges)))])]=some ((ZkD t0 t1 a) r):=by
 refine Zah (ZkD t0 t1 a) ?_
 intro s1 rcl ih
 show ZN _ _ (lpW _ _ _ _ _ _ _)
 unfold Zft
 rw[Zai]
 conv=>rhs;whnf
 refine Zm (ZK _ _) ?_;conv=>rhs;whnf
 refine Zf rfl ?_ ?_<;>conv=>rhs;whnf
 ·refine Zq _ ZqT rfl fun x2 hx2=>?_;conv=>rhs;whnf
  refine Zk rfl rfl fun x3 hx3=>?_;conv=>rhs;whnf
  refine Zf rfl ?_ ?_<;>conv=>rhs;whnf
  ·exact Zh rfl
  ·exact Zd (ih _)
 ·exact Zh rfl
theorem ZqJ {t0 t1:Bool}{a:Zar}:∀r,(Zh7 a)=some r→evD ctx 33 [(.d (D.agg [(D.list t0 (List.map Ze a.work)),(D.list t1 (List.map ZA a.edges))]))]=some (Znc r):=by
 show ZN _ (fun r rhs=>rhs=some (Znc r)) _
 unfold Zh7
 rw[Zbj ctx 33 ZES _ rfl rfl]
 conv=>rhs;whnf
 refine Zq _ Zq3 rfl fun x0 hx0=>?_;conv=>rhs;whnf
 refine Zf rfl ?_ ?_<;>conv=>rhs;whnf
 ·exact Zh rfl
 ·refine Zc _ (Zoo _) fun r4 hr4=>?_
  clear hr4
  rcases r4 with r4 | r4
  ·conv=>rhs;whnf
   exact Zh rfl
  ·conv=>rhs;whnf
   exact Zh rfl
def ZmS (r:(Znj×Int)):D:=(D.tup [(D.agg [(D.list true (List.map Ze r.1.dag.work)),(D.list true (List.map ZA r.1.dag.edges)),(D.list true (List.map Zbe r.1.pieces))]),(Ze r.2)])
theorem ZqN {t0 t1:Bool}{t2 t3:Bool}{a:Zp}:∀r,(Zh5 a)=some r→evD ctx 17 [(.d (D.agg (dA t0 t1 t2 t3 a)))]=some (ZmS r):=by
 show ZN _ (fun r rhs=>rhs=some (ZmS r)) _
 unfold Zh5
 rw[Zbj ctx 17 ZFb _ rfl rfl]
 conv=>rhs;whnf
 refine Zq _ ZqL rfl fun x0 hx0=>?_;conv=>rhs;whnf
 refine Zf rfl ?_ ?_<;>conv=>rhs;whnf
 ·exact Zh rfl
 ·refine Zq _ Zqw rfl fun x1 hx1=>?_;conv=>rhs;whnf
  refine Zq _ ZqJ rfl fun x2 hx2=>?_;conv=>rhs;whnf
  refine Zf rfl ?_ ?_<;>conv=>rhs;whnf
  ·exact Zh rfl
  ·exact Zh rfl
def Znf (r:Int):D:=(Ze r)
def ZkK (t0:Bool) (t1:Bool) (a:Zar):Int→Ex×List V×Zs
  | r=>(.exit 0,[(.d (Ze r))],[])
theorem Zov {t0 t1:Bool}{a:Zar}:∀(s0:Int×Int) (r:Int),lp (Zfq a) s0=some r→lpW ctx 0 [1,3,4] [3] ZAf [(.ptr 0 0),(.d (Ze s0.1)),(.d (Ze s0.2))] [(.cells [(.d (D.list t0 (List.map Ze a.work))),(.d (D.list t1 (List.map ZA a.edges)))])]=some ((ZkK t0 t1 a) r):=by
 refine Zah (ZkK t0 t1 a) ?_
 intro s0 rcl ih
 show ZN _ _ (lpW _ _ _ _ _ _ _)
 unfold Zfq
 rw[Zai]
 conv=>rhs;whnf
 refine Zm (ZK _ _) ?_;conv=>rhs;whnf
 refine Zf rfl ?_ ?_<;>conv=>rhs;whnf
 ·refine Zk rfl rfl fun x1 hx1=>?_;conv=>rhs;whnf
  exact Zd (ih _)
 ·exact Zh rfl
theorem ZqX {t0 t1:Bool}{a:Zar}:∀r,(Zh4 a)=some r→evD ctx 18 [(.d (D.agg [(D.list t0 (List.map Ze a.work)),(D.list t1 (List.map ZA a.edges))]))]=some (Znf r):=by
 show ZN _ (fun r rhs=>rhs=some (Znf r)) _
 unfold Zh4
 rw[Zbj ctx 18 ZE4 _ rfl rfl]
 conv=>rhs;whnf
 refine Zc _ (Zov _) fun r2 hr2=>?_;conv=>rhs;whnf
 exact Zh rfl
def ZnB (r:Int):D:=(Ze r)
def Zli (t0:Bool) (t1:Bool) (a:Zar) (s0:Int×(List Int)):(List Int)→Ex×List V×Zs
  | r=>(.exit 2,[(.ptr 0 0),(.sl 1 1),(.d (Ze s0.1))],[(.cells [(.d (D.list t0 (List.map Ze a.work))),(.d (D.list t1 (List.map ZA a.edges)))]),(.arr 1 (List.map Ze r))])
theorem Zo9 {t0 t1:Bool}{a:Zar}{s0:Int×(List Int)}:∀(s1:Int×(List Int)) (r:List Int),lp (ZeW a) s1=some r→lpW ctx 0 [1,3,4,5] [1,3,4] ZBn [(.ptr 0 0),(.sl 1 1),(.d (Ze s0.1)),(.d (Ze s1.1))] [(.cells [(.d (D.list t0 (List.map Ze a.work))),(.d (D.list t1 (List.map ZA a.edges)))]),(.arr 1 (List.map Ze s1.2))]=some ((Zli t0 t1 a s0) r):=by
 refine Zah (Zli t0 t1 a s0) ?_
 intro s1 rcl ih
 show ZN _ _ (lpW _ _ _ _ _ _ _)
 unfold ZeW
 rw[Zai]
 conv=>rhs;whnf
 refine Zm (ZK _ _) ?_;conv=>rhs;whnf
 refine Zf rfl ?_ ?_<;>conv=>rhs;whnf
 ·refine Zk rfl rfl fun x2 hx2=>?_;conv=>rhs;whnf
  refine Zk rfl rfl fun x3 hx3=>?_;conv=>rhs;whnf
  refine Zg (Zn rfl hx3) ?_;conv=>rhs;whnf
  refine Zk rfl rfl fun x4 hx4=>?_;conv=>rhs;whnf
  refine Zk rfl rfl fun x5 hx5=>?_;conv=>rhs;whnf
  refine Zg (Zn rfl hx5) ?_;conv=>rhs;whnf
  refine Zf rfl ?_ ?_<;>conv=>rhs;whnf
  ·refine Zg (Zam rfl hx3) ?_;conv=>rhs;whnf
   refine Zg (Zn rfl hx3) ?_;conv=>rhs;whnf
   refine Zg (Zam rfl hx4) ?_;conv=>rhs;whnf
   refine Zg (Zam rfl hx5) ?_;conv=>rhs;whnf
   refine Zg (Zn rfl hx5) ?_;conv=>rhs;whnf
   refine Zm (ZZ Ze s1.2 x2.dst.toNat (w64 (x3+x4))) ?_;conv=>rhs;whnf
   exact Zd (ih _)
  ·exact Zd (ih _)
 ·exact Zh rfl
def Zlk (t0:Bool) (t1:Bool) (a:Zar):(List Int)→Ex×List V×Zs
  | r=>(.exit 0,[(.sl 0 1)],[(.arr 1 (List.map Ze r))])
theorem Zph {t0 t1:Bool}{a:Zar}:∀(s0:Int×(List Int)) (r:List Int),lp (ZeX a) s0=some r→lpW ctx 0 [1,3,4] [3] Zzm [(.ptr 0 0),(.sl 1 1),(.d (Ze s0.1))] [(.cells [(.d (D.list t0 (List.map Ze a.work))),(.d (D.list t1 (List.map ZA a.edges)))]),(.arr 1 (List.map Ze s0.2))]=some ((Zlk t0 t1 a) r):=by
 refine Zah (Zlk t0 t1 a) ?_
 intro s0 rcl ih
 show ZN _ _ (lpW _ _ _ _ _ _ _)
 unfold ZeX
 rw[Zai]
 conv=>rhs;whnf
 refine Zm (ZK _ _) ?_;conv=>rhs;whnf
 refine Zf rfl ?_ ?_<;>conv=>rhs;whnf
 ·refine Zc _ (Zo9 _) fun r6 hr6=>?_;conv=>rhs;whnf
  exact Zd (ih _)
 ·exact Zh rfl
def Zle (r7:List Int):Int→Ex×List V×Zs
  | r=>(.exit 4,[(.d (Ze r))],[])
theorem Zpm {r7:List Int}:∀(s8:Int×Int) (r:Int),lp (ZeM r7) s8=some r→lpW ctx 0 [3,7,8] [7] ZBO [(.sl 0 1),(.d (Ze s8.1)),(.d (Ze s8.2))] [(.arr 1 (List.map Ze r7))]=some ((Zle r7) r):=by
 refine Zah (Zle r7) ?_
 intro s8 rcl ih
 show ZN _ _ (lpW _ _ _ _ _ _ _)
 unfold ZeM
 rw[Zai]
 conv=>rhs;whnf
 refine Zm (ZK _ _) ?_;conv=>rhs;whnf
 refine Zf rfl ?_ ?_<;>conv=>rhs;whnf
 ·refine Zk rfl rfl fun x9 hx9=>?_;conv=>rhs;whnf
  refine Zg (Zn rfl hx9) ?_;conv=>rhs;whnf
  exact Zd (ih _)
 ·exact Zh rfl
theorem ZrF {t0 t1:Bool}{a:Zar}:∀r,(ZiK a)=some r→evD ctx 19 [(.d (D.agg [(D.list t0 (List.map Ze a.work)),(D.list t1 (List.map ZA a.edges))]))]=some (ZnB r):=by
 show ZN _ (fun r rhs=>rhs=some (ZnB r)) _
 unfold ZiK
 rw[Zbj ctx 19 ZDt _ rfl rfl]
 conv=>rhs;whnf
 refine Zbl (Zmb (f:=Ze) (fun _=>⟨rfl,rfl⟩) a.work 0) ?_;conv=>rhs;whnf
 refine Zf (Zl9 Ze a.work) ?_ ?_
 ·conv=>rhs;whnf
  refine Zm (rfl:_=List.map Ze a.work) ?_;conv=>rhs;whnf
  refine Zc _ (Zph _) fun r7 hr7=>?_;conv=>rhs;whnf
  refine Zc _ (Zpm _) fun r10 hr10=>?_;conv=>rhs;whnf
  exact Zh rfl
 ·exact ZaH
def ZmX (r:(ZjT×Int)):D:=(D.tup [(D.agg [(Ze r.1.total),(Ze r.1.long),(Ze r.1.most),(Ze r.1.deadline),(Ze r.1.period)]),(Ze r.2)])
def ZkY (a:Zp) (x0:(Znj×Int)) (x1:Int) (x2:Int):Int→Ex×List V×Zs
  | r=>(.exit 0,[(.ptr 0 0),(.ptr 1 0)],[(.cells [(.d (Ze 0)),(.d (Ze 0)),(.d (Ze 0)),(.d (Ze 0)),(.d (Ze 0))]),(.cells [(.d (Ze x1)),(.d (Ze x2)),(.d (Ze r)),(.d (Ze a.deadline)),(.d (Ze a.period))])])
theorem ZoG {a:Zp}{x0:(Znj×Int)}{x1 x2:Int}:∀(s3:Int×Int) (r:Int),lp (Zed x0) s3=some r→lpW ctx 0 [2,4,6,7] [2,6] ZC3 [(.ptr 0 0),(.ptr 1 0),(.ptr 2 0),(.d (Ze s3.1))] [(.cells [(.d (Ze 0)),(.d (Ze 0)),(.d (Ze 0)),(.d (Ze 0)),(.d (Ze 0))]),(.cells [(.d (D.list true (List.map Ze x0.1.dag.work))),(.d (D.list true (List.map ZA x0.1.dag.edges))),(.d (D.list true (List.map Zbe x0.1.pieces)))]),(.cells [(.d (Ze x1)),(.d (Ze x2)),(.d (Ze s3.2)),(.d (Ze a.deadline)),(.d (Ze a.period))])]=some ((ZkY a x0 x1 x2) r):=by
 refine Zah (ZkY a x0 x1 x2) ?_
 intro s3 rcl ih
 show ZN _ _ (lpW _ _ _ _ _ _ _)
 unfold Zed
 rw[Zai]
 conv=>rhs;whnf
 refine Zm (ZK _ _) ?_;conv=>rhs;whnf
 refine Zf rfl ?_ ?_<;>conv=>rhs;whnf
 ·refine Zk rfl rfl fun x4 hx4=>?_;conv=>rhs;whnf
  exact Zd (ih _)
 ·exact Zh rfl
theorem Zrd {t0 t1:Bool}{t2 t3:Bool}{a:Zp}:∀r,(Zjp a)=some r→evD ctx 8 [(.d (D.agg (dA t0 t1 t2 t3 a)))]=some (ZmX r):=by
 show ZN _ (fun r rhs=>rhs=some (ZmX r)) _
 unfold Zjp
 rw[Zbj ctx 8 fn8 _ rfl rfl]
 conv=>rhs;whnf
 refine Zq _ ZqN rfl fun x0 hx0=>?_;conv=>rhs;whnf
 refine Zf rfl ?_ ?_<;>conv=>rhs;whnf
 ·exact Zh rfl
 ·refine Zq _ ZqX rfl fun x1 hx1=>?_;conv=>rhs;whnf
  refine Zq _ ZrF rfl fun x2 hx2=>?_;conv=>rhs;whnf
  refine Zc _ (ZoG _) fun r5 hr5=>?_;conv=>rhs;whnf
  exact Zh rfl
def Zlb (r:Bool):D:=(D.bool r)
theorem Zg7 {a b:Int}:∀r,(ZdU a b)=some r→evD ctx 21 [(.d (Ze a)),(.d (Ze b))]=some (Zlb r):=by
 show ZN _ (fun r rhs=>rhs=some (Zlb r)) _
 unfold ZdU
 rw[Zbj ctx 21 ZEN _ rfl rfl]
 conv=>rhs;whnf
 refine Zf rfl ?_ ?_<;>conv=>rhs;whnf
 ·refine Zf rfl ?_ ?_<;>conv=>rhs;whnf
  ·exact Zh rfl
  ·exact Zh rfl
 ·exact Zh rfl
def ZmW (r:Int):D:=(Ze r)
theorem Zra {a:ZjT}:∀r,(Zh9 a)=some r→evD ctx 9 [(.d (D.agg [(Ze a.total),(Ze a.long),(Ze a.most),(Ze a.deadline),(Ze a.period)]))]=some (ZmW r):=by
 show ZN _ (fun r rhs=>rhs=some (ZmW r)) _
 unfold Zh9
 rw[Zbj ctx 9 fn9 _ rfl rfl]
 conv=>rhs;whnf
 refine Zq _ Zp2 rfl fun x0 hx0=>?_;conv=>rhs;whnf
 refine Zf rfl ?_ ?_<;>conv=>rhs;whnf
 ·refine Zf rfl ?_ ?_<;>conv=>rhs;whnf
  ·exact Zh rfl
  ·refine Zq _ Zg7 rfl fun x1 hx1=>?_;conv=>rhs;whnf
   refine Zf rfl ?_ ?_<;>conv=>rhs;whnf
   ·refine Zq _ Zg7 rfl fun x2 hx2=>?_;conv=>rhs;whnf
    refine Zf rfl ?_ ?_<;>conv=>rhs;whnf
    ·refine Zq _ Zg7 rfl fun x3 hx3=>?_;conv=>rhs;whnf
     refine Zf rfl ?_ ?_<;>conv=>rhs;whnf
     ·refine Zq _ Zg7 rfl fun x4 hx4=>?_;conv=>rhs;whnf
      refine Zf rfl ?_ ?_<;>conv=>rhs;whnf
      ·exact Zh rfl
      ·exact Zh rfl
     ·exact Zh rfl
    ·exact Zh rfl
   ·exact Zh rfl
 ·exact Zh rfl
def Zi4 (r:Bool):D:=(D.bool r)
theorem Zmx {t0 t1:Bool}{t2 t3:Bool}{a:Zp}:∀r,(ZgE a)=some r→evD ctx 3 [(.d (D.agg (dA t0 t1 t2 t3 a)))]=some (Zi4 r):=by
 show ZN _ (fun r rhs=>rhs=some (Zi4 r)) _
 unfold ZgE
 rw[Zbj ctx 3 fn3 _ rfl rfl]
 conv=>rhs;whnf
 refine Zq _ Zjg rfl fun x0 hx0=>?_;conv=>rhs;whnf
 refine Zf rfl ?_ ?_<;>conv=>rhs;whnf
 ·refine Zq _ Zs3 rfl fun x1 hx1=>?_;conv=>rhs;whnf
  refine Zf rfl ?_ ?_<;>conv=>rhs;whnf
  ·refine Zc _ Zsr fun x2 hx2=>?_;conv=>rhs;whnf
   refine Zq _ ZqS rfl fun x3 hx3=>?_;conv=>rhs;whnf
   refine Zq _ Zrd rfl fun x4 hx4=>?_;conv=>rhs;whnf
   refine Zf rfl ?_ ?_<;>conv=>rhs;whnf
   ·refine Zf rfl ?_ ?_<;>conv=>rhs;whnf
    ·refine Zf rfl ?_ ?_<;>conv=>rhs;whnf
     ·exact Zh rfl
     ·refine Zq _ Zra rfl fun x5 hx5=>?_;conv=>rhs;whnf
      refine Zf rfl ?_ ?_<;>conv=>rhs;whnf
      ·exact Zh rfl
      ·exact Zh rfl
    ·exact Zh rfl
   ·exact Zh rfl
  ·refine Zq _ Zjg rfl fun x6 hx6=>?_;conv=>rhs;whnf
   refine Zf rfl ?_ ?_<;>conv=>rhs;whnf
   ·exact Zh rfl
   ·exact Zh rfl
 ·refine Zq _ Zjg rfl fun x7 hx7=>?_;conv=>rhs;whnf
  refine Zf rfl ?_ ?_<;>conv=>rhs;whnf
  ·exact Zh rfl
  ·exact Zh rfl
abbrev ZvA:List Lf×Bool:=([.int .i64,.int .i64,.sl true [.int .i64,.int .i64,.int .i64],.sl true [.int .i64,.int .i64],.sl true [.int .i64,.int .i64,.int .i64],.sl true [.sl false [.int .i64],.sl false [.int .i64]]],true)
def rng (n m:Int):Bool:=decide (1≤n)&&decide (n≤m)
theorem ZFi (n m:Int):ZdU n m=some (rng n m):=by
 unfold ZdU rng
 cases decide (1≤n)<;>cases decide (n≤m)<;>rfl
noncomputable def ZrM (s:ZjT):Bool:=ZqU s.period&&(!decide (4096<s.period)&&(rng s.deadline s.period&&(rng s.total 4096&&(rng s.long s.total&&rng s.most s.long))))
theorem ZCm (s:ZjT):Zh9 s=some (bif ZrM s then 0 else 140):=by
 obtain⟨k,hk⟩:=Zvm s.period
 unfold Zh9 ZrM
 simp only[hk,ZFi,Option.bind_some]
 cases ZqU s.period<;>cases decide (4096<s.period)<;>cases rng s.deadline s.period<;>cases rng s.total 4096<;>cases rng s.long s.total<;>cases rng s.most s.long<;>rfl
def mxF (_:Nat) (m p:Int):Int:=bif decide (m<p) then p else m
theorem ZuS (l:List Int) (i:Nat) (m:Int):m≤ZdE mxF i m l∧(∀p∈l,p≤ZdE mxF i m l)∧(ZdE mxF i m l=m∨∃p∈l,ZdE mxF i m l=p):=ZsR (fun z=>z) l i m
theorem Zuz {g:Zar} (h:Zg4 g=0):Zh4 g=some g.work.sum:=by
 have hG:=(ZiE h).1
 have hwl:=hG.wl
 unfold Zh4
 have:=ZBX g.work (by omega) (fun x hx=>by have:=hG.w x hx;omega) (Zfq g) (fun i x s hi hx=>by
  simp only[Zfq,Zdk hi,cond_true,Zay hx,Option.bind_some,ZQ hi (show g.work.length<9223372036854775808 by omega)]) (fun s=>by simp only[Zfq,ZdR,cond_false]) 0 (by omega)
 rw[this,Int.zero_add]
 rfl
theorem ZpX (w:List Int) (E:List Zo):∀(l:List Int) (i:Nat) (far:List Int),ZdE (fun _ far _=>ZgD w E far) i far l=rounds w E l.length far
 | [],_,_=>rfl
 | x :: l,i,far=>ZpX w E l (i+1) (ZgD w E far)
theorem ZoV (w:List Int):∀(E:List Zo) (i:Nat) (far:List Int),ZdE (fun _ far e=>ZiU w far e) i far E=ZgD w E far
 | [],_,_=>rfl
 | e :: E,i,far=>ZoV w E (i+1) (ZiU w far e)
structure ZrU (g:Zar) (F:Int→Int) (far:List Int):Prop where
 l:far.length=g.work.length
 b:∀z,0≤z∧z.toNat<g.work.length→0≤fat far z∧fat far z≤F z
theorem ZrU.next {g:Zar}{F:Int→Int}{M:Int} (hF:Far g F M) (hG:Zhb g) {far:List Int} (h:ZrU g F far) {e:Zo} (he:e∈g.edges):ZrU g F (ZiU g.work far e):=by
 refine⟨by rw[Zje,h.l],fun z hz=>⟨?_,?_⟩⟩
 ·exact Int.le_trans (h.b z hz).1 (Zsz (w:=g.work) (e:=e) (by rw[h.l];exact hG.dst e he) hz.1)
 ·exact Zpa hF [e] far (fun x hx=>by rw[List.mem_singleton.1 hx];exact he) (fun x hx=>by rw[List.mem_singleton.1 hx,h.l];exact⟨hG.src e he,hG.dst e he⟩) (fun z hz=>(h.b z (by rw[← h.l];exact hz)).2) z (by rw[h.l];exact hz)
theorem Zvd {g:Zar} (h:Zg4 g=0) {F:Int→Int}{M:Int} (hF:Far g F M) (hM:M≤100000):ZiK g=some M:=by
 obtain⟨hG,_⟩:=ZiE h
 have hwl:=hG.wl
 have hel:=hG.el
 have Fb:∀z,0≤z∧z.toNat<g.work.length→F z≤M:=fun z hz=>by have:=hF.most z.toNat hz.2;rwa [Int.toNat_of_nonneg hz.1] at this
 have wb:∀z,0≤fat g.work z∧fat g.work z≤1000:=fun z=>by
  unfold fat
  cases h:g.work[z.toNat]? with
  | none=>simp
  | some x=>exact hG.w x (List.mem_of_getElem? h)
 have in0:∀far,ZrU g F far→lp (ZeW g) (0,far)=some (ZgD g.work g.edges far)∧ZrU g F (ZgD g.work g.edges far):=fun far hf=>by
  have:=ZiL g.edges (ZeW g) (fun i far=>((i:Int),far)) (fun _ far e=>ZiU g.work far e) id (fun _ far=>ZrU g F far) (fun i e far hi he hf=>by
   have hm:=List.mem_of_getElem? he
   refine⟨?_,hf.next hF hG hm⟩
   have h1:=Zls hf.l (hG.src e hm)
   have h2:=Zls hf.l (hG.dst e hm)
   have h3:=Zls (l:=g.work) rfl (hG.dst e hm)
   have b1:=hf.b _ (hG.src e hm)
   have b3:=wb e.dst
   have b2:=Fb _ (hG.src e hm)
   have hw:w64 (fat far e.src+fat g.work e.dst)=fat far e.src+fat g.work e.dst:=Zch (by omega) (by omega)
   simp only[ZeW,Zdk hi,cond_true,Zay he,Option.bind_some,h1,h2,h3,hw,ZQ hi (show g.edges.length<9223372036854775808 by omega)]
   unfold ZiU
   cases decide (fat far e.dst<fat far e.src+fat g.work e.dst)<;>rfl) (fun far _=>by simp only[ZeW,ZdR,cond_false];rfl) far hf
  rw[ZoV] at this
  exact this
 have l1:=(ZiL g.work (ZeX g) (fun i far=>((i:Int),far)) (fun _ far _=>ZgD g.work g.edges far) id (fun _ far=>ZrU g F far) (fun i x far hi hx hf=>by
  obtain⟨q1,q2⟩:=in0 far hf
  refine⟨?_,q2⟩
  simp only[ZeX,Zdk hi,cond_true,q1,Option.bind_some,ZQ hi (show g.work.length<9223372036854775808 by omega)]) (fun far _=>by simp only[ZeX,ZdR,cond_false];rfl) g.work ⟨rfl,fun z hz=>⟨(wb z).1,by have:=hF.least z.toNat hz.2;rwa [Int.toNat_of_nonneg hz.1] at this⟩⟩).1
 rw[ZpX] at l1
 have val:=ZwT h hF
 have hrl:=ZsB g.work g.edges g.work.length g.work
 generalize hr:rounds g.work g.edges g.work.length g.work=far at l1 val hrl
 have l2:=(ZiL far (ZeM far) (fun i m=>(m,(i:Int))) mxF id (fun _ _=>True) (fun i x m hi hx _=>by
  refine⟨?_,trivial⟩
  simp only[ZeM,Zdk hi,cond_true,Zay hx,Option.bind_some,ZQ hi (show far.length<9223372036854775808 by omega)]
  rfl) (fun m _=>by simp only[ZeM,ZdR,cond_false];rfl) 0 trivial).1
 obtain⟨m1,m2,m3⟩:=ZuS far 0 0
 generalize ZdE mxF 0 0 far=r at l2 m1 m2 m3
 have get:∀i:Nat,i<g.work.length→far[i]? = some (F (i:Int)):=fun i hi=>by
  have:=val (i:Int) ⟨by omega,by simpa using hi⟩
  have e:=List.getElem?_eq_getElem (show i<far.length by omega)
  unfold fat at this
  rw[Int.toNat_natCast,e] at this
  rw[e]
  exact congrArg some this
 have M0:0≤M:=by
  rcases hF.hit with h | ⟨i,hi,h⟩
  ·omega
  ·have:=hF.least i hi
   have:=wb (i:Int)
   omega
 have rM:r=M:=by
  have a:r≤M:=by
   rcases m3 with m3 | ⟨p,hp,m3⟩
   ·omega
   ·obtain⟨i,hi⟩:=List.getElem?_of_mem hp
    have hil:=(List.getElem?_eq_some_iff.1 hi).1
    rw[get i (by omega)] at hi
    have:=hF.most i (by omega)
    have:=Option.some.inj hi
    omega
  have b:M≤r:=by
   rcases hF.hit with h | ⟨i,hi,h⟩
   ·omega
   ·have:=m2 _ (List.mem_of_getElem? (get i hi))
    omega
  omega
 unfold ZiK
 rw[show Nat.ble (List.length g.work) lim=true from Nat.ble_eq_true_of_le (Nat.le_trans hwl (by decide))]
 have l1':lp (ZeX g) (0,g.work)=some far:=l1
 have l2':lp (ZeM far) (0,0)=some r:=l2
 simp only[cond_true,l1',l2',Option.bind_some,rM]
theorem ZDI (x:Int) (t:List Int) (hl:t.length≤1000) (h1:1≤x):ZcZ (x :: t)=some (ZdE mxF 0 0 (x :: t)):=by
 have l1:=(ZiL t (ZbK (x :: t)) (fun i m=>(m,((i+1:Nat):Int))) mxF id (fun _ _=>True) (fun i y m hi hy _=>by
  refine⟨?_,trivial⟩
  have hi2:i+1<(x :: t).length:=by simp;omega
  have hy2:(x :: t)[i+1]? = some y:=by simpa using hy
  simp only[ZbK,Zdk hi2,cond_true,Zay hy2,Option.bind_some,ZQ hi2 (show(x :: t).length<9223372036854775808 by simp;omega)]
  rfl) (fun m _=>by
  have e:((t.length+1:Nat):Int)=((x :: t).length:Int):=by simp
  simp only[ZbK,e,ZdR,cond_false];rfl) x trivial).1
 obtain⟨m1,m2,m3⟩:=ZuS t 0 x
 obtain⟨n1,n2,n3⟩:=ZuS (x :: t) 0 0
 generalize ZdE mxF 0 x t=r at l1 m1 m2 m3
 generalize ZdE mxF 0 0 (x :: t)=q at n1 n2 n3
 have rq:r=q:=by
  have a:r≤q:=by
   rcases m3 with m3 | ⟨p,hp,m3⟩
   ·have:=n2 x (by simp);omega
   ·have:=n2 p (by simp[hp]);omega
  have b:q≤r:=by
   rcases n3 with n3 | ⟨p,hp,n3⟩
   ·omega
   ·rcases List.mem_cons.1 hp with hp | hp
    ·omega
    ·have:=m2 p hp;omega
  omega
 have l1':lp (ZbK (x :: t)) (x,1)=some r:=l1
 have c0:decide (((x :: t).length:Int)<1)=false:=decide_eq_false (by simp;omega)
 have g0:Zx (x :: t) 0=some x:=rfl
 unfold ZcZ
 rw[c0,g0]
 simp only[cond_false,Option.bind_some,l1',rq]
theorem Zye {g:Zar} (hG:Zhb g) (x0:Znj×Int) (hx:x0.1.dag=g):lp (Zed x0) (0,0)=some (ZdE mxF 0 0 g.work):=by
 have hwl:=hG.wl
 exact(ZiL g.work (Zed x0) (fun i m=>((i:Int),m)) mxF id (fun _ _=>True) (fun i y m hi hy _=>by
  refine⟨?_,trivial⟩
  simp only[Zed,hx,Zdk hi,cond_true,Zay hy,Option.bind_some,ZQ hi (show g.work.length<9223372036854775808 by omega)]
  rfl) (fun m _=>by simp only[Zed,hx,ZdR,cond_false];rfl) 0 trivial).1
theorem ZCq {d:Zp} (h:Zhq d=0):ZqU d.period=true∧d.period≤4096∧1≤d.deadline∧d.deadline≤d.period:=by
 unfold Zhq at h
 have all:Zk5 d=true:=by
  revert h
  cases Zmp d<;>cases Zk5 d<;>simp
 unfold Zk5 Zc4 at all
 simp only[Bool.and_eq_true,Bool.not_eq_true',decide_eq_false_iff_not,decide_eq_true_eq] at all
 exact⟨all.1,by omega,by omega,by omega⟩
theorem Zry (d:Zp):ZgE d=some true:=by
 have aw:Zif=some true:=rfl
 unfold ZgE
 simp only[aw,cond_true,ZFm,Option.bind_some]
 cases hf:few d with
 | false=>rfl
 | true=>
  have hz:=Zyi hf
  simp only[cond_true,ZGt d hz,Option.bind_some,show Zp.mk d.period d.deadline d.parts d.edges d.futures d.barriers=d from rfl]
  unfold Zjr Zjp
  simp only[ZCs hz,ZwG hz,Option.bind_some]
  rcases ZwH d with⟨h1,h2,h3⟩ | ⟨h1,h2⟩
  ·have g:=Zss h2
   have hG:=(ZiE h3).1
   obtain⟨F,M,l1,hF⟩:=ZEh h3
   have tot:=Zyf h3 hF
   have hb:=Zwd g d.parts.length (Nat.le_refl _)
   have hpl:=g.pl
   have hp1:=g.p1
   have hbl:=g.bl
   have sum:(Zgt d).dag.work.sum=ZnM d d.parts.length+(d.barriers.length:Int):=Zwz d
   have ge:∀x∈(Zgt d).dag.work,1≤x:=ZyI g
   have len:(Zgt d).dag.work.length=d.parts.length+d.futures.length+d.barriers.length:=Zxj g
   have l2:=Zvd h3 hF (by omega)
   have hwl:=hG.wl
   have mo:ZcZ (Zgt d).dag.work=some (ZdE mxF 0 0 (Zgt d).dag.work):=by
    cases hw:(Zgt d).dag.work with
    | nil=>rw[hw,List.length_nil] at len;omega
    | cons x t=>
     rw[hw,List.length_cons] at hwl
     exact ZDI x t (by omega) (ge x (by rw[hw];simp))
   rw[h1]
   simp only[bne_self_eq_false,cond_false,Zxe h3,Zuz h3,l1,l2,mo,Zye hG (Zgt d,0) rfl,Option.bind_some,beq_self_eq_true,Bool.and_self,cond_true]
   obtain⟨m1,m2,m3⟩:=ZuS (Zgt d).dag.work 0 0
   generalize ZdE mxF 0 0 (Zgt d).dag.work=r at m1 m2 m3 ⊢
   have x0:∃x,(Zgt d).dag.work[0]? = some x:=⟨_,List.getElem?_eq_getElem (by omega)⟩
   obtain⟨x,hx⟩:=x0
   have hxm:=List.mem_of_getElem? hx
   have r1:=m2 x hxm
   have r2:=ge x hxm
   have rM:r≤M:=by
    rcases m3 with m3 | ⟨p,hp,m3⟩
    ·omega
    ·obtain⟨i,hi⟩:=List.getElem?_of_mem hp
     have hil:=(List.getElem?_eq_some_iff.1 hi).1
     have a:=hF.least i hil
     have b:=hF.most i hil
     unfold fat at a
     rw[Int.toNat_natCast,hi] at a
     simp only at a
     omega
   obtain⟨t1,t2,t3,t4⟩:=ZCq h2
   have ok:ZrM ⟨(Zgt d).dag.work.sum,M,r,d.deadline,d.period⟩=true:=by
    unfold ZrM rng
    simp only[t1,Bool.true_and,Bool.and_eq_true,Bool.not_eq_true',decide_eq_false_iff_not,decide_eq_true_eq]
    omega
   rw[ZCm,ok]
   rfl
  ·have hne:((Zux d).2 != 0)=true:=by rw[bne,beq_false_of_ne h2];rfl
   rw[hne]
   simp only[cond_true,Option.bind_some,beq_self_eq_true,Bool.and_self,hne]
theorem Zs9 (xs:List D) (h:Zkm ZvA.1 xs) :
  ∃H',evW ctx 3 (Zd1 [ZCp ZvA.2 xs]) []=some (.d (.bool true),H'):=by
 obtain⟨d,hd,_⟩:=ZBZ h
 show ∃H',evW ctx 3 [.d (D.agg xs)] []=_
 rw[hd]
 exact ZBK (Zmx true (Zry d))
end Go.Proofs.YtnpidpcmpleiaaaGreatDoor
namespace Go.Proofs.YtnpidpcmpleiaaaGreatDoor.LawClassShapes
open Go.ChangeShapes Go.WideShapes Go.ChangeAt Go.RowKit Go.Proofs.YtnpidpcmpleiaaaGreatDoorE
theorem own:ownKnob Tryz.prog.godebug=none:=by kernel_rfl
theorem ZCv:laidOutB Tryz.prog=true:=by kernel_rfl
def Zti : List (String × DataW Unit) := [("math/bits.deBruijn32tab", Rows.laid_math_bits_deBruijn32tab), ("math/bits.deBruijn64tab", Rows.laid_math_bits_deBruijn64tab)]
theorem ZBr (os:Os) (args:Array Value):laidMetH Tryz.prog Zti ((World.doorLaid Tryz.prog 19 os).forCall (fun _ _=>0) ⟨#[],args,[]⟩).memory:=
 laidMetH_of_parts3 (fuel:=8) (laidMet_of_run' 8 (by kernel_rfl) (by kernel_rfl)) (by kernel_rfl) (by kernel_rfl)
theorem ZzR {W:World} (h:laidMetH Tryz.prog Zti W):GOK Zt R0 W:=by
 intro g l hg
 unfold Zt at hg
 split at hg
 ·cases hg
  exact ZsV (t := 124) (N := 32) (e := 5) (k := .u8) h (by kernel_rfl) (n := "math/bits.deBruijn32tab") (by rw [show DataW.agg (Zpn ZDf) = Rows.laid_math_bits_deBruijn32tab by kernel_rfl]; simp [Zti]) (by kernel_rfl) (by kernel_rfl) (by kernel_rfl) (by kernel_rfl) (by kernel_rfl) (by kernel_rfl) (by decide)
 ·cases hg
  exact ZsV (t := 125) (N := 64) (e := 5) (k := .u8) h (by kernel_rfl) (n := "math/bits.deBruijn64tab") (by rw [show DataW.agg (Zpn ZC4) = Rows.laid_math_bits_deBruijn64tab by kernel_rfl]; simp [Zti]) (by kernel_rfl) (by kernel_rfl) (by kernel_rfl) (by kernel_rfl) (by kernel_rfl) (by kernel_rfl) (by decide)
 ·cases hg
theorem ZEy (os:Os) (started:os.Started) (H:Type) (enc:TypeId×Value→H) :
  ReturnsInHanded {} Tryz.checked os 3 .any (fun w args=>(Rows.classShapesSpec.pre enc Tryz.prog Tryz.f3 [] false w args∧laidMetH Tryz.prog Zti w)∧sizedMet enc Tryz.prog Tryz.f3 (OpenSpec.ofChange Rows.classShapesSpec) false w args) (Rows.classShapesSpec.post enc Tryz.prog Tryz.f3 false true false false):=by
 refine returnsInHanded_of_change_and (C:=Tryz.checked) (X:=fun w _=>laidMetH Tryz.prog Zti w) (fun _ _ _ hh h=>h.of_heap hh) own started (by kernel_rfl) Tryz.func3
  (ChangeSpec.witness_shaped (enc:=enc) (C:=Tryz.checked) (os:=os) (X:=fun w _=>laidMetH Tryz.prog Zti w) false (World.doorLaid Tryz.prog 19 os) #[.agg #[.int .i64 0,.int .i64 0,.slice none 0 0,.slice none 0 0,.slice none 0 0,.slice none 0 0]] 8 rfl (World.shaped_of_RefB (by kernel_rfl) (by kernel_rfl)) (by kernel_rfl) (by kernel_rfl) (by kernel_rfl) (ZBr os _)) ?_
 intro W base args ds gs before hval0 hW _ _ hL _
 have hval:∀(j:Nat) t v,Tryz.f3.params[j]? = some t→args[j]? = some v→Value.okWide Tryz.prog W .any base t v:=hval0
 have hW':=hW
 obtain⟨p,q,hA0,hV,rfl,hfz,hnd⟩:=hW
 have hA:DataW.TrodAll enc Tryz.prog W 0 (fun _=>true) true Tryz.f3.params.toList args.toList ds p:=hA0
 rw[Tryz.params3] at hA hval
 obtain⟨v0,vs0,d0,ds0,p0,q0,hargs,rfl,rfl,h0,r0⟩:=trodAll_cons hA
 obtain⟨rfl,rfl,rfl⟩:=trodAll_nil r0
 obtain rfl:args = #[v0]:=by cases args;simp_all
 obtain⟨rfl,rfl⟩:=trodVars_none hV
 have lt0:∀x∈p0,x.block<W.heap.size:=by obtain⟨m,hm⟩:=h0;exact DataW.trod_lt m _ _ _ hm
 obtain⟨x0,ok0,den0⟩:=ZDM (P:=Tryz.prog) (n:=8) (t:=27) (l:=ZvA.1) (ag:=ZvA.2) (by kernel_rfl) (hval 0 27 v0 rfl rfl) h0
 obtain⟨H1,ev⟩:=Zs9 x0 ok0
 have den:ZbP All All All W [ZCp ZvA.2 x0] [v0]:=⟨_,_,rfl,den0,rfl⟩
 refine(ZyP ZF0 (ZzR hL) den ev).mono fun e W' ⟨he,bel⟩=>?_
 subst he
 exact⟨_,rfl,_,_,_,[],_,[],hW',trodAll_mk1 (shut_bool Tryz.underlying4 _),(trodAll_cons_mk (Below.trod ZCv (by kernel_rfl) (of_decide_eq_true (by kernel_rfl)) h0 bel lt0) trodAll_mk0),rfl,bel.frame _,fun h=>by cases h⟩
theorem over:Rows.classShapesRow.holds Tryz.pinned (OpenSpec.ofChange Rows.classShapesSpec):=
 OpenClaim.holds_of_wide 3 Tryz.f3 rfl rfl rfl rfl rfl rfl rfl ⟨rfl,rfl,rfl,rfl,rfl⟩ rfl rfl rfl rfl rfl (by kernel_rfl) Tryz.func3 (by kernel_rfl)
  (of_decide_eq_true (by kernel_rfl)) (by unfold Func.isWrapper;first | (rw[if_pos (by decide +kernel)];kernel_rfl) | (rw[if_neg (by decide +kernel)];exact⟨rfl,rfl⟩))
  (fun os started H enc _=>ZEy os started H enc)
theorem proved:Rows.ClassShapesSaid:=over
theorem carded:Rows.ClassShapesCardSaid:=
 Claim7.holds_tied_plain_at .later [] [.data, .data] true (true, "3976293a6a5acb7d3ca76ae88df473fcf99b9c110b8704939d945eebbc840488") false
  proved (fun _ h=>by cases h) (by kernel_rfl) (fun _ h=>by cases h) classShapes_row_tie rfl ⟨rfl,rfl⟩ (by kernel_rfl) rfl
  (fun f fn hf hfn=>by
   obtain rfl : f = 3 := Option.some.inj ((show Tryz.prog.funcNamed "trefoil/trefoillaw14.ClassShapes" = some 3 by kernel_rfl).symm.trans hf) |>.symm
   obtain rfl:fn=Tryz.f3:=(Option.some.inj (Tryz.func3.symm.trans hfn)).symm
   exact⟨by kernel_rfl,fun j t ht=>by
    rw[Tryz.params3] at ht
    have hm:t∈[27]:=by simpa using Array.mem_of_getElem? ht
    have hall:([27].all fun u=>!Tryz.prog.wantsStandIn u)=true:=by kernel_rfl
    exact(show Tryz.prog.wantsStandIn t=false by simpa using List.all_eq_true.1 hall t hm)⟩)
  (by kernel_rfl)
end Go.Proofs.YtnpidpcmpleiaaaGreatDoor.LawClassShapes
namespace Go.Proofs.YtnpidpcmpleiaaaGreatDoor
theorem classShapes_holds:Rows.ClassShapesCardSaid:=LawClassShapes.carded
#print axioms classShapes_holds
end Go.Proofs.YtnpidpcmpleiaaaGreatDoor
