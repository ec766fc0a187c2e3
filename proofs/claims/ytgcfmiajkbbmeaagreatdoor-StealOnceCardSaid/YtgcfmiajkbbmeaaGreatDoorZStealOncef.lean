/- StealOnce: part 6 of 6 of the proof: the row and the card of the law, out of what the evaluator says of it; without conditions. -/
import Derived.Test.YtgcfmiajkbbmeaaGreatDoorZStealOncee
import Derived.KernelRfl
import Derived.Test.YtgcfmiajkbbmeaaGreatDoorRows
import Derived.Test.YtgcfmiajkbbmeaaGreatDoorCards
import Derived.Test.YtgcfmiajkbbmeaaGreatDoorTie
import Derived.WalkKit
import Derived.ProofKit
import Derived.OpenShut
import Derived.ShutString
import Derived.ChangeOld
import Derived.Below
import Derived.SizedLaws
import Derived.Handed
import Derived.LaidMore
import Derived.Stop.Joined
import Derived.ChangeShapes
import Derived.Carry
import Derived.SevenTiedAt
set_option maxRecDepth 100000
set_option maxHeartbeats 40000000
set_option linter.unusedVariables false
set_option linter.unusedSimpArgs false
namespace Go.Proofs.YtgcfmiajkbbmeaaGreatDoor
open Go Go.Proofs.YtgcfmiajkbbmeaaGreatDoorE
open Go.IntKind (u64 i64 u32 i32 u8)
theorem Zej:∀r,Zee=some r→evD ctx 9 []=some (D.bool r):=fun r h=>by
  cases h
  exact ZDC 100 (by kernel_rfl)
def Zn1 (r:Bool):D:=(D.bool r)
theorem Zq7 {t0 t1:Bool}{a:ZB}:∀r,(ZiB a)=some r→evD ctx 10 [(.d (D.agg [(zL t0 a.work),(D.list t1 (List.map ZQ a.edges))]))]=some (Zn1 r):=by
 show ZD _ (fun r rhs=>rhs=some (Zn1 r)) _
 unfold ZiB
 rw[ZaF ctx 10 ZCI _ rfl rfl]
 conv=>rhs;whnf
 refine Zl (ZE _ _) ?_;conv=>rhs;whnf
 refine Zc rfl ?_ ?_<;>conv=>rhs;whnf
 ·refine Zl (ZE _ _) ?_;conv=>rhs;whnf
  refine Zc rfl ?_ ?_<;>conv=>rhs;whnf
  ·exact Zb rfl
  ·exact Zb rfl
 ·exact Zb rfl
def ZkW (r:Bool):D:=(D.bool r)
def Zjk (t0:Bool) (a:List Int):(Unit⊕(Unit⊕Unit))→Ex×List V×Zn
  | (.inl r)=>(.ret,[(.d (D.bool true))],[])
  | (.inr (.inl r))=>(.ret,[(.d (D.bool false))],[])
  | (.inr (.inr r))=>(.exit 0,[.bad],[])
theorem ZmD {t0:Bool}{a:List Int}:∀(s0:Int×Int) (r:(Unit⊕(Unit⊕Unit))),lp (Zdf a) s0=some r→lpW ctx 0 [0,3,4] [2] ZAH [(.d (zL t0 a)),(.d (Zd s0.1)),(.d (Zd s0.2))] []=some ((Zjk t0 a) r):=by
 refine Za7 (Zjk t0 a) ?_
 intro s0 rcl ih
 show ZD _ _ (lpW _ _ _ _ _ _ _)
 unfold Zdf
 rw[Za9]
 conv=>rhs;whnf
 refine Zl (ZE _ _) ?_;conv=>rhs;whnf
 refine Zc rfl ?_ ?_<;>conv=>rhs;whnf
 ·refine Zm rfl rfl fun x1 hx1=>?_;conv=>rhs;whnf
  refine Zc rfl ?_ ?_<;>conv=>rhs;whnf
  ·refine Zh (ZaX rfl hx1) ?_;conv=>rhs;whnf
   refine Zc rfl ?_ ?_<;>conv=>rhs;whnf
   ·exact Zb rfl
   ·exact Zb rfl
  ·refine Zh (ZaX rfl hx1) ?_;conv=>rhs;whnf
   refine Zc rfl ?_ ?_<;>conv=>rhs;whnf
   ·refine Zh (ZaX rfl hx1) ?_;conv=>rhs;whnf
    refine Zc rfl ?_ ?_<;>conv=>rhs;whnf
    ·exact Zb rfl
    ·exact Zb rfl
   ·refine Zh (ZaX rfl hx1) ?_;conv=>rhs;whnf
    exact Zf (ih _)
 ·exact Zb rfl
theorem Zpf {t0:Bool}{a:List Int}:∀r,(ZgN a)=some r→evD ctx 11 [(.d (zL t0 a))]=some (ZkW r):=by
 show ZD _ (fun r rhs=>rhs=some (ZkW r)) _
 unfold ZgN
 rw[ZaF ctx 11 ZDL _ rfl rfl]
 conv=>rhs;whnf
 refine Ze _ (ZmD _) fun r2 hr2=>?_
 clear hr2
 rcases r2 with r2 | (r2 | r2)
 ·conv=>rhs;whnf
  exact Zb rfl
 ·conv=>rhs;whnf
  exact Zb rfl
 ·conv=>rhs;whnf
  exact Zb rfl
def ZnW (t0:Bool) (t1:Bool) (a:ZB):Unit→V×Zn
  | r=>((.agg [(.sl 0 1),(.sl 1 2)]),[(.arr 1 (List.map Zd a.work)),(.arr 2 (List.map ZQ a.edges))])
theorem ZgM {t0 t1:Bool}{a:ZB}:∀r,(Ze6 a)=some r→evW ctx 13 [(.d (D.agg [(zL t0 a.work),(D.list t1 (List.map ZQ a.edges))]))] []=some ((ZnW t0 t1 a) r):=by
 show ZD _ (fun r rhs=>rhs=some ((ZnW t0 t1 a) r)) _
 unfold Ze6
 rw[ZcR ctx 13 ZDB _ _ rfl rfl]
 conv=>rhs;whnf
 refine ZbQ (ZgR (f:=Zd) (fun _=>⟨rfl,rfl⟩) a.work 0) ?_;conv=>rhs;whnf
 refine Zc (ZgQ Zd a.work) ?_ ?_
 ·conv=>rhs;whnf
  refine Zl (rfl:_=List.map Zd a.work) ?_;conv=>rhs;whnf
  refine ZbQ (ZgR (f:=ZQ) (fun _=>⟨rfl,rfl⟩) a.edges 0) ?_;conv=>rhs;whnf
  refine Zc (ZgQ ZQ a.edges) ?_ ?_
  ·conv=>rhs;whnf
   refine Zl (rfl:_=List.map ZQ a.edges) ?_;conv=>rhs;whnf
   exact Zb rfl
  ·exact ZI
 ·exact ZI
def Zmu (t0:Bool) (a:List Int):Unit→V×Zn
  | r=>((.sl 0 1),[(.arr 1 (List.map Zd a))])
theorem ZiZ {t0:Bool}{a:List Int}:∀r,(ZfY a)=some r→evW ctx 14 [(.d (zL t0 a))] []=some ((Zmu t0 a) r):=by
 show ZD _ (fun r rhs=>rhs=some ((Zmu t0 a) r)) _
 unfold ZfY
 rw[ZcR ctx 14 ZDW _ _ rfl rfl]
 conv=>rhs;whnf
 refine ZbQ (ZgR (f:=Zd) (fun _=>⟨rfl,rfl⟩) a 0) ?_;conv=>rhs;whnf
 refine Zc (ZgQ Zd a) ?_ ?_
 ·conv=>rhs;whnf
  refine Zl (rfl:_=List.map Zd a) ?_;conv=>rhs;whnf
  exact Zb rfl
 ·exact ZI
def Zl7 (r:Bool):D:=(D.bool r)
theorem ZpF {a:Int}:∀r,(Zdz a)=some r→evD ctx 142 [(.d (Zd a))]=some (Zl7 r):=by
 show ZD _ (fun r rhs=>rhs=some (Zl7 r)) _
 unfold Zdz
 rw[ZaF ctx 142 Zz2 _ rfl rfl]
 conv=>rhs;whnf
 refine Zc rfl ?_ ?_<;>conv=>rhs;whnf
 ·exact Zb rfl
 ·refine Zc rfl ?_ ?_<;>conv=>rhs;whnf
  ·exact Zb rfl
  ·exact Zb rfl
def Zc9 (r:Int):D:=(Zd r)
def ZcH (t0:Bool) (a:List Int):(Int⊕Unit)→Ex×List V×Zn
  | (.inl r)=>(.ret,[(.d (Zd r))],[])
  | (.inr r)=>(.exit 0,[.bad],[])
theorem Ze8 {t0:Bool}{a:List Int}:∀(s0:Int) (r:(Int⊕Unit)),lp (ZC a (fun z0=>Zdz z0)) s0=some r→lpW ctx 0 [0,1,7,8] [4] Zrn [(.d (zL t0 a)),(.d (D.fn 142 [])),(.d (Zd (a.length:Int))),(.d (Zd s0))] []=some ((ZcH t0 a) r):=by
 refine Za7 (ZcH t0 a) ?_
 intro s0 rcl ih
 show ZD _ _ (lpW _ _ _ _ _ _ _)
 unfold ZC
 rw[Za9]
 conv=>rhs;whnf
 refine Zc rfl ?_ ?_<;>conv=>rhs;whnf
 ·refine Zm rfl rfl fun x1 hx1=>?_;conv=>rhs;whnf
  refine Zk _ ZpF rfl fun x2 hx2=>?_;conv=>rhs;whnf
  refine Zc rfl ?_ ?_<;>conv=>rhs;whnf
  ·exact Zb rfl
  ·exact Zf (ih _)
 ·exact Zb rfl
theorem ZfL {t0:Bool}{a:List Int}:∀r,(ZO a (fun z0=>Zdz z0))=some r→evD ctx 94 [(.d (zL t0 a)),(.d (D.fn 142 []))]=some (Zc9 r):=by
 show ZD _ (fun r rhs=>rhs=some (Zc9 r)) _
 unfold ZO
 rw[ZaF ctx 94 Zx1 _ rfl rfl]
 conv=>rhs;whnf
 refine Zl (ZE _ _) ?_;conv=>rhs;whnf
 refine Ze _ (Ze8 _) fun r3 hr3=>?_
 clear hr3
 rcases r3 with r3 | r3
 ·conv=>rhs;whnf
  exact Zb rfl
 ·conv=>rhs;whnf
  exact Zb rfl
def ZcI (r:Bool):D:=(D.bool r)
theorem Zfb {t0:Bool}{a:List Int}:∀r,(ZV a (fun z0=>Zdz z0))=some r→evD ctx 44 [(.d (zL t0 a)),(.d (D.fn 142 []))]=some (ZcI r):=by
 show ZD _ (fun r rhs=>rhs=some (ZcI r)) _
 unfold ZV
 rw[ZaF ctx 44 ZAm _ rfl rfl]
 conv=>rhs;whnf
 refine Zk _ ZfL rfl fun x0 hx0=>?_;conv=>rhs;whnf
 refine Zc rfl ?_ ?_<;>conv=>rhs;whnf
 ·exact Zb rfl
 ·exact Zb rfl
def Zmb (r:Bool):D:=(D.bool r)
theorem ZkU {t0 t1:Bool}{a:Int}{b0:List Int}{b1:List ZZ}:∀r,(Zf8 a b0)=some r→evD ctx 143 [(.d (Zd a)),(.d (D.rptr [(zL t0 b0),(D.list t1 (List.map ZQ b1))]))]=some (Zmb r):=by
 show ZD _ (fun r rhs=>rhs=some (Zmb r)) _
 unfold Zf8
 rw[ZaF ctx 143 ZAn _ rfl rfl]
 conv=>rhs;whnf
 refine Zc rfl ?_ ?_<;>conv=>rhs;whnf
 ·refine Zl (ZE _ _) ?_;conv=>rhs;whnf
  refine Zc rfl ?_ ?_<;>conv=>rhs;whnf
  ·exact Zb rfl
  ·exact Zb rfl
 ·exact Zb rfl
def Zf5 (r:Int):D:=(Zd r)
def Zfs (t0:Bool) (a:List ZZ) (b:ZZ):(Int⊕Unit)→Ex×List V×Zn
  | (.inl r)=>(.ret,[(.d (Zd r))],[])
  | (.inr r)=>(.exit 0,[.bad],[])
theorem ZhX {t0:Bool}{a:List ZZ}{b:ZZ}:∀(s0:Int) (r:(Int⊕Unit)),lp (ZbS a b) s0=some r→lpW ctx 0 [0,3,7,8] [4] Zwh [(.d (D.list t0 (List.map ZQ a))),(.ptr 0 0),(.d (Zd (a.length:Int))),(.d (Zd s0))] [(.cells [(.d (Zd b.src)),(.d (Zd b.dst))])]=some ((Zfs t0 a b) r):=by
 refine Za7 (Zfs t0 a b) ?_
 intro s0 rcl ih
 show ZD _ _ (lpW _ _ _ _ _ _ _)
 unfold ZbS
 rw[Za9]
 conv=>rhs;whnf
 refine Zc rfl ?_ ?_<;>conv=>rhs;whnf
 ·refine Zm rfl rfl fun x1 hx1=>?_;conv=>rhs;whnf
  refine Zc rfl ?_ ?_<;>conv=>rhs;whnf
  ·exact Zb rfl
  ·exact Zf (ih _)
 ·exact Zb rfl
theorem ZiU {t0:Bool}{a:List ZZ}{b:ZZ}:∀r,(Zdb a b)=some r→evD ctx 174 [(.d (D.list t0 (List.map ZQ a))),(.d (D.agg [(Zd b.src),(Zd b.dst)]))]=some (Zf5 r):=by
 show ZD _ (fun r rhs=>rhs=some (Zf5 r)) _
 unfold Zdb
 rw[ZaF ctx 174 ZAr _ rfl rfl]
 conv=>rhs;whnf
 refine Zl (ZE _ _) ?_;conv=>rhs;whnf
 refine Ze _ (ZhX _) fun r2 hr2=>?_
 clear hr2
 rcases r2 with r2 | r2
 ·conv=>rhs;whnf
  exact Zb rfl
 ·conv=>rhs;whnf
  exact Zb rfl
def Zfu (r:Bool):D:=(D.bool r)
theorem ZhY {t0:Bool}{a:List ZZ}{b:ZZ}:∀r,(ZbX a b)=some r→evD ctx 136 [(.d (D.list t0 (List.map ZQ a))),(.d (D.agg [(Zd b.src),(Zd b.dst)]))]=some (Zfu r):=by
 show ZD _ (fun r rhs=>rhs=some (Zfu r)) _
 unfold ZbX
 rw[ZaF ctx 136 Zz0 _ rfl rfl]
 conv=>rhs;whnf
 refine Zk _ ZiU rfl fun x0 hx0=>?_;conv=>rhs;whnf
 refine Zc rfl ?_ ?_<;>conv=>rhs;whnf
 ·exact Zb rfl
 ·exact Zb rfl
def ZnI (r:((List Int)×Bool)):D:=(D.tup [(zL true r.1),(D.bool r.2)])
def Zlk (t0:Bool) (t1:Bool) (a:ZB) (s0:(List Int)×(List Bool)) (s1:Int):(Unit⊕Unit)→Ex×List V×Zn
  | (.inl r)=>(.exit 3,[(.ptr 0 0),(.sl 1 1),(.sl 2 1),(.d (Zd s1)),(.d (Zd (a.work.length:Int))),(.d (Zd s1))],[(.cells [(.d (zL t0 a.work)),(.d (D.list t1 (List.map ZQ a.edges)))]),(.arr 1 (List.map Zd s0.1)),(.arr 1 (List.map D.bool s0.2))])
  | (.inr r)=>(.exit 4,[(.ptr 0 0),(.sl 1 1),(.sl 2 1),(.d (Zd s1)),(.d (Zd (a.work.length:Int))),(.d (Zd s1))],[(.cells [(.d (zL t0 a.work)),(.d (D.list t1 (List.map ZQ a.edges)))]),(.arr 1 (List.map Zd s0.1)),(.arr 1 (List.map D.bool s0.2))])
theorem Zo0 {t0 t1:Bool}{a:ZB}{s0:(List Int)×(List Bool)}{s1:Int}:∀(s3:Int) (r:(Unit⊕Unit)),lp (ZfK a s0 s1) s3=some r→lpW ctx 0 [1,4,5,6,21,22,30,31,32] [1,4,5,6,21,22] ZwE [(.ptr 0 0),(.sl 1 1),(.sl 2 1),(.d (Zd s1)),(.d (Zd (a.work.length:Int))),(.d (Zd s1)),(.d (D.list t1 (List.map ZQ a.edges))),(.d (Zd (a.edges.length:Int))),(.d (Zd s3))] [(.cells [(.d (zL t0 a.work)),(.d (D.list t1 (List.map ZQ a.edges)))]),(.arr 1 (List.map Zd s0.1)),(.arr 1 (List.map D.bool s0.2))]=some ((Zlk t0 t1 a s0 s1) r):=by
 refine Za7 (Zlk t0 t1 a s0 s1) ?_
 intro s3 rcl ih
 show ZD _ _ (lpW _ _ _ _ _ _ _)
 unfold ZfK
 rw[Za9]
 conv=>rhs;whnf
 refine Zc rfl ?_ ?_<;>conv=>rhs;whnf
 ·refine Zm rfl rfl fun x4 hx4=>?_;conv=>rhs;whnf
  refine Zc rfl ?_ ?_<;>conv=>rhs;whnf
  ·refine Zm rfl rfl fun x5 hx5=>?_;conv=>rhs;whnf
   refine Zh (Zr rfl hx5) ?_;conv=>rhs;whnf
   refine Zc rfl ?_ ?_<;>conv=>rhs;whnf
   ·exact Zf (ih _)
   ·exact Zb rfl
  ·exact Zf (ih _)
 ·exact Zb rfl
def Zle (t0:Bool) (t1:Bool) (a:ZB) (s0:(List Int)×(List Bool)):(((List Int)×(List Bool))⊕Unit)→Ex×List V×Zn
  | (.inl r)=>(.exit 1,[(.ptr 0 0),(.sl 1 1),(.sl 2 1)],[(.cells [(.d (zL t0 a.work)),(.d (D.list t1 (List.map ZQ a.edges)))]),(.arr 1 (List.map Zd r.1)),(.arr 1 (List.map D.bool r.2))])
  | (.inr r)=>(.exit 2,[(.ptr 0 0),(.sl 1 1),(.sl 2 1)],[(.cells [(.d (zL t0 a.work)),(.d (D.list t1 (List.map ZQ a.edges)))]),(.arr 1 (List.map Zd s0.1)),(.arr 1 (List.map D.bool s0.2))])
theorem Zo6 {t0 t1:Bool}{a:ZB}{s0:(List Int)×(List Bool)}:∀(s1:Int) (r:(((List Int)×(List Bool))⊕Unit)),lp (Zen a s0) s1=some r→lpW ctx 0 [1,4,5,21,22] [1,4,5] Zxg [(.ptr 0 0),(.sl 1 1),(.sl 2 1),(.d (Zd (a.work.length:Int))),(.d (Zd s1))] [(.cells [(.d (zL t0 a.work)),(.d (D.list t1 (List.map ZQ a.edges)))]),(.arr 1 (List.map Zd s0.1)),(.arr 1 (List.map D.bool s0.2))]=some ((Zle t0 t1 a s0) r):=by
 refine Za7 (Zle t0 t1 a s0) ?_
 intro s1 rcl ih
 show ZD _ _ (lpW _ _ _ _ _ _ _)
 unfold Zen
 rw[Za9]
 conv=>rhs;whnf
 refine Zc rfl ?_ ?_<;>conv=>rhs;whnf
 ·refine Zm rfl rfl fun x2 hx2=>?_;conv=>rhs;whnf
  refine Zh (Zr rfl hx2) ?_;conv=>rhs;whnf
  refine Zc rfl ?_ ?_<;>conv=>rhs;whnf
  ·exact Zf (ih _)
  ·refine Zl (ZE _ _) ?_;conv=>rhs;whnf
   refine Ze _ (Zo0 _) fun r6 hr6=>?_
   clear hr6
   rcases r6 with r6 | r6
   ·conv=>rhs;whnf
    exact Zf (ih _)
   ·conv=>rhs;whnf
    refine Zh (ZaX rfl hx2) ?_;conv=>rhs;whnf
    refine Zh (Zr rfl hx2) ?_;conv=>rhs;whnf
    refine Zl (Zaq D.bool s0.2 s1.toNat true) ?_;conv=>rhs;whnf
    refine ZbQ rfl ?_;conv=>rhs;whnf
    refine Zc (ZgY Zd s0.1 1) ?_ ?_
    ·conv=>rhs;whnf
     refine Zl (ZgV Zd s0.1 [s1]) ?_;conv=>rhs;whnf
     exact Zb rfl
    ·exact ZI
 ·exact Zb rfl
def ZkP (t0:Bool) (t1:Bool) (a:ZB):((List Int)⊕(List Int))→Ex×List V×Zn
  | (.inl r)=>(.ret,[(.nilsl 1),(.d (D.bool false)),(.sl 0 1)],[(.arr 1 (List.map Zd r))])
  | (.inr r)=>(.exit 0,[.bad,.bad,(.sl 0 1)],[(.arr 1 (List.map Zd r))])
theorem Zpo {t0 t1:Bool}{a:ZB}:∀(s0:(List Int)×(List Bool)) (r:((List Int)⊕(List Int))),lp (ZfN a) s0=some r→lpW ctx 0 [1,4,5] [2,3,4] ZwI [(.ptr 0 0),(.sl 1 1),(.sl 2 1)] [(.cells [(.d (zL t0 a.work)),(.d (D.list t1 (List.map ZQ a.edges)))]),(.arr 1 (List.map Zd s0.1)),(.arr 1 (List.map D.bool s0.2))]=some ((ZkP t0 t1 a) r):=by
 refine Za7 (ZkP t0 t1 a) ?_
 intro s0 rcl ih
 show ZD _ _ (lpW _ _ _ _ _ _ _)
 unfold ZfN
 rw[Za9]
 conv=>rhs;whnf
 refine Zl (ZE _ _) ?_;conv=>rhs;whnf
 refine Zl (ZE _ _) ?_;conv=>rhs;whnf
 refine Zc rfl ?_ ?_<;>conv=>rhs;whnf
 ·refine Zl (ZE _ _) ?_;conv=>rhs;whnf
  refine Ze _ (Zo6 _) fun r7 hr7=>?_
  clear hr7
  rcases r7 with r7 | r7
  ·conv=>rhs;whnf
   exact Zf (ih _)
  ·conv=>rhs;whnf
   exact Zb rfl
 ·exact Zb rfl
theorem Zrv {t0 t1:Bool}{a:ZB}:∀r,(Zgw a)=some r→evD ctx 144 [(.d (D.agg [(zL t0 a.work),(D.list t1 (List.map ZQ a.edges))]))]=some (ZnI r):=by
 show ZD _ (fun r rhs=>rhs=some (ZnI r)) _
 unfold Zgw
 rw[ZaF ctx 144 ZyW _ rfl rfl]
 conv=>rhs;whnf
 refine Zl (ZE _ _) ?_;conv=>rhs;whnf
 refine Zc rfl ?_ ?_
 ·conv=>rhs;whnf
  refine Zl (ZlA D.bool (false:Bool) (a.work.length:Int)) ?_;conv=>rhs;whnf
  refine Ze _ (Zpo _) fun r8 hr8=>?_
  clear hr8
  rcases r8 with r8 | r8
  ·conv=>rhs;whnf
   exact Zb rfl
  ·conv=>rhs;whnf
   exact Zb rfl
 ·exact ZI
def ZnR (r:Int):D:=(Zd r)
def ZkV (t0:Bool) (t1:Bool) (a:ZB):(Unit⊕Unit)→Ex×List V×Zn
  | (.inl r)=>(.ret,[(.ptr 0 0),(.d (Zd 42))],[(.cells [(.d (zL t0 a.work)),(.d (D.list t1 (List.map ZQ a.edges)))])])
  | (.inr r)=>(.exit 0,[(.ptr 0 0),.bad],[(.cells [(.d (zL t0 a.work)),(.d (D.list t1 (List.map ZQ a.edges)))])])
theorem Zpp {t0 t1:Bool}{a:ZB}:∀(s1:Int) (r:(Unit⊕Unit)),lp (ZeE a) s1=some r→lpW ctx 0 [1,3,23,24,25] [1,2] Zzz [(.ptr 0 0),(.fn 143 [(.ptr 0 0)]),(.d (D.list t1 (List.map ZQ a.edges))),(.d (Zd (a.edges.length:Int))),(.d (Zd s1))] [(.cells [(.d (zL t0 a.work)),(.d (D.list t1 (List.map ZQ a.edges)))])]=some ((ZkV t0 t1 a) r):=by
 refine Za7 (ZkV t0 t1 a) ?_
 intro s1 rcl ih
 show ZD _ _ (lpW _ _ _ _ _ _ _)
 unfold ZeE
 rw[Za9]
 conv=>rhs;whnf
 refine Zc rfl ?_ ?_<;>conv=>rhs;whnf
 ·refine Zm rfl rfl fun x2 hx2=>?_;conv=>rhs;whnf
  refine Zk _ ZkU rfl fun x3 hx3=>?_;conv=>rhs;whnf
  refine Zc rfl ?_ ?_<;>conv=>rhs;whnf
  ·refine Zk _ ZkU rfl fun x4 hx4=>?_;conv=>rhs;whnf
   refine Zc rfl ?_ ?_<;>conv=>rhs;whnf
   ·refine Zc rfl ?_ ?_<;>conv=>rhs;whnf
    ·exact Zb rfl
    ·refine Zc rfl ?_ ?_
     ·conv=>rhs;whnf
      refine Zc (ZwK ZQ a.edges s1.toNat) ?_ ?_
      ·conv=>rhs;whnf
       refine ZbQ rfl ?_;conv=>rhs;whnf
       refine Zl (ZtO ZQ a.edges s1.toNat) ?_;conv=>rhs;whnf
       refine Zk _ ZhY rfl fun x5 hx5=>?_;conv=>rhs;whnf
       refine Zc rfl ?_ ?_<;>conv=>rhs;whnf
       ·exact Zb rfl
       ·exact Zf (ih _)
      ·exact ZI
     ·exact ZI
   ·exact Zb rfl
  ·exact Zb rfl
 ·exact Zb rfl
theorem ZjX {t0 t1:Bool}{a:ZB}:∀r,(ZgG a)=some r→evD ctx 85 [(.d (D.agg [(zL t0 a.work),(D.list t1 (List.map ZQ a.edges))]))]=some (ZnR r):=by
 show ZD _ (fun r rhs=>rhs=some (ZnR r)) _
 unfold ZgG
 rw[ZaF ctx 85 ZCK _ rfl rfl]
 conv=>rhs;whnf
 refine Zl (ZE _ _) ?_;conv=>rhs;whnf
 refine Zc rfl ?_ ?_<;>conv=>rhs;whnf
 ·exact Zb rfl
 ·refine Zl (ZE _ _) ?_;conv=>rhs;whnf
  refine Zc rfl ?_ ?_<;>conv=>rhs;whnf
  ·exact Zb rfl
  ·refine Zk _ Zfb rfl fun x0 hx0=>?_;conv=>rhs;whnf
   refine Zc rfl ?_ ?_<;>conv=>rhs;whnf
   ·exact Zb rfl
   ·refine Zl (ZE _ _) ?_;conv=>rhs;whnf
    refine Ze _ (Zpp _) fun r6 hr6=>?_
    clear hr6
    rcases r6 with r6 | r6
    ·conv=>rhs;whnf
     exact Zb rfl
    ·conv=>rhs;whnf
     refine Zk _ Zrv rfl fun x7 hx7=>?_;conv=>rhs;whnf
     refine Zc rfl ?_ ?_<;>conv=>rhs;whnf
     ·exact Zb rfl
     ·exact Zb rfl
def Zkq (r:Bool):D:=(D.bool r)
theorem Zox {a:Int}:∀r,(Zdj a)=some r→evD ctx 127 [(.d (Zd a))]=some (Zkq r):=by
 show ZD _ (fun r rhs=>rhs=some (Zkq r)) _
 unfold Zdj
 rw[ZaF ctx 127 Zz8 _ rfl rfl]
 conv=>rhs;whnf
 refine Zc rfl ?_ ?_<;>conv=>rhs;whnf
 ·exact Zb rfl
 ·refine Zc rfl ?_ ?_<;>conv=>rhs;whnf
  ·exact Zb rfl
  ·exact Zb rfl
def ZcU (r:Int):D:=(Zd r)
def Zcy (t0:Bool) (a:List Int):(Int⊕Unit)→Ex×List V×Zn
  | (.inl r)=>(.ret,[(.d (Zd r))],[])
  | (.inr r)=>(.exit 0,[.bad],[])
theorem ZeI {t0:Bool}{a:List Int}:∀(s0:Int) (r:(Int⊕Unit)),lp (ZC a (fun z0=>Zdj z0)) s0=some r→lpW ctx 0 [0,1,7,8] [4] Zrn [(.d (zL t0 a)),(.d (D.fn 127 [])),(.d (Zd (a.length:Int))),(.d (Zd s0))] []=some ((Zcy t0 a) r):=by
 refine Za7 (Zcy t0 a) ?_
 intro s0 rcl ih
 show ZD _ _ (lpW _ _ _ _ _ _ _)
 unfold ZC
 rw[Za9]
 conv=>rhs;whnf
 refine Zc rfl ?_ ?_<;>conv=>rhs;whnf
 ·refine Zm rfl rfl fun x1 hx1=>?_;conv=>rhs;whnf
  refine Zk _ Zox rfl fun x2 hx2=>?_;conv=>rhs;whnf
  refine Zc rfl ?_ ?_<;>conv=>rhs;whnf
  ·exact Zb rfl
  ·exact Zf (ih _)
 ·exact Zb rfl
theorem Zfp {t0:Bool}{a:List Int}:∀r,(ZO a (fun z0=>Zdj z0))=some r→evD ctx 94 [(.d (zL t0 a)),(.d (D.fn 127 []))]=some (ZcU r):=by
 show ZD _ (fun r rhs=>rhs=some (ZcU r)) _
 unfold ZO
 rw[ZaF ctx 94 Zx1 _ rfl rfl]
 conv=>rhs;whnf
 refine Zl (ZE _ _) ?_;conv=>rhs;whnf
 refine Ze _ (ZeI _) fun r3 hr3=>?_
 clear hr3
 rcases r3 with r3 | r3
 ·conv=>rhs;whnf
  exact Zb rfl
 ·conv=>rhs;whnf
  exact Zb rfl
def Zcv (r:Bool):D:=(D.bool r)
theorem ZeJ {t0:Bool}{a:List Int}:∀r,(ZV a (fun z0=>Zdj z0))=some r→evD ctx 44 [(.d (zL t0 a)),(.d (D.fn 127 []))]=some (Zcv r):=by
 show ZD _ (fun r rhs=>rhs=some (Zcv r)) _
 unfold ZV
 rw[ZaF ctx 44 ZAm _ rfl rfl]
 conv=>rhs;whnf
 refine Zk _ Zfp rfl fun x0 hx0=>?_;conv=>rhs;whnf
 refine Zc rfl ?_ ?_<;>conv=>rhs;whnf
 ·exact Zb rfl
 ·exact Zb rfl
def Zl0 (r:(Bool×Int)):D:=(D.tup [(D.bool r.1),(Zd r.2)])
theorem ZpM {t0 t1 t2:Bool}{a:ZB}{b:List Int}{c:Int}:∀r,(Zhk a b c)=some r→evD ctx 73 [(.d (D.agg [(zL t0 a.work),(D.list t1 (List.map ZQ a.edges))])),(.d (zL t2 b)),(.d (Zd c))]=some (Zl0 r):=by
 show ZD _ (fun r rhs=>rhs=some (Zl0 r)) _
 unfold Zhk
 rw[ZaF ctx 73 ZCR _ rfl rfl]
 conv=>rhs;whnf
 refine Zk _ ZjX rfl fun x0 hx0=>?_;conv=>rhs;whnf
 refine Zc rfl ?_ ?_<;>conv=>rhs;whnf
 ·exact Zb rfl
 ·refine Zl (ZE _ _) ?_;conv=>rhs;whnf
  refine Zl (ZE _ _) ?_;conv=>rhs;whnf
  refine Zc rfl ?_ ?_<;>conv=>rhs;whnf
  ·refine Zk _ ZeJ rfl fun x1 hx1=>?_;conv=>rhs;whnf
   refine Zc rfl ?_ ?_<;>conv=>rhs;whnf
   ·exact Zb rfl
   ·refine Zc rfl ?_ ?_<;>conv=>rhs;whnf
    ·refine Zc rfl ?_ ?_<;>conv=>rhs;whnf
     ·exact Zb rfl
     ·exact Zb rfl
    ·exact Zb rfl
  ·exact Zb rfl
def ZkJ (r:Bool):D:=(D.bool r)
theorem Zph {t0:Bool}{a:List Int}{b0:Int}:∀r,(Zet a b0)=some r→evD ctx 118 [(.d (zL t0 a)),(.d (D.rptr [(Zd b0)]))]=some (ZkJ r):=by
 show ZD _ (fun r rhs=>rhs=some (ZkJ r)) _
 unfold Zet
 rw[ZaF ctx 118 Zz6 _ rfl rfl]
 conv=>rhs;whnf
 refine Zl (ZE _ _) ?_;conv=>rhs;whnf
 refine Zc rfl ?_ ?_<;>conv=>rhs;whnf
 ·exact Zb rfl
 ·exact Zb rfl
def ZcK (r:Int):D:=(Zd r)
def Zcr (t0:Bool) (a:(List (List Int))) (b0:Int):(Int⊕Unit)→Ex×List V×Zn
  | (.inl r)=>(.ret,[(.d (Zd r))],[])
  | (.inr r)=>(.exit 0,[.bad],[])
theorem ZeD {t0:Bool}{a:(List (List Int))}{b0:Int}:∀(s0:Int) (r:(Int⊕Unit)),lp (Zc6 a (fun z0=>Zet z0 b0)) s0=some r→lpW ctx 0 [0,1,7,8] [4] ZwQ [(.d (D.list t0 (List.map (ZkY true) a))),(.d (D.fn 118 [(D.rptr [(Zd b0)])])),(.d (Zd (a.length:Int))),(.d (Zd s0))] []=some ((Zcr t0 a b0) r):=by
 refine Za7 (Zcr t0 a b0) ?_
 intro s0 rcl ih
 show ZD _ _ (lpW _ _ _ _ _ _ _)
 unfold Zc6
 rw[Za9]
 conv=>rhs;whnf
 refine Zc rfl ?_ ?_<;>conv=>rhs;whnf
 ·refine Zm rfl rfl fun x1 hx1=>?_;conv=>rhs;whnf
  refine Zk _ Zph rfl fun x2 hx2=>?_;conv=>rhs;whnf
  refine Zc rfl ?_ ?_<;>conv=>rhs;whnf
  ·exact Zb rfl
  ·exact Zf (ih _)
 ·exact Zb rfl
theorem Zfe {t0:Bool}{a:(List (List Int))}{b0:Int}:∀r,(Zcs a (fun z0=>Zet z0 b0))=some r→evD ctx 170 [(.d (D.list t0 (List.map (ZkY true) a))),(.d (D.fn 118 [(D.rptr [(Zd b0)])]))]=some (ZcK r):=by
 show ZD _ (fun r rhs=>rhs=some (ZcK r)) _
 unfold Zcs
 rw[ZaF ctx 170 Zzm _ rfl rfl]
 conv=>rhs;whnf
 refine Zl (ZE _ _) ?_;conv=>rhs;whnf
 refine Ze _ (ZeD _) fun r3 hr3=>?_
 clear hr3
 rcases r3 with r3 | r3
 ·conv=>rhs;whnf
  exact Zb rfl
 ·conv=>rhs;whnf
  exact Zb rfl
def Zcp (r:Bool):D:=(D.bool r)
theorem Zeq {t0:Bool}{a:(List (List Int))}{b0:Int}:∀r,(Zbv a (fun z0=>Zet z0 b0))=some r→evD ctx 119 [(.d (D.list t0 (List.map (ZkY true) a))),(.d (D.fn 118 [(D.rptr [(Zd b0)])]))]=some (Zcp r):=by
 show ZD _ (fun r rhs=>rhs=some (Zcp r)) _
 unfold Zbv
 rw[ZaF ctx 119 ZzZ _ rfl rfl]
 conv=>rhs;whnf
 refine Zk _ Zfe rfl fun x0 hx0=>?_;conv=>rhs;whnf
 refine Zc rfl ?_ ?_<;>conv=>rhs;whnf
 ·exact Zb rfl
 ·exact Zb rfl
def ZlX (t0:Bool) (a:List Int):(List Int)→V×Zn
  | r=>((.ptr 0 0),[(.cells [(.d (zL t0 a)),(.sl 1 1),(.sl 2 2),(.sl 3 1)]),(.arr 1 (List.map Zd (List.replicate (a.length:Int).toNat (0:Int)))),(.arr 2 (List.map Zgq (List.replicate (a.length:Int).toNat ((Zce.mk 0 0):Zce)))),(.arr 1 (List.map Zd r))])
def Zj5 (t0:Bool) (a:List Int):(List Int)→Ex×List V×Zn
  | r=>(.exit 0,[(.ptr 0 0)],[(.cells [(.d (zL t0 a)),(.sl 1 1),(.sl 2 2),(.sl 3 1)]),(.arr 1 (List.map Zd (List.replicate (a.length:Int).toNat (0:Int)))),(.arr 2 (List.map Zgq (List.replicate (a.length:Int).toNat ((Zce.mk 0 0):Zce)))),(.arr 1 (List.map Zd r))])
theorem Zny {t0:Bool}{a:List Int}:∀(s0:Int×(List Int)) (r:List Int),lp (ZcZ a) s0=some r→lpW ctx 0 [3,18,19] [3] ZwU [(.ptr 0 0),(.d (Zd (a.length:Int))),(.d (Zd s0.1))] [(.cells [(.d (zL t0 a)),(.sl 1 1),(.sl 2 2),(.sl 3 1)]),(.arr 1 (List.map Zd (List.replicate (a.length:Int).toNat (0:Int)))),(.arr 2 (List.map Zgq (List.replicate (a.length:Int).toNat ((Zce.mk 0 0):Zce)))),(.arr 1 (List.map Zd s0.2))]=some ((Zj5 t0 a) r):=by
 refine Za7 (Zj5 t0 a) ?_
 intro s0 rcl ih
 show ZD _ _ (lpW _ _ _ _ _ _ _)
 unfold ZcZ
 rw[Za9]
 conv=>rhs;whnf
 refine Zc rfl ?_ ?_<;>conv=>rhs;whnf
 ·refine Zm rfl rfl fun x1 hx1=>?_;conv=>rhs;whnf
  refine Zh (Zr rfl hx1) ?_;conv=>rhs;whnf
  refine Zl (Zaq Zd s0.2 s0.1.toNat (-1)) ?_;conv=>rhs;whnf
  exact Zf (ih _)
 ·exact Zb rfl
theorem ZpU {t0:Bool}{a:List Int}:∀r,(Zhe a)=some r→evW ctx 120 [(.d (zL t0 a))] []=some ((ZlX t0 a) r):=by
 show ZD _ (fun r rhs=>rhs=some ((ZlX t0 a) r)) _
 unfold Zhe
 rw[ZcR ctx 120 ZzU _ _ rfl rfl]
 conv=>rhs;whnf
 refine Zl (ZE _ _) ?_;conv=>rhs;whnf
 refine Zc rfl ?_ ?_
 ·conv=>rhs;whnf
  refine Zl (ZlA Zd (0:Int) (a.length:Int)) ?_;conv=>rhs;whnf
  refine Zl (ZE _ _) ?_;conv=>rhs;whnf
  refine Zc rfl ?_ ?_
  ·conv=>rhs;whnf
   refine Zl (ZlA Zgq ((Zce.mk 0 0):Zce) (a.length:Int)) ?_;conv=>rhs;whnf
   refine Zl (ZE _ _) ?_;conv=>rhs;whnf
   refine Zc rfl ?_ ?_
   ·conv=>rhs;whnf
    refine Zl (ZlA Zd (0:Int) (a.length:Int)) ?_;conv=>rhs;whnf
    refine Zl (ZE _ _) ?_;conv=>rhs;whnf
    refine Ze _ (Zny _) fun r2 hr2=>?_;conv=>rhs;whnf
    exact Zb rfl
   ·exact ZI
  ·exact ZI
 ·exact ZI
def ZgL (r:Int):D:=(Zd r)
def ZfU (t0:Bool) (a:List Int) (b:Int):(Int⊕Unit)→Ex×List V×Zn
  | (.inl r)=>(.ret,[(.d (Zd r))],[])
  | (.inr r)=>(.exit 0,[.bad],[])
theorem Zin {t0:Bool}{a:List Int}{b:Int}:∀(s0:Int) (r:(Int⊕Unit)),lp (Zb9 a b) s0=some r→lpW ctx 0 [0,1,7,8] [4] Zv8 [(.d (zL t0 a)),(.d (Zd b)),(.d (Zd (a.length:Int))),(.d (Zd s0))] []=some ((ZfU t0 a b) r):=by
 refine Za7 (ZfU t0 a b) ?_
 intro s0 rcl ih
 show ZD _ _ (lpW _ _ _ _ _ _ _)
 unfold Zb9
 rw[Za9]
 conv=>rhs;whnf
 refine Zc rfl ?_ ?_<;>conv=>rhs;whnf
 ·refine Zm rfl rfl fun x1 hx1=>?_;conv=>rhs;whnf
  refine Zc rfl ?_ ?_<;>conv=>rhs;whnf
  ·exact Zb rfl
  ·exact Zf (ih _)
 ·exact Zb rfl
theorem ZjC {t0:Bool}{a:List Int}{b:Int}:∀r,(ZdA a b)=some r→evD ctx 123 [(.d (zL t0 a)),(.d (Zd b))]=some (ZgL r):=by
 show ZD _ (fun r rhs=>rhs=some (ZgL r)) _
 unfold ZdA
 rw[ZaF ctx 123 ZAb _ rfl rfl]
 conv=>rhs;whnf
 refine Zl (ZE _ _) ?_;conv=>rhs;whnf
 refine Ze _ (Zin _) fun r2 hr2=>?_
 clear hr2
 rcases r2 with r2 | r2
 ·conv=>rhs;whnf
  exact Zb rfl
 ·conv=>rhs;whnf
  exact Zb rfl
def ZfP (r:Bool):D:=(D.bool r)
theorem Zbn {t0:Bool}{a:List Int}{b:Int}:∀r,(Zak a b)=some r→evD ctx 71 [(.d (zL t0 a)),(.d (Zd b))]=some (ZfP r):=by
 show ZD _ (fun r rhs=>rhs=some (ZfP r)) _
 unfold Zak
 rw[ZaF ctx 71 ZDp _ rfl rfl]
 conv=>rhs;whnf
 refine Zk _ ZjC rfl fun x0 hx0=>?_;conv=>rhs;whnf
 refine Zc rfl ?_ ?_<;>conv=>rhs;whnf
 ·exact Zb rfl
 ·exact Zb rfl
def Zjd (r:Bool):D:=(D.bool r)
theorem Znc {t0 t1:Bool}{t2 t3:Bool}{a0:List Int}{a1:List Int}{a2:List Zce}{a3:List Int}{b c:Int}:∀r,(ZhU a3 b c)=some r→evD ctx 126 [(.d (D.rptr [(zL t0 a0),(zL t1 a1),(D.list t2 (List.map Zgq a2)),(zL t3 a3)])),(.d (Zd b)),(.d (Zd c))]=some (Zjd r):=by
 show ZD _ (fun r rhs=>rhs=some (Zjd r)) _
 unfold ZhU
 rw[ZaF ctx 126 Zz4 _ rfl rfl]
 conv=>rhs;whnf
 refine Zm rfl rfl fun x0 hx0=>?_;conv=>rhs;whnf
 refine Zc rfl ?_ ?_<;>conv=>rhs;whnf
 ·refine Zh (ZaX rfl hx0) ?_;conv=>rhs;whnf
  refine Zc rfl ?_ ?_<;>conv=>rhs;whnf
  ·exact Zb rfl
  ·exact Zb rfl
 ·exact Zb rfl
def Zif (r:Bool):D:=(D.bool r)
theorem ZlL {t0 t1:Bool}{t2 t3:Bool}{a:ZZ}{b0:Int}{c0:List Int}{c1:List Int}{c2:List Zce}{c3:List Int}{d0:Int}:∀r,(Zdh a b0 c3 d0)=some r→evD ctx 125 [(.d (D.agg [(Zd a.src),(Zd a.dst)])),(.d (D.rptr [(Zd b0)])),(.d (D.rptr [(D.rptr [(zL t0 c0),(zL t1 c1),(D.list t2 (List.map Zgq c2)),(zL t3 c3)])])),(.d (D.rptr [(Zd d0)]))]=some (Zif r):=by
 show ZD _ (fun r rhs=>rhs=some (Zif r)) _
 unfold Zdh
 rw[ZaF ctx 125 ZzL _ rfl rfl]
 conv=>rhs;whnf
 refine Zc rfl ?_ ?_<;>conv=>rhs;whnf
 ·refine Zk _ Znc rfl fun x0 hx0=>?_;conv=>rhs;whnf
  refine Zc rfl ?_ ?_<;>conv=>rhs;whnf
  ·exact Zb rfl
  ·exact Zb rfl
 ·exact Zb rfl
def Zcg (r:Int):D:=(Zd r)
def Zb0 (t0:Bool) (t1:Bool) (t2:Bool) (t3:Bool) (t4:Bool) (a:List ZZ) (b0:Int) (b1:List Int) (b2:List Int) (b3:List Zce) (b4:List Int) (b5:Int):(Int⊕Unit)→Ex×List V×Zn
  | (.inl r)=>(.ret,[(.d (Zd r))],[])
  | (.inr r)=>(.exit 0,[.bad],[])
theorem ZdN {t0 t1:Bool}{t2 t3 t4:Bool}{a:List ZZ}{b0:Int}{b1:List Int}{b2:List Int}{b3:List Zce}{b4:List Int}{b5:Int}:∀(s0:Int) (r:(Int⊕Unit)),lp (ZaA a (fun z0=>Zdh z0 b0 b4 b5)) s0=some r→lpW ctx 0 [0,1,7,8] [4] ZtC [(.d (D.list t0 (List.map ZQ a))),(.d (D.fn 125 [(D.rptr [(Zd b0)]),(D.rptr [(D.rptr [(zL t1 b1),(zL t2 b2),(D.list t3 (List.map Zgq b3)),(zL t4 b4)])]),(D.rptr [(Zd b5)])])),(.d (Zd (a.length:Int))),(.d (Zd s0))] []=some ((Zb0 t0 t1 t2 t3 t4 a b0 b1 b2 b3 b4 b5) r):=by
 refine Za7 (Zb0 t0 t1 t2 t3 t4 a b0 b1 b2 b3 b4 b5) ?_
 intro s0 rcl ih
 show ZD _ _ (lpW _ _ _ _ _ _ _)
 unfold ZaA
 rw[Za9]
 conv=>rhs;whnf
 refine Zc rfl ?_ ?_<;>conv=>rhs;whnf
 ·refine Zm rfl rfl fun x1 hx1=>?_;conv=>rhs;whnf
  refine Zk _ ZlL rfl fun x2 hx2=>?_;conv=>rhs;whnf
  refine Zc rfl ?_ ?_<;>conv=>rhs;whnf
  ·exact Zb rfl
  ·exact Zf (ih _)
 ·exact Zb rfl
theorem Zd8 {t0 t1:Bool}{t2 t3 t4:Bool}{a:List ZZ}{b0:Int}{b1:List Int}{b2:List Int}{b3:List Zce}{b4:List Int}{b5:Int}:∀r,(Zbo a (fun z0=>Zdh z0 b0 b4 b5))=some r→evD ctx 171 [(.d (D.list t0 (List.map ZQ a))),(.d (D.fn 125 [(D.rptr [(Zd b0)]),(D.rptr [(D.rptr [(zL t1 b1),(zL t2 b2),(D.list t3 (List.map Zgq b3)),(zL t4 b4)])]),(D.rptr [(Zd b5)])]))]=some (Zcg r):=by
 show ZD _ (fun r rhs=>rhs=some (Zcg r)) _
 unfold Zbo
 rw[ZaF ctx 171 ZwC _ rfl rfl]
 conv=>rhs;whnf
 refine Zl (ZE _ _) ?_;conv=>rhs;whnf
 refine Ze _ (ZdN _) fun r3 hr3=>?_
 clear hr3
 rcases r3 with r3 | r3
 ·conv=>rhs;whnf
  exact Zb rfl
 ·conv=>rhs;whnf
  exact Zb rfl
def Zb2 (r:Bool):D:=(D.bool r)
theorem ZdO {t0 t1:Bool}{t2 t3 t4:Bool}{a:List ZZ}{b0:Int}{b1:List Int}{b2:List Int}{b3:List Zce}{b4:List Int}{b5:Int}:∀r,(Zai a (fun z0=>Zdh z0 b0 b4 b5))=some r→evD ctx 124 [(.d (D.list t0 (List.map ZQ a))),(.d (D.fn 125 [(D.rptr [(Zd b0)]),(D.rptr [(D.rptr [(zL t1 b1),(zL t2 b2),(D.list t3 (List.map Zgq b3)),(zL t4 b4)])]),(D.rptr [(Zd b5)])]))]=some (Zb2 r):=by
 show ZD _ (fun r rhs=>rhs=some (Zb2 r)) _
 unfold Zai
 rw[ZaF ctx 124 Zxk _ rfl rfl]
 conv=>rhs;whnf
 refine Zk _ Zd8 rfl fun x0 hx0=>?_;conv=>rhs;whnf
 refine Zc rfl ?_ ?_<;>conv=>rhs;whnf
 ·exact Zb rfl
 ·exact Zb rfl
def Zjj (r:Bool):D:=(D.bool r)
theorem ZiW {t0 t1:Bool}{t2 t3:Bool}{t4 t5:Bool}{a0:List Int}{a1:List Int}{a2:List Zce}{a3:List Int}{b:ZB}{c d:Int}:∀r,(Zgl a3 b c d)=some r→evD ctx 72 [(.d (D.rptr [(zL t0 a0),(zL t1 a1),(D.list t2 (List.map Zgq a2)),(zL t3 a3)])),(.d (D.agg [(zL t4 b.work),(D.list t5 (List.map ZQ b.edges))])),(.d (Zd c)),(.d (Zd d))]=some (Zjj r):=by
 show ZD _ (fun r rhs=>rhs=some (Zjj r)) _
 unfold Zgl
 rw[ZaF ctx 72 ZCA _ rfl rfl]
 conv=>rhs;whnf
 refine Zk _ ZdO rfl fun x0 hx0=>?_;conv=>rhs;whnf
 refine Zc rfl ?_ ?_<;>conv=>rhs;whnf
 ·exact Zb rfl
 ·exact Zb rfl
def ZjJ (r:Int):D:=(Zd r)
theorem Znz {t0 t1:Bool}{t2 t3:Bool}{t4 t5 t6:Bool}{a0:List Int}{a1:List Int}{a2:List Zce}{a3:List Int}{b:ZB}{c:List Int}{d e:Int}:∀r,(Ziq a0 a1 a2 a3 b c d e)=some r→evD ctx 121 [(.d (D.rptr [(zL t0 a0),(zL t1 a1),(D.list t2 (List.map Zgq a2)),(zL t3 a3)])),(.d (D.agg [(zL t4 b.work),(D.list t5 (List.map ZQ b.edges))])),(.d (zL t6 c)),(.d (Zd d)),(.d (Zd e))]=some (ZjJ r):=by
 show ZD _ (fun r rhs=>rhs=some (ZjJ r)) _
 unfold Ziq
 rw[ZaF ctx 121 ZyN _ rfl rfl]
 conv=>rhs;whnf
 refine Zm rfl rfl fun x0 hx0=>?_;conv=>rhs;whnf
 refine Zc rfl ?_ ?_<;>conv=>rhs;whnf
 ·exact Zb rfl
 ·refine Zl (ZE _ _) ?_;conv=>rhs;whnf
  refine Zc rfl ?_ ?_<;>conv=>rhs;whnf
  ·exact Zb rfl
  ·refine Zc rfl ?_ ?_
   ·conv=>rhs;whnf
    refine Zc (ZwK Zd c e.toNat) ?_ ?_
    ·conv=>rhs;whnf
     refine ZbQ rfl ?_;conv=>rhs;whnf
     refine Zl (ZtO Zd c e.toNat) ?_;conv=>rhs;whnf
     refine Zk _ Zbn rfl fun x1 hx1=>?_;conv=>rhs;whnf
     refine Zc rfl ?_ ?_<;>conv=>rhs;whnf
     ·exact Zb rfl
     ·refine Zm rfl rfl fun x2 hx2=>?_;conv=>rhs;whnf
      refine Zm rfl rfl fun x3 hx3=>?_;conv=>rhs;whnf
      refine Zc rfl ?_ ?_<;>conv=>rhs;whnf
      ·exact Zb rfl
      ·refine Zh (ZaX rfl hx2) ?_;conv=>rhs;whnf
       refine Zc rfl ?_ ?_<;>conv=>rhs;whnf
       ·refine Zm rfl rfl fun x4 hx4=>?_;conv=>rhs;whnf
        refine Zc rfl ?_ ?_<;>conv=>rhs;whnf
        ·exact Zb rfl
        ·refine Zh (ZaX rfl hx2) ?_;conv=>rhs;whnf
         refine Zc rfl ?_ ?_<;>conv=>rhs;whnf
         ·refine Zk _ ZiW rfl fun x5 hx5=>?_;conv=>rhs;whnf
          refine Zc rfl ?_ ?_<;>conv=>rhs;whnf
          ·exact Zb rfl
          ·exact Zb rfl
         ·exact Zb rfl
       ·refine Zh (ZaX rfl hx2) ?_;conv=>rhs;whnf
        refine Zc rfl ?_ ?_<;>conv=>rhs;whnf
        ·refine Zk _ ZiW rfl fun x6 hx6=>?_;conv=>rhs;whnf
         refine Zc rfl ?_ ?_<;>conv=>rhs;whnf
         ·exact Zb rfl
         ·exact Zb rfl
        ·exact Zb rfl
    ·exact ZI
   ·exact ZI
def ZmU (t0:Bool) (t1:Bool) (b:Int) (c:List Int) (m0_0:List Int) (m1_0:List Int) (m2_0:List Zce) (m3_0:List Int):Unit→V×Zn
  | r=>((.d (D.tup [])),[(.cells [(.d (zL t1 m0_0)),(.sl 1 1),(.sl 2 2),(.sl 3 1)]),(.arr 1 (List.map Zd m1_0)),(.arr 2 (List.map Zgq m2_0)),(.arr 1 (List.map Zd m3_0))])
theorem Zqm {t0 t1:Bool}{b:Int}{c:List Int}{m0_0:List Int}{m1_0:List Int}{m2_0:List Zce}{m3_0:List Int}:∀r,(ZlD b c)=some r→evW ctx 69 [(.ptr 0 0),(.d (Zd b)),(.d (zL t0 c))] [(.cells [(.d (zL t1 m0_0)),(.sl 1 1),(.sl 2 2),(.sl 3 1)]),(.arr 1 (List.map Zd m1_0)),(.arr 2 (List.map Zgq m2_0)),(.arr 1 (List.map Zd m3_0))]=some ((ZmU t0 t1 b c m0_0 m1_0 m2_0 m3_0) r):=by
 show ZD _ (fun r rhs=>rhs=some ((ZmU t0 t1 b c m0_0 m1_0 m2_0 m3_0) r)) _
 unfold ZlD
 rw[ZcR ctx 69 ZDJ _ _ rfl rfl]
 conv=>rhs;whnf
 exact Zb rfl
def ZjR (t0:Bool) (b:Int) (c:Int) (d:Int) (m0_0:List Int) (m1_0:List Int) (m2_0:List Zce) (m3_0:List Int):((List Int)×(List Int))→V×Zn
  | r=>((.d (D.tup [])),[(.cells [(.d (zL t0 m0_0)),(.sl 1 1),(.sl 2 2),(.sl 3 1)]),(.arr 1 (List.map Zd r.1)),(.arr 2 (List.map Zgq (List.set m2_0 b.toNat (Zce.mk c d)))),(.arr 1 (List.map Zd r.2))])
theorem Znw {t0:Bool}{b c d:Int}{m0_0:List Int}{m1_0:List Int}{m2_0:List Zce}{m3_0:List Int}:∀r,(Zij b c d m0_0 m1_0 m2_0 m3_0)=some r→evW ctx 122 [(.ptr 0 0),(.d (Zd b)),(.d (Zd c)),(.d (Zd d))] [(.cells [(.d (zL t0 m0_0)),(.sl 1 1),(.sl 2 2),(.sl 3 1)]),(.arr 1 (List.map Zd m1_0)),(.arr 2 (List.map Zgq m2_0)),(.arr 1 (List.map Zd m3_0))]=some ((ZjR t0 b c d m0_0 m1_0 m2_0 m3_0) r):=by
 show ZD _ (fun r rhs=>rhs=some ((ZjR t0 b c d m0_0 m1_0 m2_0 m3_0) r)) _
 unfold Zij
 rw[ZcR ctx 122 Zyu _ _ rfl rfl]
 conv=>rhs;whnf
 refine Zm rfl rfl fun x0 hx0=>?_;conv=>rhs;whnf
 refine Zh (Zr rfl hx0) ?_;conv=>rhs;whnf
 refine Zh (ZaX rfl hx0) ?_;conv=>rhs;whnf
 refine Zh (Zr rfl hx0) ?_;conv=>rhs;whnf
 refine Zl (Zaq Zd m1_0 b.toNat (w64 (x0+1))) ?_;conv=>rhs;whnf
 refine Zm rfl rfl fun x1 hx1=>?_;conv=>rhs;whnf
 refine Zh (Zr rfl hx1) ?_;conv=>rhs;whnf
 refine Zl (Zaq Zgq m2_0 b.toNat (Zce.mk c d)) ?_;conv=>rhs;whnf
 refine Zm rfl rfl fun x2 hx2=>?_;conv=>rhs;whnf
 refine Zh (Zr rfl hx2) ?_;conv=>rhs;whnf
 refine Zm rfl rfl fun x3 hx3=>?_;conv=>rhs;whnf
 refine Zc rfl ?_ ?_<;>conv=>rhs;whnf
 ·refine Zm rfl rfl fun x4 hx4=>?_;conv=>rhs;whnf
  refine Zh (Zr rfl hx4) ?_;conv=>rhs;whnf
  refine Zl (Zaq Zd m3_0 b.toNat (w64 (c+1))) ?_;conv=>rhs;whnf
  exact Zb rfl
 ·exact Zb rfl
def ZgB (t0:Bool) (t1:Bool) (t2:Bool) (t3:Bool) (a:ZB) (b:List Int) (c:Int) (d:(List (List Int))):(Int⊕(Int×(List Int)×(List Zce)×(List Int)))→V×Zn
  | (.inl r)=>((.d (D.tup [(D.nilp),(Zd r)])),[])
  | (.inr r)=>((.tup [(.ptr 0 0),(.d (Zd r.1))]),[(.cells [(.d (zL t2 b)),(.sl 1 1),(.sl 2 2),(.sl 3 1)]),(.arr 1 (List.map Zd r.2.1)),(.arr 2 (List.map Zgq r.2.2.1)),(.arr 1 (List.map Zd r.2.2.2))])
def ZfQ (t0:Bool) (t1:Bool) (t2:Bool) (t3:Bool) (a:ZB) (b:List Int) (d:(List (List Int))) (s3:Int×Int×(List Int)×(List Zce)×(List Int)) (x4:List Int):(Int⊕Int)→Ex×List V×Zn
  | (.inl r)=>(.exit 0,[(.d (D.fn 69 [])),(.ptr 0 0),(.d (Zd r)),(.ptr 1 0),(.d (Zd s3.2.1)),(.d (zL true x4)),(.d (D.list t3 (List.map (ZkY true) d))),(.d (Zd (d.length:Int))),(.d (Zd s3.2.1))],[(.cells [(.d (zL t0 a.work)),(.d (D.list t1 (List.map ZQ a.edges)))]),(.cells [(.d (zL t2 b)),(.sl 2 1),(.sl 3 2),(.sl 4 1)]),(.arr 1 (List.map Zd s3.2.2.1)),(.arr 2 (List.map Zgq s3.2.2.2.1)),(.arr 1 (List.map Zd s3.2.2.2.2))])
  | (.inr r)=>(.exit 2,[(.d (D.fn 69 [])),(.ptr 0 0),(.d (Zd r)),(.ptr 1 0),(.d (Zd s3.2.1)),(.d (zL true x4)),(.d (D.list t3 (List.map (ZkY true) d))),(.d (Zd (d.length:Int))),(.d (Zd s3.2.1))],[(.cells [(.d (zL t0 a.work)),(.d (D.list t1 (List.map ZQ a.edges)))]),(.cells [(.d (zL t2 b)),(.sl 2 1),(.sl 3 2),(.sl 4 1)]),(.arr 1 (List.map Zd s3.2.2.1)),(.arr 2 (List.map Zgq s3.2.2.2.1)),(.arr 1 (List.map Zd s3.2.2.2.2))])
theorem Zii {t0 t1:Bool}{t2 t3:Bool}{a:ZB}{b:List Int}{d:(List (List Int))}{s3:Int×Int×(List Int)×(List Zce)×(List Int)}{x4:List Int}:∀(s5:Int×Int) (r:(Int⊕Int)),lp (Zi4 a b s3 x4) s5=some r→lpW ctx 0 [4,5,13,15,16,17,47,48,49,54,55,56] [4,5,13,15,16,17,47,48,49] ZyM [(.d (D.fn 69 [])),(.ptr 0 0),(.d (Zd s5.1)),(.ptr 1 0),(.d (Zd s3.2.1)),(.d (zL true x4)),(.d (D.list t3 (List.map (ZkY true) d))),(.d (Zd (d.length:Int))),(.d (Zd s3.2.1)),(.d (zL true x4)),(.d (Zd (x4.length:Int))),(.d (Zd s5.2))] [(.cells [(.d (zL t0 a.work)),(.d (D.list t1 (List.map ZQ a.edges)))]),(.cells [(.d (zL t2 b)),(.sl 2 1),(.sl 3 2),(.sl 4 1)]),(.arr 1 (List.map Zd s3.2.2.1)),(.arr 2 (List.map Zgq s3.2.2.2.1)),(.arr 1 (List.map Zd s3.2.2.2.2))]=some ((ZfQ t0 t1 t2 t3 a b d s3 x4) r):=by
 refine Za7 (ZfQ t0 t1 t2 t3 a b d s3 x4) ?_
 intro s5 rcl ih
 show ZD _ _ (lpW _ _ _ _ _ _ _)
 unfold Zi4
 rw[Za9]
 conv=>rhs;whnf
 refine Zc rfl ?_ ?_<;>conv=>rhs;whnf
 ·refine Zm rfl rfl fun x6 hx6=>?_;conv=>rhs;whnf
  refine Zc rfl ?_ ?_<;>conv=>rhs;whnf
  ·exact Zf (ih _)
  ·refine Zk _ Znz rfl fun x7 hx7=>?_;conv=>rhs;whnf
   refine Zc rfl ?_ ?_<;>conv=>rhs;whnf
   ·exact Zb rfl
   ·exact Zf (ih _)
 ·exact Zb rfl
def ZfT (t0:Bool) (t1:Bool) (t2:Bool) (t3:Bool) (a:ZB) (b:List Int) (d:(List (List Int))) (s3:Int×Int×(List Int)×(List Zce)×(List Int)) (x4:List Int) (r8:Int):((List Int)×(List Zce)×(List Int))→Ex×List V×Zn
  | r=>(.exit 4,[(.d (D.fn 69 [])),(.ptr 0 0),(.d (Zd r8)),(.ptr 1 0),(.d (D.list t3 (List.map (ZkY true) d))),(.d (Zd (d.length:Int))),(.d (Zd s3.2.1))],[(.cells [(.d (zL t0 a.work)),(.d (D.list t1 (List.map ZQ a.edges)))]),(.cells [(.d (zL t2 b)),(.sl 2 1),(.sl 3 2),(.sl 4 1)]),(.arr 1 (List.map Zd r.1)),(.arr 2 (List.map Zgq r.2.1)),(.arr 1 (List.map Zd r.2.2))])
theorem Zih {t0 t1:Bool}{t2 t3:Bool}{a:ZB}{b:List Int}{d:(List (List Int))}{s3:Int×Int×(List Int)×(List Zce)×(List Int)}{x4:List Int}{r8:Int}:∀(s10:Int×(List Int)×(List Zce)×(List Int)) (r:((List Int)×(List Zce)×(List Int))),lp (Zi3 b s3 x4) s10=some r→lpW ctx 0 [4,5,13,15,16,47,48,49,77,78,79] [4,5,13,15,47,48,49] Zzb [(.d (D.fn 69 [])),(.ptr 0 0),(.d (Zd r8)),(.ptr 1 0),(.d (Zd s3.2.1)),(.d (D.list t3 (List.map (ZkY true) d))),(.d (Zd (d.length:Int))),(.d (Zd s3.2.1)),(.d (zL true x4)),(.d (Zd (x4.length:Int))),(.d (Zd s10.1))] [(.cells [(.d (zL t0 a.work)),(.d (D.list t1 (List.map ZQ a.edges)))]),(.cells [(.d (zL t2 b)),(.sl 2 1),(.sl 3 2),(.sl 4 1)]),(.arr 1 (List.map Zd s10.2.1)),(.arr 2 (List.map Zgq s10.2.2.1)),(.arr 1 (List.map Zd s10.2.2.2))]=some ((ZfT t0 t1 t2 t3 a b d s3 x4 r8) r):=by
 refine Za7 (ZfT t0 t1 t2 t3 a b d s3 x4 r8) ?_
 intro s10 rcl ih
 show ZD _ _ (lpW _ _ _ _ _ _ _)
 unfold Zi3
 rw[Za9]
 conv=>rhs;whnf
 refine Zc rfl ?_ ?_<;>conv=>rhs;whnf
 ·refine Zm rfl rfl fun x11 hx11=>?_;conv=>rhs;whnf
  refine Zc rfl ?_ ?_<;>conv=>rhs;whnf
  ·refine Ze _ Znw fun x12 hx12=>?_;conv=>rhs;whnf
   exact Zf (ih _)
  ·exact Zf (ih _)
 ·exact Zb rfl
def ZfR (t0:Bool) (t1:Bool) (t2:Bool) (t3:Bool) (a:ZB) (b:List Int) (d:(List (List Int))):(Int×(List Int)×(List Zce)×(List Int))→Ex×List V×Zn
  | r=>(.exit 0,[(.d (Zd r.1)),(.ptr 0 0)],[(.cells [(.d (zL t2 b)),(.sl 1 1),(.sl 2 2),(.sl 3 1)]),(.arr 1 (List.map Zd r.2.1)),(.arr 2 (List.map Zgq r.2.2.1)),(.arr 1 (List.map Zd r.2.2.2))])
theorem Zit {t0 t1:Bool}{t2 t3:Bool}{a:ZB}{b:List Int}{d:(List (List Int))}:∀(s3:Int×Int×(List Int)×(List Zce)×(List Int)) (r:(Int×(List Int)×(List Zce)×(List Int))),lp (Zi0 a b d) s3=some r→lpW ctx 0 [4,5,13,15,47,48,49] [13,15] Zzj [(.d (D.fn 69 [])),(.ptr 0 0),(.d (Zd s3.1)),(.ptr 1 0),(.d (D.list t3 (List.map (ZkY true) d))),(.d (Zd (d.length:Int))),(.d (Zd s3.2.1))] [(.cells [(.d (zL t0 a.work)),(.d (D.list t1 (List.map ZQ a.edges)))]),(.cells [(.d (zL t2 b)),(.sl 2 1),(.sl 3 2),(.sl 4 1)]),(.arr 1 (List.map Zd s3.2.2.1)),(.arr 2 (List.map Zgq s3.2.2.2.1)),(.arr 1 (List.map Zd s3.2.2.2.2))]=some ((ZfR t0 t1 t2 t3 a b d) r):=by
 refine Za7 (ZfR t0 t1 t2 t3 a b d) ?_
 intro s3 rcl ih
 show ZD _ _ (lpW _ _ _ _ _ _ _)
 unfold Zi0
 rw[Za9]
 conv=>rhs;whnf
 refine Zc rfl ?_ ?_<;>conv=>rhs;whnf
 ·refine Zm rfl rfl fun x4 hx4=>?_;conv=>rhs;whnf
  refine Zl (ZE _ _) ?_;conv=>rhs;whnf
  refine Ze _ (Zii _) fun r8 hr8=>?_
  clear hr8
  rcases r8 with r8 | r8
  ·conv=>rhs;whnf
   exact Zb rfl
  ·conv=>rhs;whnf
   refine Ze _ Zqm fun x9 hx9=>?_;conv=>rhs;whnf
   refine Zl (ZE _ _) ?_;conv=>rhs;whnf
   refine Ze _ (Zih _) fun r13 hr13=>?_;conv=>rhs;whnf
   exact Zf (ih _)
 ·exact Zb rfl
theorem ZjA {t0 t1:Bool}{t2 t3:Bool}{a:ZB}{b:List Int}{c:Int}{d:(List (List Int))}:∀r,(ZjB a b c d)=some r→evW ctx 68 [(.d (D.agg [(zL t0 a.work),(D.list t1 (List.map ZQ a.edges))])),(.d (zL t2 b)),(.d (Zd c)),(.d (D.list t3 (List.map (ZkY true) d))),(.d (D.fn 69 []))] []=some ((ZgB t0 t1 t2 t3 a b c d) r):=by
 show ZD _ (fun r rhs=>rhs=some ((ZgB t0 t1 t2 t3 a b c d) r)) _
 unfold ZjB
 rw[ZcR ctx 68 ZCF _ _ rfl rfl]
 conv=>rhs;whnf
 refine Zk _ ZpM rfl fun x0 hx0=>?_;conv=>rhs;whnf
 refine Zc rfl ?_ ?_<;>conv=>rhs;whnf
 ·refine Zc rfl ?_ ?_<;>conv=>rhs;whnf
  ·exact Zb rfl
  ·refine Zl (ZE _ _) ?_;conv=>rhs;whnf
   refine Zc rfl ?_ ?_<;>conv=>rhs;whnf
   ·exact Zb rfl
   ·refine Zk _ Zeq rfl fun x1 hx1=>?_;conv=>rhs;whnf
    refine Zc rfl ?_ ?_<;>conv=>rhs;whnf
    ·exact Zb rfl
    ·refine Ze _ ZpU fun x2 hx2=>?_;conv=>rhs;whnf
     refine Zl (ZE _ _) ?_;conv=>rhs;whnf
     refine Ze _ (Zit _) fun r14 hr14=>?_;conv=>rhs;whnf
     exact Zb rfl
 ·refine Zc rfl ?_ ?_<;>conv=>rhs;whnf
  ·exact Zb rfl
  ·exact Zb rfl
def Zma (r:Int):D:=(Zd r)
theorem Zpw {t0 t1:Bool}{t2 t3:Bool}{a:ZB}{b:List Int}{c:Int}{d:(List (List Int))}:∀r,(Zhq a b c d)=some r→evD ctx 31 [(.d (D.agg [(zL t0 a.work),(D.list t1 (List.map ZQ a.edges))])),(.d (zL t2 b)),(.d (Zd c)),(.d (D.list t3 (List.map (ZkY true) d)))]=some (Zma r):=by
 show ZD _ (fun r rhs=>rhs=some (Zma r)) _
 unfold Zhq
 rw[ZaF ctx 31 ZC2 _ rfl rfl]
 conv=>rhs;whnf
 refine Ze _ ZjA fun x0 hx0=>?_
 clear hx0
 rcases x0 with x0 | x0
 ·conv=>rhs;whnf
  exact Zb rfl
 ·conv=>rhs;whnf
  exact Zb rfl
def Zgz (t0:Bool) (a:List Int):Unit→V×Zn
  | r=>((.sl 0 1),[(.arr 1 (List.map Zd a))])
theorem Zay {t0:Bool}{a:List Int}:∀r,(Z9 a)=some r→evW ctx 47 [(.d (zL t0 a))] []=some ((Zgz t0 a) r):=by
 show ZD _ (fun r rhs=>rhs=some ((Zgz t0 a) r)) _
 unfold Z9
 rw[ZcR ctx 47 ZCG _ _ rfl rfl]
 conv=>rhs;whnf
 refine ZbQ (ZgR (f:=Zd) (fun _=>⟨rfl,rfl⟩) a 0) ?_;conv=>rhs;whnf
 refine Zc (ZgQ Zd a) ?_ ?_
 ·conv=>rhs;whnf
  refine Zl (rfl:_=List.map Zd a) ?_;conv=>rhs;whnf
  exact Zb rfl
 ·exact ZI
def Zpi (t0:Bool) (t1:Bool) (t2:Bool) (a:ZB) (b:List Int) (c:Int):(Int⊕(List Int))→V×Zn
  | (.inl r)=>((.tup [(.agg [(.nilsl 1),(.nilsl 1)]),(.d (Zd r))]),[])
  | (.inr r)=>((.tup [(.agg [(.sl 0 1),(.sl 1 1)]),(.d (Zd 0))]),[(.arr 1 (List.map Zd r)),(.arr 1 (List.map Zd b))])
def ZlW (b:List Int) (c:Int):(List Int)→Ex×List V×Zn
  | r=>(.exit 0,[(.ptr 0 0),(.ptr 1 0)],[(.cells [(.sl 2 1),(.sl 3 1)]),(.cells [(.sl 4 1),(.sl 5 1)]),(.arr 1 []),(.arr 1 []),(.arr 1 (List.map Zd r)),(.arr 1 (List.map Zd b))])
theorem ZpD {b:List Int}{c:Int}:∀(s2:Int×(List Int)) (r:List Int),lp (Zfi c) s2=some r→lpW ctx 0 [6,9,21,22] [6,9] ZAW [(.ptr 0 0),(.ptr 1 0),(.d (Zd c)),(.d (Zd s2.1))] [(.cells [(.sl 2 1),(.sl 3 1)]),(.cells [(.sl 4 1),(.sl 5 1)]),(.arr 1 []),(.arr 1 []),(.arr 1 (List.map Zd s2.2)),(.arr 1 (List.map Zd b))]=some ((ZlW b c) r):=by
 refine Za7 (ZlW b c) ?_
 intro s2 rcl ih
 show ZD _ _ (lpW _ _ _ _ _ _ _)
 unfold Zfi
 rw[Za9]
 conv=>rhs;whnf
 refine Zc rfl ?_ ?_<;>conv=>rhs;whnf
 ·refine ZbQ rfl ?_;conv=>rhs;whnf
  refine Zc (ZgY Zd s2.2 1) ?_ ?_
  ·conv=>rhs;whnf
   refine Zl (ZgV Zd s2.2 [(-1)]) ?_;conv=>rhs;whnf
   exact Zf (ih _)
  ·exact ZI
 ·exact Zb rfl
theorem Zsb {t0 t1 t2:Bool}{a:ZB}{b:List Int}{c:Int}:∀r,(Zj4 a b c)=some r→evW ctx 51 [(.d (D.agg [(zL t0 a.work),(D.list t1 (List.map ZQ a.edges))])),(.d (zL t2 b)),(.d (Zd c))] []=some ((Zpi t0 t1 t2 a b c) r):=by
 show ZD _ (fun r rhs=>rhs=some ((Zpi t0 t1 t2 a b c) r)) _
 unfold Zj4
 rw[ZcR ctx 51 ZDf _ _ rfl rfl]
 conv=>rhs;whnf
 refine Zk _ Zpw rfl fun x0 hx0=>?_;conv=>rhs;whnf
 refine Zc rfl ?_ ?_<;>conv=>rhs;whnf
 ·exact Zb rfl
 ·refine Ze _ Zay fun x1 hx1=>?_;conv=>rhs;whnf
  refine Ze _ (ZpD _) fun r3 hr3=>?_;conv=>rhs;whnf
  exact Zb rfl
def ZnT (r:Int):D:=(Zd r)
theorem ZmB {a:Int}:∀r,(ZhD a)=some r→evD ctx 156 [(.d (Zd a))]=some (ZnT r):=by
 show ZD _ (fun r rhs=>rhs=some (ZnT r)) _
 unfold ZhD
 rw[ZaF ctx 156 ZAv _ rfl rfl]
 conv=>rhs;whnf
 refine Zc rfl ?_ ?_<;>conv=>rhs;whnf
 ·exact Zb rfl
 ·refine Zc rfl ?_ ?_<;>conv=>rhs;whnf
  ·exact Zb rfl
  ·exact Zb rfl
def Zg3 (r:Int):D:=(Zd r)
theorem ZjI {a:Int}:∀r,(Zc2 a)=some r→evD ctx 184 [(.d (D.int .u64 a))]=some (Zg3 r):=by
 show ZD _ (fun r rhs=>rhs=some (Zg3 r)) _
 unfold Zc2
 rw[ZaF ctx 184 Zym _ rfl rfl]
 conv=>rhs;whnf
 refine Zaw rfl ?_;conv=>rhs;whnf
 refine Zaw rfl ?_;conv=>rhs;whnf
 refine Zaw rfl ?_;conv=>rhs;whnf
 refine Zaw rfl ?_;conv=>rhs;whnf
 refine Zaw rfl ?_;conv=>rhs;whnf
 refine Zaw rfl ?_;conv=>rhs;whnf
 exact Zb rfl
def ZhG (r:Int):D:=(Zd r)
theorem ZkD {a:Int}:∀r,(Zdm a)=some r→evD ctx 157 [(.d (D.int .u64 a))]=some (ZhG r):=by
 show ZD _ (fun r rhs=>rhs=some (ZhG r)) _
 unfold Zdm
 rw[ZaF ctx 157 ZAO _ rfl rfl]
 conv=>rhs;whnf
 refine Zk _ ZjI rfl fun x0 hx0=>?_;conv=>rhs;whnf
 exact Zb rfl
theorem ZEF (n:Int):0≤u64.wrap n∧u64.wrap n<18446744073709551616:=by
  have:u64.wrap n=n % 18446744073709551616:=by
    show(if (false&&decide (n % 18446744073709551616 ≥ 9223372036854775808))=true then n % 18446744073709551616-18446744073709551616 else n % 18446744073709551616)=_
    simp
  rw[this]
  omega
theorem ZF7 (n:Int):∃j:Nat,j<64∧(u64.wrap n).fdiv (2 ^ (min (Int.toNat 58) u64.bits))=(j:Int):=by
  obtain⟨h1,h2⟩:=ZEF n
  have e:(2:Int) ^ (min (Int.toNat 58) u64.bits)=288230376151711744:=by decide
  rw[e,Int.fdiv_eq_ediv_of_nonneg _ (by omega)]
  refine⟨((u64.wrap n) / 288230376151711744).toNat,?_,?_⟩<;>omega
theorem ZGs:∀j:Nat,j<64→Zd2 [] 1 false (.d (.rptr (ZzQ.drop (j*1))))=some (.d (.int .u8 (ZtW.getD j 0))):=by
  have key:((List.range 64).all fun j=>match Zd2 [] 1 false (.d (.rptr (ZzQ.drop (j*1)))) with | some (.d (.int .u8 z))=>z==ZtW.getD j 0 | _=>false)=true:=by rfl
  intro j hj
  have:=List.all_eq_true.1 key j (by simpa using hj)
  split at this
  · rename_i z hz
    rw[hz,eq_of_beq this]
  · cases this
def ZiP (r:Int):D:=Zd r
theorem Zig (a:Int):∀r,Zd7 a=some r→evD ctx 186 [.d (.int .u64 a)]=some (ZiP r):=by
  intro r hr
  unfold Zd7 at hr
  have hr:=Option.some.inj hr
  subst hr
  rw[ZaF ctx 186 Zy4 _ rfl rfl]
  by_cases h:(a==0)=true
  · conv=>lhs;whnf
    rw[h,ZBI]
    rfl
  · replace h:(a==0)=false:=by simpa using h
    obtain⟨j,hj,e⟩:=ZF7 (u64.wrap ((Zg a &&& Zg (u64.wrap (0-a))).toNat:Int)*285870213051353865)
    conv=>lhs;whnf
    rw[h,ZB6]
    conv=>lhs;whnf
    refine(ZF9 (by rfl)).trans ?_
    conv=>lhs;whnf
    rw[e]
    refine(ZEk (by simp;omega)).trans ?_
    conv=>lhs;whnf
    erw [ZGs j hj]
    rfl
def Zgp (r:Int):D:=(Zd r)
theorem Zi7 {a:Int}:∀r,(Zdl a)=some r→evD ctx 158 [(.d (D.int .u64 a))]=some (Zgp r):=by
 show ZD _ (fun r rhs=>rhs=some (Zgp r)) _
 unfold Zdl
 rw[ZaF ctx 158 Zzq _ rfl rfl]
 conv=>rhs;whnf
 refine Zk _ (Zig _) rfl fun x0 hx0=>?_;conv=>rhs;whnf
 exact Zb rfl
def Zp9 (r:(Int×Bool)):D:=(D.tup [(Zd r.1),(D.bool r.2)])
theorem ZoZ {a:Int}:∀r,(Zik a)=some r→evD ctx 103 [(.d (Zd a))]=some (Zp9 r):=by
 show ZD _ (fun r rhs=>rhs=some (Zp9 r)) _
 unfold Zik
 rw[ZaF ctx 103 ZzF _ rfl rfl]
 conv=>rhs;whnf
 refine Zk _ ZmB rfl fun x0 hx0=>?_;conv=>rhs;whnf
 refine Zc rfl ?_ ?_<;>conv=>rhs;whnf
 ·exact Zb rfl
 ·refine Zk _ ZkD rfl fun x1 hx1=>?_;conv=>rhs;whnf
  refine Zc rfl ?_ ?_<;>conv=>rhs;whnf
  ·exact Zb rfl
  ·refine Zk _ Zi7 rfl fun x2 hx2=>?_;conv=>rhs;whnf
   exact Zb rfl
def ZnS (r:(Zi×Int)):D:=(D.tup [(D.agg [(zL true r.1.ring),(Zd r.1.top),(Zd r.1.bottom)]),(Zd r.2)])
theorem Zr2 {a:Int}:∀r,(ZiT a)=some r→evD ctx 52 [(.d (Zd a))]=some (ZnS r):=by
 show ZD _ (fun r rhs=>rhs=some (ZnS r)) _
 unfold ZiT
 rw[ZaF ctx 52 ZDQ _ rfl rfl]
 conv=>rhs;whnf
 refine Zk _ ZoZ rfl fun x0 hx0=>?_;conv=>rhs;whnf
 refine Zc rfl ?_ ?_<;>conv=>rhs;whnf
 ·refine Zc rfl ?_ ?_<;>conv=>rhs;whnf
  ·exact Zb rfl
  ·refine Zc rfl ?_ ?_
   ·conv=>rhs;whnf
    refine Zl (ZlA Zd (0:Int) a) ?_;conv=>rhs;whnf
    exact Zb rfl
   ·exact ZI
 ·exact Zb rfl
def Zlj (r:Bool):D:=(D.bool r)
theorem ZoE {a:Int}:∀r,(ZdC a)=some r→evD ctx 166 [(.d (Zd a))]=some (Zlj r):=by
 show ZD _ (fun r rhs=>rhs=some (Zlj r)) _
 unfold ZdC
 rw[ZaF ctx 166 Zy2 _ rfl rfl]
 conv=>rhs;whnf
 refine Zc rfl ?_ ?_<;>conv=>rhs;whnf
 ·exact Zb rfl
 ·refine Zc rfl ?_ ?_<;>conv=>rhs;whnf
  ·exact Zb rfl
  ·exact Zb rfl
def Zc3 (r:Int):D:=(Zd r)
def ZcA (t0:Bool) (a:List Int):(Int⊕Unit)→Ex×List V×Zn
  | (.inl r)=>(.ret,[(.d (Zd r))],[])
  | (.inr r)=>(.exit 0,[.bad],[])
theorem ZeR {t0:Bool}{a:List Int}:∀(s0:Int) (r:(Int⊕Unit)),lp (ZC a (fun z0=>ZdC z0)) s0=some r→lpW ctx 0 [0,1,7,8] [4] Zrn [(.d (zL t0 a)),(.d (D.fn 166 [])),(.d (Zd (a.length:Int))),(.d (Zd s0))] []=some ((ZcA t0 a) r):=by
 refine Za7 (ZcA t0 a) ?_
 intro s0 rcl ih
 show ZD _ _ (lpW _ _ _ _ _ _ _)
 unfold ZC
 rw[Za9]
 conv=>rhs;whnf
 refine Zc rfl ?_ ?_<;>conv=>rhs;whnf
 ·refine Zm rfl rfl fun x1 hx1=>?_;conv=>rhs;whnf
  refine Zk _ ZoE rfl fun x2 hx2=>?_;conv=>rhs;whnf
  refine Zc rfl ?_ ?_<;>conv=>rhs;whnf
  ·exact Zb rfl
  ·exact Zf (ih _)
 ·exact Zb rfl
theorem Zfv {t0:Bool}{a:List Int}:∀r,(ZO a (fun z0=>ZdC z0))=some r→evD ctx 94 [(.d (zL t0 a)),(.d (D.fn 166 []))]=some (Zc3 r):=by
 show ZD _ (fun r rhs=>rhs=some (Zc3 r)) _
 unfold ZO
 rw[ZaF ctx 94 Zx1 _ rfl rfl]
 conv=>rhs;whnf
 refine Zl (ZE _ _) ?_;conv=>rhs;whnf
 refine Ze _ (ZeR _) fun r3 hr3=>?_
 clear hr3
 rcases r3 with r3 | r3
 ·conv=>rhs;whnf
  exact Zb rfl
 ·conv=>rhs;whnf
  exact Zb rfl
def ZcB (r:Bool):D:=(D.bool r)
theorem ZeQ {t0:Bool}{a:List Int}:∀r,(ZV a (fun z0=>ZdC z0))=some r→evD ctx 44 [(.d (zL t0 a)),(.d (D.fn 166 []))]=some (ZcB r):=by
 show ZD _ (fun r rhs=>rhs=some (ZcB r)) _
 unfold ZV
 rw[ZaF ctx 44 ZAm _ rfl rfl]
 conv=>rhs;whnf
 refine Zk _ Zfv rfl fun x0 hx0=>?_;conv=>rhs;whnf
 refine Zc rfl ?_ ?_<;>conv=>rhs;whnf
 ·exact Zb rfl
 ·exact Zb rfl
def ZnL (r:Bool):D:=(D.bool r)
theorem ZgH {t0 t1:Bool}{a:Z6}{b:Int}:∀r,(Ze4 a b)=some r→evD ctx 145 [(.d (D.agg [(zL t0 a.on),(zL t1 a.left)])),(.d (Zd b))]=some (ZnL r):=by
 show ZD _ (fun r rhs=>rhs=some (ZnL r)) _
 unfold Ze4
 rw[ZaF ctx 145 Zy6 _ rfl rfl]
 conv=>rhs;whnf
 refine Zm rfl rfl fun x0 hx0=>?_;conv=>rhs;whnf
 refine Zc rfl ?_ ?_<;>conv=>rhs;whnf
 ·exact Zb rfl
 ·exact Zb rfl
def Zl2 (r:Bool):D:=(D.bool r)
theorem ZpA {t0 t1:Bool}{a:ZZ}{b0:Int}{c0:List Int}{c1:List Int}:∀r,(Zfm a b0 c0 c1)=some r→evD ctx 187 [(.d (D.agg [(Zd a.src),(Zd a.dst)])),(.d (D.rptr [(Zd b0)])),(.d (D.rptr [(zL t0 c0),(zL t1 c1)]))]=some (Zl2 r):=by
 show ZD _ (fun r rhs=>rhs=some (Zl2 r)) _
 unfold Zfm
 rw[ZaF ctx 187 Zyn _ rfl rfl]
 conv=>rhs;whnf
 refine Zc rfl ?_ ?_<;>conv=>rhs;whnf
 ·refine Zk _ ZgH rfl fun x0 hx0=>?_;conv=>rhs;whnf
  refine Zc rfl ?_ ?_<;>conv=>rhs;whnf
  ·exact Zb rfl
  ·exact Zb rfl
 ·exact Zb rfl
def ZcQ (r:Int):D:=(Zd r)
def Zcx (t0:Bool) (t1:Bool) (t2:Bool) (a:List ZZ) (b0:Int) (b1:List Int) (b2:List Int):(Int⊕Unit)→Ex×List V×Zn
  | (.inl r)=>(.ret,[(.d (Zd r))],[])
  | (.inr r)=>(.exit 0,[.bad],[])
theorem ZeG {t0 t1 t2:Bool}{a:List ZZ}{b0:Int}{b1:List Int}{b2:List Int}:∀(s0:Int) (r:(Int⊕Unit)),lp (ZaA a (fun z0=>Zfm z0 b0 b1 b2)) s0=some r→lpW ctx 0 [0,1,7,8] [4] ZtC [(.d (D.list t0 (List.map ZQ a))),(.d (D.fn 187 [(D.rptr [(Zd b0)]),(D.rptr [(zL t1 b1),(zL t2 b2)])])),(.d (Zd (a.length:Int))),(.d (Zd s0))] []=some ((Zcx t0 t1 t2 a b0 b1 b2) r):=by
 refine Za7 (Zcx t0 t1 t2 a b0 b1 b2) ?_
 intro s0 rcl ih
 show ZD _ _ (lpW _ _ _ _ _ _ _)
 unfold ZaA
 rw[Za9]
 conv=>rhs;whnf
 refine Zc rfl ?_ ?_<;>conv=>rhs;whnf
 ·refine Zm rfl rfl fun x1 hx1=>?_;conv=>rhs;whnf
  refine Zk _ ZpA rfl fun x2 hx2=>?_;conv=>rhs;whnf
  refine Zc rfl ?_ ?_<;>conv=>rhs;whnf
  ·exact Zb rfl
  ·exact Zf (ih _)
 ·exact Zb rfl
theorem Zfk {t0 t1 t2:Bool}{a:List ZZ}{b0:Int}{b1:List Int}{b2:List Int}:∀r,(Zbo a (fun z0=>Zfm z0 b0 b1 b2))=some r→evD ctx 171 [(.d (D.list t0 (List.map ZQ a))),(.d (D.fn 187 [(D.rptr [(Zd b0)]),(D.rptr [(zL t1 b1),(zL t2 b2)])]))]=some (ZcQ r):=by
 show ZD _ (fun r rhs=>rhs=some (ZcQ r)) _
 unfold Zbo
 rw[ZaF ctx 171 ZwC _ rfl rfl]
 conv=>rhs;whnf
 refine Zl (ZE _ _) ?_;conv=>rhs;whnf
 refine Ze _ (ZeG _) fun r3 hr3=>?_
 clear hr3
 rcases r3 with r3 | r3
 ·conv=>rhs;whnf
  exact Zb rfl
 ·conv=>rhs;whnf
  exact Zb rfl
def Zcw (r:Bool):D:=(D.bool r)
theorem ZeH {t0 t1 t2:Bool}{a:List ZZ}{b0:Int}{b1:List Int}{b2:List Int}:∀r,(Zai a (fun z0=>Zfm z0 b0 b1 b2))=some r→evD ctx 124 [(.d (D.list t0 (List.map ZQ a))),(.d (D.fn 187 [(D.rptr [(Zd b0)]),(D.rptr [(zL t1 b1),(zL t2 b2)])]))]=some (Zcw r):=by
 show ZD _ (fun r rhs=>rhs=some (Zcw r)) _
 unfold Zai
 rw[ZaF ctx 124 Zxk _ rfl rfl]
 conv=>rhs;whnf
 refine Zk _ Zfk rfl fun x0 hx0=>?_;conv=>rhs;whnf
 refine Zc rfl ?_ ?_<;>conv=>rhs;whnf
 ·exact Zb rfl
 ·exact Zb rfl
def ZnK (r:Bool):D:=(D.bool r)
theorem ZjH {t0 t1:Bool}{t2 t3:Bool}{a:ZB}{b:Z6}{c:Int}:∀r,(ZgD a b c)=some r→evD ctx 159 [(.d (D.agg [(zL t0 a.work),(D.list t1 (List.map ZQ a.edges))])),(.d (D.agg [(zL t2 b.on),(zL t3 b.left)])),(.d (Zd c))]=some (ZnK r):=by
 show ZD _ (fun r rhs=>rhs=some (ZnK r)) _
 unfold ZgD
 rw[ZaF ctx 159 ZA2 _ rfl rfl]
 conv=>rhs;whnf
 refine Zk _ ZeH rfl fun x0 hx0=>?_;conv=>rhs;whnf
 refine Zc rfl ?_ ?_<;>conv=>rhs;whnf
 ·exact Zb rfl
 ·exact Zb rfl
def ZmA (r:Bool):D:=(D.bool r)
def Zkp (t0:Bool) (t1:Bool) (t2:Bool) (t3:Bool) (a:ZB) (b:Z6):(Unit⊕Unit)→Ex×List V×Zn
  | (.inl r)=>(.ret,[(.ptr 0 0),(.ptr 1 0),(.d (D.bool false))],[(.cells [(.d (zL t0 a.work)),(.d (D.list t1 (List.map ZQ a.edges)))]),(.cells [(.d (zL t2 b.on)),(.d (zL t3 b.left))])])
  | (.inr r)=>(.exit 0,[(.ptr 0 0),(.ptr 1 0),.bad],[(.cells [(.d (zL t0 a.work)),(.d (D.list t1 (List.map ZQ a.edges)))]),(.cells [(.d (zL t2 b.on)),(.d (zL t3 b.left))])])
theorem Zom {t0 t1:Bool}{t2 t3:Bool}{a:ZB}{b:Z6}:∀(s1:Int) (r:(Unit⊕Unit)),lp (ZeV a b) s1=some r→lpW ctx 0 [2,3,35,36,37] [2,3,4] ZwG [(.ptr 0 0),(.ptr 1 0),(.d (zL t2 b.on)),(.d (Zd (b.on.length:Int))),(.d (Zd s1))] [(.cells [(.d (zL t0 a.work)),(.d (D.list t1 (List.map ZQ a.edges)))]),(.cells [(.d (zL t2 b.on)),(.d (zL t3 b.left))])]=some ((Zkp t0 t1 t2 t3 a b) r):=by
 refine Za7 (Zkp t0 t1 t2 t3 a b) ?_
 intro s1 rcl ih
 show ZD _ _ (lpW _ _ _ _ _ _ _)
 unfold ZeV
 rw[Za9]
 conv=>rhs;whnf
 refine Zc rfl ?_ ?_<;>conv=>rhs;whnf
 ·refine Zm rfl rfl fun x2 hx2=>?_;conv=>rhs;whnf
  refine Zc rfl ?_ ?_<;>conv=>rhs;whnf
  ·exact Zf (ih _)
  ·refine Zc rfl ?_ ?_<;>conv=>rhs;whnf
   ·exact Zb rfl
   ·refine Zl (ZE _ _) ?_;conv=>rhs;whnf
    refine Zc rfl ?_ ?_<;>conv=>rhs;whnf
    ·exact Zb rfl
    ·refine Zk _ ZgH rfl fun x3 hx3=>?_;conv=>rhs;whnf
     refine Zc rfl ?_ ?_<;>conv=>rhs;whnf
     ·exact Zb rfl
     ·refine Zc rfl ?_ ?_
      ·conv=>rhs;whnf
       refine Zc (ZwK Zd b.on s1.toNat) ?_ ?_
       ·conv=>rhs;whnf
        refine ZbQ rfl ?_;conv=>rhs;whnf
        refine Zl (ZtO Zd b.on s1.toNat) ?_;conv=>rhs;whnf
        refine Zk _ Zbn rfl fun x4 hx4=>?_;conv=>rhs;whnf
        refine Zc rfl ?_ ?_<;>conv=>rhs;whnf
        ·exact Zb rfl
        ·refine Zk _ ZjH rfl fun x5 hx5=>?_;conv=>rhs;whnf
         refine Zc rfl ?_ ?_<;>conv=>rhs;whnf
         ·exact Zf (ih _)
         ·exact Zb rfl
       ·exact ZI
      ·exact ZI
 ·exact Zb rfl
def Zku (t0:Bool) (t1:Bool) (t2:Bool) (t3:Bool) (a:ZB) (b:Z6):(Unit⊕Unit)→Ex×List V×Zn
  | (.inl r)=>(.ret,[(.d (D.bool false))],[])
  | (.inr r)=>(.exit 2,[.bad],[])
theorem Zoc {t0 t1:Bool}{t2 t3:Bool}{a:ZB}{b:Z6}:∀(s7:Int) (r:(Unit⊕Unit)),lp (Ze0 a b) s7=some r→lpW ctx 0 [2,3,76,77] [4] Zwg [(.ptr 0 0),(.ptr 1 0),(.d (Zd (b.left.length:Int))),(.d (Zd s7))] [(.cells [(.d (zL t0 a.work)),(.d (D.list t1 (List.map ZQ a.edges)))]),(.cells [(.d (zL t2 b.on)),(.d (zL t3 b.left))])]=some ((Zku t0 t1 t2 t3 a b) r):=by
 refine Za7 (Zku t0 t1 t2 t3 a b) ?_
 intro s7 rcl ih
 show ZD _ _ (lpW _ _ _ _ _ _ _)
 unfold Ze0
 rw[Za9]
 conv=>rhs;whnf
 refine Zc rfl ?_ ?_<;>conv=>rhs;whnf
 ·refine Zk _ ZgH rfl fun x8 hx8=>?_;conv=>rhs;whnf
  refine Zc rfl ?_ ?_<;>conv=>rhs;whnf
  ·refine Zk _ ZjH rfl fun x9 hx9=>?_;conv=>rhs;whnf
   refine Zc rfl ?_ ?_<;>conv=>rhs;whnf
   ·exact Zf (ih _)
   ·exact Zb rfl
  ·exact Zf (ih _)
 ·exact Zb rfl
theorem Zqj {t0 t1:Bool}{t2 t3:Bool}{a:ZB}{b:Z6}:∀r,(ZhW a b)=some r→evD ctx 114 [(.d (D.agg [(zL t0 a.work),(D.list t1 (List.map ZQ a.edges))])),(.d (D.agg [(zL t2 b.on),(zL t3 b.left)]))]=some (ZmA r):=by
 show ZD _ (fun r rhs=>rhs=some (ZmA r)) _
 unfold ZhW
 rw[ZaF ctx 114 Zzs _ rfl rfl]
 conv=>rhs;whnf
 refine Zl (ZE _ _) ?_;conv=>rhs;whnf
 refine Zc rfl ?_ ?_<;>conv=>rhs;whnf
 ·exact Zb rfl
 ·refine Zl (ZE _ _) ?_;conv=>rhs;whnf
  refine Zc rfl ?_ ?_<;>conv=>rhs;whnf
  ·exact Zb rfl
  ·refine Zl (ZE _ _) ?_;conv=>rhs;whnf
   refine Zl (ZE _ _) ?_;conv=>rhs;whnf
   refine Zc rfl ?_ ?_<;>conv=>rhs;whnf
   ·exact Zb rfl
   ·refine Zk _ ZeQ rfl fun x0 hx0=>?_;conv=>rhs;whnf
    refine Zc rfl ?_ ?_<;>conv=>rhs;whnf
    ·exact Zb rfl
    ·refine Zl (ZE _ _) ?_;conv=>rhs;whnf
     refine Ze _ (Zom _) fun r6 hr6=>?_
     clear hr6
     rcases r6 with r6 | r6
     ·conv=>rhs;whnf
      exact Zb rfl
     ·conv=>rhs;whnf
      refine Zl (ZE _ _) ?_;conv=>rhs;whnf
      refine Ze _ (Zoc _) fun r10 hr10=>?_
      clear hr10
      rcases r10 with r10 | r10
      ·conv=>rhs;whnf
       exact Zb rfl
      ·conv=>rhs;whnf
       exact Zb rfl
def Zmm (r:Int):D:=(Zd r)
theorem Zi2 {t0 t1:Bool}{t2 t3:Bool}{a:ZB}{b:Z6}:∀r,(Zf1 a b)=some r→evD ctx 65 [(.d (D.agg [(zL t0 a.work),(D.list t1 (List.map ZQ a.edges))])),(.d (D.agg [(zL t2 b.on),(zL t3 b.left)]))]=some (Zmm r):=by
 show ZD _ (fun r rhs=>rhs=some (Zmm r)) _
 unfold Zf1
 rw[ZaF ctx 65 ZD1 _ rfl rfl]
 conv=>rhs;whnf
 refine Zk _ ZjX rfl fun x0 hx0=>?_;conv=>rhs;whnf
 refine Zc rfl ?_ ?_<;>conv=>rhs;whnf
 ·refine Zk _ Zqj rfl fun x1 hx1=>?_;conv=>rhs;whnf
  refine Zc rfl ?_ ?_<;>conv=>rhs;whnf
  ·exact Zb rfl
  ·exact Zb rfl
 ·exact Zb rfl
def Zmz (r:List Int):D:=(zL true r)
def Zkw (t0:Bool) (t1:Bool) (t2:Bool) (t3:Bool) (a:ZB) (b:Z6):(List Int)→Ex×List V×Zn
  | r=>(.exit 0,[(.sl 0 1)],[(.arr 1 (List.map Zd r))])
theorem Zok {t0 t1:Bool}{t2 t3:Bool}{a:ZB}{b:Z6}:∀(s0:Int×(List Int)) (r:List Int),lp (ZeS a b) s0=some r→lpW ctx 0 [2,3,5,9,10] [5] Zxh [(.ptr 0 0),(.ptr 1 0),(.sl 2 1),(.d (Zd (b.left.length:Int))),(.d (Zd s0.1))] [(.cells [(.d (zL t0 a.work)),(.d (D.list t1 (List.map ZQ a.edges)))]),(.cells [(.d (zL t2 b.on)),(.d (zL t3 b.left))]),(.arr 1 (List.map Zd s0.2))]=some ((Zkw t0 t1 t2 t3 a b) r):=by
 refine Za7 (Zkw t0 t1 t2 t3 a b) ?_
 intro s0 rcl ih
 show ZD _ _ (lpW _ _ _ _ _ _ _)
 unfold ZeS
 rw[Za9]
 conv=>rhs;whnf
 refine Zc rfl ?_ ?_<;>conv=>rhs;whnf
 ·refine Zk _ ZgH rfl fun x1 hx1=>?_;conv=>rhs;whnf
  refine Zc rfl ?_ ?_<;>conv=>rhs;whnf
  ·exact Zf (ih _)
  ·refine Zk _ Zbn rfl fun x2 hx2=>?_;conv=>rhs;whnf
   refine Zc rfl ?_ ?_<;>conv=>rhs;whnf
   ·exact Zf (ih _)
   ·refine Zk _ ZjH rfl fun x3 hx3=>?_;conv=>rhs;whnf
    refine Zc rfl ?_ ?_<;>conv=>rhs;whnf
    ·refine ZbQ rfl ?_;conv=>rhs;whnf
     refine Zc (ZgY Zd s0.2 1) ?_ ?_
     ·conv=>rhs;whnf
      refine Zl (ZgV Zd s0.2 [s0.1]) ?_;conv=>rhs;whnf
      exact Zf (ih _)
     ·exact ZI
    ·exact Zf (ih _)
 ·exact Zb rfl
theorem Zqk {t0 t1:Bool}{t2 t3:Bool}{a:ZB}{b:Z6}:∀r,(Zjx a b)=some r→evD ctx 104 [(.d (D.agg [(zL t0 a.work),(D.list t1 (List.map ZQ a.edges))])),(.d (D.agg [(zL t2 b.on),(zL t3 b.left)]))]=some (Zmz r):=by
 show ZD _ (fun r rhs=>rhs=some (Zmz r)) _
 unfold Zjx
 rw[ZaF ctx 104 Zzd _ rfl rfl]
 conv=>rhs;whnf
 refine Zl (ZE _ _) ?_;conv=>rhs;whnf
 refine Ze _ (Zok _) fun r4 hr4=>?_;conv=>rhs;whnf
 exact Zb rfl
def Zmr (r:List Int):D:=(zL true r)
theorem Zi5 {t0 t1:Bool}{t2 t3:Bool}{a:ZB}{b:Z6}:∀r,(Zfd a b)=some r→evD ctx 53 [(.d (D.agg [(zL t0 a.work),(D.list t1 (List.map ZQ a.edges))])),(.d (D.agg [(zL t2 b.on),(zL t3 b.left)]))]=some (Zmr r):=by
 show ZD _ (fun r rhs=>rhs=some (Zmr r)) _
 unfold Zfd
 rw[ZaF ctx 53 ZDY _ rfl rfl]
 conv=>rhs;whnf
 refine Zk _ Zi2 rfl fun x0 hx0=>?_;conv=>rhs;whnf
 refine Zc rfl ?_ ?_<;>conv=>rhs;whnf
 ·exact Zb rfl
 ·refine Zk _ Zqk rfl fun x1 hx1=>?_;conv=>rhs;whnf
  exact Zb rfl
def Zl1 (r:Int):D:=(Zd r)
theorem ZfM {t0:Bool}{a:Zi}:∀r,(Zdy a)=some r→evD ctx 115 [(.d (D.agg [(zL t0 a.ring),(Zd a.top),(Zd a.bottom)]))]=some (Zl1 r):=by
 show ZD _ (fun r rhs=>rhs=some (Zl1 r)) _
 unfold Zdy
 rw[ZaF ctx 115 ZAz _ rfl rfl]
 conv=>rhs;whnf
 refine Zl (ZE _ _) ?_;conv=>rhs;whnf
 refine Zk _ ZoZ rfl fun x0 hx0=>?_;conv=>rhs;whnf
 refine Zc rfl ?_ ?_<;>conv=>rhs;whnf
 ·refine Zl (ZE _ _) ?_;conv=>rhs;whnf
  refine Zc rfl ?_ ?_<;>conv=>rhs;whnf
  ·exact Zb rfl
  ·refine Zk _ ZmB rfl fun x1 hx1=>?_;conv=>rhs;whnf
   refine Zc rfl ?_ ?_<;>conv=>rhs;whnf
   ·exact Zb rfl
   ·refine Zc rfl ?_ ?_<;>conv=>rhs;whnf
    ·exact Zb rfl
    ·refine Zl (ZE _ _) ?_;conv=>rhs;whnf
     refine Zc rfl ?_ ?_<;>conv=>rhs;whnf
     ·exact Zb rfl
     ·exact Zb rfl
 ·exact Zb rfl
def ZnD (t0:Bool) (a:Zi):Unit→V×Zn
  | r=>((.agg [(.sl 0 1),(.d (Zd a.top)),(.d (Zd a.bottom))]),[(.arr 1 (List.map Zd a.ring))])
theorem ZmM {t0:Bool}{a:Zi}:∀r,(ZhE a)=some r→evW ctx 160 [(.d (D.agg [(zL t0 a.ring),(Zd a.top),(Zd a.bottom)]))] []=some ((ZnD t0 a) r):=by
 show ZD _ (fun r rhs=>rhs=some ((ZnD t0 a) r)) _
 unfold ZhE
 rw[ZcR ctx 160 ZAs _ _ rfl rfl]
 conv=>rhs;whnf
 refine Ze _ Zay fun x0 hx0=>?_;conv=>rhs;whnf
 exact Zb rfl
def Zl6 (r:Int):D:=(Zd r)
theorem Zg1 {t0:Bool}{a:Zi}{b:Int}:∀r,(Zeb a b)=some r→evD ctx 161 [(.d (D.agg [(zL t0 a.ring),(Zd a.top),(Zd a.bottom)])),(.d (Zd b))]=some (Zl6 r):=by
 show ZD _ (fun r rhs=>rhs=some (Zl6 r)) _
 unfold Zeb
 rw[ZaF ctx 161 ZyK _ rfl rfl]
 conv=>rhs;whnf
 refine Zl (ZE _ _) ?_;conv=>rhs;whnf
 refine Zc rfl ?_ ?_
 ·exact ZI
 ·conv=>rhs;whnf
  exact Zb rfl
def ZmF (r:(Zi×Int)):D:=(D.tup [(D.agg [(zL true r.1.ring),(Zd r.1.top),(Zd r.1.bottom)]),(Zd r.2)])
theorem Zqn {t0:Bool}{a:Zi}{b:Int}:∀r,(Zjv a b)=some r→evD ctx 105 [(.d (D.agg [(zL t0 a.ring),(Zd a.top),(Zd a.bottom)])),(.d (Zd b))]=some (ZmF r):=by
 show ZD _ (fun r rhs=>rhs=some (ZmF r)) _
 unfold Zjv
 rw[ZaF ctx 105 ZAj _ rfl rfl]
 conv=>rhs;whnf
 refine Zk _ ZfM rfl fun x0 hx0=>?_;conv=>rhs;whnf
 refine Zc rfl ?_ ?_<;>conv=>rhs;whnf
 ·exact Zb rfl
 ·refine Zc rfl ?_ ?_<;>conv=>rhs;whnf
  ·exact Zb rfl
  ·refine Zl (ZE _ _) ?_;conv=>rhs;whnf
   refine Zc rfl ?_ ?_<;>conv=>rhs;whnf
   ·exact Zb rfl
   ·refine Ze _ ZmM fun x1 hx1=>?_;conv=>rhs;whnf
    refine Zk _ Zg1 rfl fun x2 hx2=>?_;conv=>rhs;whnf
    refine Zm rfl rfl fun x3 hx3=>?_;conv=>rhs;whnf
    refine Zh (Zr rfl hx3) ?_;conv=>rhs;whnf
    refine Zl (Zaq Zd a.ring x2.toNat b) ?_;conv=>rhs;whnf
    exact Zb rfl
def Zjc (t0:Bool) (t1:Bool) (b:Int) (c:Int) (m0_0:List Int) (m0_1:List ZZ) (m0_2:Int) (m1_0:List Int) (m2_0:List Int) (m3_0:List Zi) (m4_0:List Zp) (m5_0:List Int):((List Zi)⊕(List Zi))→V×Zn
  | (.inl r)=>((.d (D.bool true)),[(.cells [(.sl 1 1),(.sl 2 1),(.sl 3 3),(.sl 4 6),(.sl 5 1),(.d (zL t0 m0_0)),(.d (D.list t1 (List.map ZQ m0_1))),(.d (Zd m0_2))]),(.arr 1 (List.map Zd m1_0)),(.arr 1 (List.map Zd m2_0)),(.arr 3 (List.map ZN r)),(.arr 6 (List.map ZR m4_0)),(.arr 1 (List.map Zd m5_0))])
  | (.inr r)=>((.d (D.bool false)),[(.cells [(.sl 1 1),(.sl 2 1),(.sl 3 3),(.sl 4 6),(.sl 5 1),(.d (zL t0 m0_0)),(.d (D.list t1 (List.map ZQ m0_1))),(.d (Zd m0_2))]),(.arr 1 (List.map Zd m1_0)),(.arr 1 (List.map Zd m2_0)),(.arr 3 (List.map ZN r)),(.arr 6 (List.map ZR m4_0)),(.arr 1 (List.map Zd m5_0))])
theorem ZiL {t0 t1:Bool}{b c:Int}{m0_0:List Int}{m0_1:List ZZ}{m0_2:Int}{m1_0:List Int}{m2_0:List Int}{m3_0:List Zi}{m4_0:List Zp}{m5_0:List Int}:∀r,(ZdQ b c m3_0)=some r→evW ctx 54 [(.ptr 0 0),(.d (Zd b)),(.d (Zd c))] [(.cells [(.sl 1 1),(.sl 2 1),(.sl 3 3),(.sl 4 6),(.sl 5 1),(.d (zL t0 m0_0)),(.d (D.list t1 (List.map ZQ m0_1))),(.d (Zd m0_2))]),(.arr 1 (List.map Zd m1_0)),(.arr 1 (List.map Zd m2_0)),(.arr 3 (List.map ZN m3_0)),(.arr 6 (List.map ZR m4_0)),(.arr 1 (List.map Zd m5_0))]=some ((Zjc t0 t1 b c m0_0 m0_1 m0_2 m1_0 m2_0 m3_0 m4_0 m5_0) r):=by
 show ZD _ (fun r rhs=>rhs=some ((Zjc t0 t1 b c m0_0 m0_1 m0_2 m1_0 m2_0 m3_0 m4_0 m5_0) r)) _
 unfold ZdQ
 rw[ZcR ctx 54 ZC5 _ _ rfl rfl]
 conv=>rhs;whnf
 refine Zm rfl rfl fun x0 hx0=>?_;conv=>rhs;whnf
 refine Zh (Zr rfl hx0) ?_;conv=>rhs;whnf
 refine Zk _ Zqn rfl fun x1 hx1=>?_;conv=>rhs;whnf
 refine Zc rfl ?_ ?_<;>conv=>rhs;whnf
 ·refine Zh (ZaX rfl hx0) ?_;conv=>rhs;whnf
  refine Zh (Zr rfl hx0) ?_;conv=>rhs;whnf
  refine Zl (Zaq ZN m3_0 b.toNat x1.1) ?_;conv=>rhs;whnf
  refine Zc rfl ?_ ?_<;>conv=>rhs;whnf
  ·exact Zb rfl
  ·exact Zb rfl
 ·refine Zc rfl ?_ ?_<;>conv=>rhs;whnf
  ·exact Zb rfl
  ·exact Zb rfl
def Zn0 (t0:Bool) (t1:Bool) (t2:Bool) (a:ZB) (b:List Int) (c:Int):(Int⊕((List Int)×(List Zi)))→V×Zn
  | (.inl r)=>((.tup [(.agg [(.nilsl 1),(.nilsl 1),(.nilsl 3),(.nilsl 6),(.nilsl 1)]),(.d (Zd r))]),[])
  | (.inr r)=>((.tup [(.agg [(.sl 0 1),(.sl 1 1),(.sl 2 3),(.sl 3 6),(.sl 4 1)]),(.d (Zd 0))]),[(.arr 1 (List.map Zd r.1)),(.arr 1 (List.map Zd b)),(.arr 3 (List.map ZN r.2)),(.arr 6 (List.map ZR (List.replicate c.toNat ((Zp.mk false 0 0 0 0 0):Zp)))),(.arr 1 (List.map Zd (List.replicate c.toNat (0:Int))))])
def Zla (t0:Bool) (t1:Bool) (a:ZB) (b:List Int) (c:Int) (x0:List Int):(List Zi)→Ex×List V×Zn
  | r=>(.exit 0,[(.d (Zd c)),(.ptr 0 0),(.ptr 1 0),(.ptr 2 0),(.ptr 3 0)],[(.cells [(.d (zL t0 a.work)),(.d (D.list t1 (List.map ZQ a.edges)))]),(.cells [(.sl 4 1),(.sl 5 1),(.sl 6 3),(.sl 7 6),(.sl 8 1)]),(.cells [(.sl 9 1),(.sl 10 1)]),(.cells [(.sl 9 1),(.sl 10 1),(.sl 11 3),(.sl 12 6),(.sl 13 1),(.d (zL t0 a.work)),(.d (D.list t1 (List.map ZQ a.edges))),(.d (Zd 0))]),(.arr 1 []),(.arr 1 []),(.arr 3 []),(.arr 6 []),(.arr 1 []),(.arr 1 (List.map Zd x0)),(.arr 1 (List.map Zd b)),(.arr 3 (List.map ZN r)),(.arr 6 (List.map ZR (List.replicate c.toNat ((Zp.mk false 0 0 0 0 0):Zp)))),(.arr 1 (List.map Zd (List.replicate c.toNat (0:Int))))])
theorem ZoJ {t0 t1:Bool}{a:ZB}{b:List Int}{c:Int}{x0:List Int}:∀(s1:Int×(List Zi)) (r:List Zi),lp (ZeA c) s1=some r→lpW ctx 0 [2,3,6,8,10,35,36] [2,3,6,8,10] Zyw [(.d (Zd c)),(.ptr 0 0),(.ptr 1 0),(.ptr 2 0),(.ptr 3 0),(.d (Zd c)),(.d (Zd s1.1))] [(.cells [(.d (zL t0 a.work)),(.d (D.list t1 (List.map ZQ a.edges)))]),(.cells [(.sl 4 1),(.sl 5 1),(.sl 6 3),(.sl 7 6),(.sl 8 1)]),(.cells [(.sl 9 1),(.sl 10 1)]),(.cells [(.sl 9 1),(.sl 10 1),(.sl 11 3),(.sl 12 6),(.sl 13 1),(.d (zL t0 a.work)),(.d (D.list t1 (List.map ZQ a.edges))),(.d (Zd 0))]),(.arr 1 []),(.arr 1 []),(.arr 3 []),(.arr 6 []),(.arr 1 []),(.arr 1 (List.map Zd x0)),(.arr 1 (List.map Zd b)),(.arr 3 (List.map ZN s1.2)),(.arr 6 (List.map ZR (List.replicate c.toNat ((Zp.mk false 0 0 0 0 0):Zp)))),(.arr 1 (List.map Zd (List.replicate c.toNat (0:Int))))]=some ((Zla t0 t1 a b c x0) r):=by
 refine Za7 (Zla t0 t1 a b c x0) ?_
 intro s1 rcl ih
 show ZD _ _ (lpW _ _ _ _ _ _ _)
 unfold ZeA
 rw[Za9]
 conv=>rhs;whnf
 refine Zc rfl ?_ ?_<;>conv=>rhs;whnf
 ·refine Zk _ Zr2 rfl fun x2 hx2=>?_;conv=>rhs;whnf
  refine ZbQ rfl ?_;conv=>rhs;whnf
  refine Zc (ZgY ZN s1.2 1) ?_ ?_
  ·conv=>rhs;whnf
   refine Zl (ZgV ZN s1.2 [x2.1]) ?_;conv=>rhs;whnf
   exact Zf (ih _)
  ·exact ZI
 ·exact Zb rfl
def Zk6 (t0:Bool) (t1:Bool) (a:ZB) (b:List Int) (c:Int) (x0:List Int) (x4:List Int):(List Zi)→Ex×List V×Zn
  | r=>(.exit 2,[(.ptr 0 0),(.ptr 1 0)],[(.cells [(.sl 2 1),(.sl 3 1),(.sl 4 3),(.sl 5 6),(.sl 6 1)]),(.cells [(.sl 7 1),(.sl 8 1),(.sl 9 3),(.sl 10 6),(.sl 11 1),(.d (zL t0 a.work)),(.d (D.list t1 (List.map ZQ a.edges))),(.d (Zd 0))]),(.arr 1 []),(.arr 1 []),(.arr 3 []),(.arr 6 []),(.arr 1 []),(.arr 1 (List.map Zd x0)),(.arr 1 (List.map Zd b)),(.arr 3 (List.map ZN r)),(.arr 6 (List.map ZR (List.replicate c.toNat ((Zp.mk false 0 0 0 0 0):Zp)))),(.arr 1 (List.map Zd (List.replicate c.toNat (0:Int))))])
theorem ZoG {t0 t1:Bool}{a:ZB}{b:List Int}{c:Int}{x0:List Int}{x4:List Int}:∀(s5:Int×(List Zi)) (r:List Zi),lp (Zeu c x4) s5=some r→lpW ctx 0 [2,6,10,57,58,59] [6,10] Zzl [(.d (Zd c)),(.ptr 0 0),(.ptr 1 0),(.d (zL true x4)),(.d (Zd (x4.length:Int))),(.d (Zd s5.1))] [(.cells [(.sl 2 1),(.sl 3 1),(.sl 4 3),(.sl 5 6),(.sl 6 1)]),(.cells [(.sl 7 1),(.sl 8 1),(.sl 9 3),(.sl 10 6),(.sl 11 1),(.d (zL t0 a.work)),(.d (D.list t1 (List.map ZQ a.edges))),(.d (Zd 0))]),(.arr 1 []),(.arr 1 []),(.arr 3 []),(.arr 6 []),(.arr 1 []),(.arr 1 (List.map Zd x0)),(.arr 1 (List.map Zd b)),(.arr 3 (List.map ZN s5.2)),(.arr 6 (List.map ZR (List.replicate c.toNat ((Zp.mk false 0 0 0 0 0):Zp)))),(.arr 1 (List.map Zd (List.replicate c.toNat (0:Int))))]=some ((Zk6 t0 t1 a b c x0 x4) r):=by
 refine Za7 (Zk6 t0 t1 a b c x0 x4) ?_
 intro s5 rcl ih
 show ZD _ _ (lpW _ _ _ _ _ _ _)
 unfold Zeu
 rw[Za9]
 conv=>rhs;whnf
 refine Zc rfl ?_ ?_<;>conv=>rhs;whnf
 ·refine Zm rfl rfl fun x6 hx6=>?_;conv=>rhs;whnf
  refine Zc rfl ?_ ?_
  ·exact ZI
  ·conv=>rhs;whnf
   refine Ze _ ZiL fun x7 hx7=>?_
   clear hx7
   rcases x7 with x7 | x7
   ·conv=>rhs;whnf
    exact Zf (ih _)
   ·conv=>rhs;whnf
    exact Zf (ih _)
 ·exact Zb rfl
theorem Zq2 {t0 t1 t2:Bool}{a:ZB}{b:List Int}{c:Int}:∀r,(ZgP a b c)=some r→evW ctx 16 [(.d (D.agg [(zL t0 a.work),(D.list t1 (List.map ZQ a.edges))])),(.d (zL t2 b)),(.d (Zd c))] []=some ((Zn0 t0 t1 t2 a b c) r):=by
 show ZD _ (fun r rhs=>rhs=some ((Zn0 t0 t1 t2 a b c) r)) _
 unfold ZgP
 rw[ZcR ctx 16 ZDS _ _ rfl rfl]
 conv=>rhs;whnf
 refine Ze _ Zsb fun x0 hx0=>?_
 clear hx0
 rcases x0 with x0 | x0
 ·conv=>rhs;whnf
  refine Zc rfl ?_ ?_
  ·conv=>rhs;whnf
   exact Zb rfl
  ·exact ZI
 ·conv=>rhs;whnf
  refine Zaw rfl ?_;conv=>rhs;whnf
  refine Zc rfl ?_ ?_
  ·conv=>rhs;whnf
   refine Zl (ZlA ZR ((Zp.mk false 0 0 0 0 0):Zp) c) ?_;conv=>rhs;whnf
   refine Zc rfl ?_ ?_
   ·conv=>rhs;whnf
    refine Zl (ZlA Zd (0:Int) c) ?_;conv=>rhs;whnf
    refine Ze _ (ZoJ _) fun r3 hr3=>?_;conv=>rhs;whnf
    refine Zk _ Zi5 rfl fun x4 hx4=>?_;conv=>rhs;whnf
    refine Zl (ZE _ _) ?_;conv=>rhs;whnf
    refine Ze _ (ZoG _) fun r8 hr8=>?_;conv=>rhs;whnf
    exact Zb rfl
   ·exact ZI
  ·exact ZI
def ZnH (t0:Bool) (t1:Bool) (a:Z6):Unit→V×Zn
  | r=>((.agg [(.sl 0 1),(.sl 1 1)]),[(.arr 1 (List.map Zd a.on)),(.arr 1 (List.map Zd a.left))])
theorem Zrl {t0 t1:Bool}{a:Z6}:∀r,(Zka a)=some r→evW ctx 61 [(.d (D.agg [(zL t0 a.on),(zL t1 a.left)]))] []=some ((ZnH t0 t1 a) r):=by
 show ZD _ (fun r rhs=>rhs=some ((ZnH t0 t1 a) r)) _
 unfold Zka
 rw[ZcR ctx 61 ZC8 _ _ rfl rfl]
 conv=>rhs;whnf
 refine ZbQ (ZgR (f:=Zd) (fun _=>⟨rfl,rfl⟩) a.on 0) ?_;conv=>rhs;whnf
 refine Zc (ZgQ Zd a.on) ?_ ?_
 ·conv=>rhs;whnf
  refine Zl (rfl:_=List.map Zd a.on) ?_;conv=>rhs;whnf
  refine ZbQ (ZgR (f:=Zd) (fun _=>⟨rfl,rfl⟩) a.left 0) ?_;conv=>rhs;whnf
  refine Zc (ZgQ Zd a.left) ?_ ?_
  ·conv=>rhs;whnf
   refine Zl (rfl:_=List.map Zd a.left) ?_;conv=>rhs;whnf
   exact Zb rfl
  ·exact ZI
 ·exact ZI
def ZnU (r:Zi):D:=(D.agg [(zL true r.ring),(Zd r.top),(Zd r.bottom)])
theorem ZrK {t0:Bool}{a:Zi}:∀r,(Zkc a)=some r→evD ctx 62 [(.d (D.agg [(zL t0 a.ring),(Zd a.top),(Zd a.bottom)]))]=some (ZnU r):=by
 show ZD _ (fun r rhs=>rhs=some (ZnU r)) _
 unfold Zkc
 rw[ZaF ctx 62 ZCX _ rfl rfl]
 conv=>rhs;whnf
 refine ZbQ (ZgR (f:=Zd) (fun _=>⟨rfl,rfl⟩) a.ring 0) ?_;conv=>rhs;whnf
 refine Zc (ZgQ Zd a.ring) ?_ ?_
 ·conv=>rhs;whnf
  refine Zl (rfl:_=List.map Zd a.ring) ?_;conv=>rhs;whnf
  exact Zb rfl
 ·exact ZI
def ZnM (t0:Bool) (t1:Bool) (t2:Bool) (t3:Bool) (t4:Bool) (a:Zao):(List Zi)→V×Zn
  | r=>((.agg [(.sl 0 1),(.sl 1 1),(.sl 2 3),(.sl 3 6),(.sl 4 1)]),[(.arr 1 (List.map Zd a.crew.on)),(.arr 1 (List.map Zd a.crew.left)),(.arr 3 (List.map ZN r)),(.arr 6 (List.map ZR a.takers)),(.arr 1 (List.map Zd a.from_))])
def ZkL (t0:Bool) (t1:Bool) (t2:Bool) (t3:Bool) (t4:Bool) (a:Zao):(List Zi)→Ex×List V×Zn
  | r=>(.exit 0,[(.ptr 0 0),(.ptr 1 0)],[(.cells [(.sl 2 1),(.sl 3 1),(.sl 4 3),(.sl 5 6),(.sl 6 1)]),(.cells [(.sl 7 1),(.sl 8 1),(.sl 9 3),(.sl 10 6),(.sl 11 1)]),(.arr 1 []),(.arr 1 []),(.arr 3 []),(.arr 6 []),(.arr 1 []),(.arr 1 (List.map Zd a.crew.on)),(.arr 1 (List.map Zd a.crew.left)),(.arr 3 (List.map ZN r)),(.arr 6 (List.map ZR a.takers)),(.arr 1 (List.map Zd a.from_))])
theorem Zo8 {t0 t1:Bool}{t2 t3 t4:Bool}{a:Zao}:∀(s1:Int×(List Zi)) (r:List Zi),lp (Zes a) s1=some r→lpW ctx 0 [1,2,3,4] [2,3] ZBc [(.ptr 0 0),(.ptr 1 0),(.ptr 2 0),(.d (Zd s1.1))] [(.cells [(.d (zL t0 a.crew.on)),(.d (zL t1 a.crew.left)),(.d (D.list t2 (List.map ZN a.deques))),(.d (D.list t3 (List.map ZR a.takers))),(.d (zL t4 a.from_))]),(.cells [(.sl 3 1),(.sl 4 1),(.sl 5 3),(.sl 6 6),(.sl 7 1)]),(.cells [(.sl 8 1),(.sl 9 1),(.sl 10 3),(.sl 11 6),(.sl 12 1)]),(.arr 1 []),(.arr 1 []),(.arr 3 []),(.arr 6 []),(.arr 1 []),(.arr 1 (List.map Zd a.crew.on)),(.arr 1 (List.map Zd a.crew.left)),(.arr 3 (List.map ZN s1.2)),(.arr 6 (List.map ZR a.takers)),(.arr 1 (List.map Zd a.from_))]=some ((ZkL t0 t1 t2 t3 t4 a) r):=by
 refine Za7 (ZkL t0 t1 t2 t3 t4 a) ?_
 intro s1 rcl ih
 show ZD _ _ (lpW _ _ _ _ _ _ _)
 unfold Zes
 rw[Za9]
 conv=>rhs;whnf
 refine Zl (ZE _ _) ?_;conv=>rhs;whnf
 refine Zc rfl ?_ ?_<;>conv=>rhs;whnf
 ·refine Zm rfl rfl fun x2 hx2=>?_;conv=>rhs;whnf
  refine Zk _ ZrK rfl fun x3 hx3=>?_;conv=>rhs;whnf
  refine ZbQ rfl ?_;conv=>rhs;whnf
  refine Zc (ZgY ZN s1.2 1) ?_ ?_
  ·conv=>rhs;whnf
   refine Zl (ZgV ZN s1.2 [x3]) ?_;conv=>rhs;whnf
   exact Zf (ih _)
  ·exact ZI
 ·exact Zb rfl
theorem ZfE {t0 t1:Bool}{t2 t3 t4:Bool}{a:Zao}:∀r,(Zef a)=some r→evW ctx 22 [(.d (D.agg [(zL t0 a.crew.on),(zL t1 a.crew.left),(D.list t2 (List.map ZN a.deques)),(D.list t3 (List.map ZR a.takers)),(zL t4 a.from_)]))] []=some ((ZnM t0 t1 t2 t3 t4 a) r):=by
 show ZD _ (fun r rhs=>rhs=some ((ZnM t0 t1 t2 t3 t4 a) r)) _
 unfold Zef
 rw[ZcR ctx 22 ZDi _ _ rfl rfl]
 conv=>rhs;whnf
 refine Ze _ Zrl fun x0 hx0=>?_;conv=>rhs;whnf
 refine ZbQ (ZgR (f:=ZR) (fun _=>⟨rfl,rfl⟩) a.takers 0) ?_;conv=>rhs;whnf
 refine Zc (ZgQ ZR a.takers) ?_ ?_
 ·conv=>rhs;whnf
  refine Zl (rfl:_=List.map ZR a.takers) ?_;conv=>rhs;whnf
  refine ZbQ (ZgR (f:=Zd) (fun _=>⟨rfl,rfl⟩) a.from_ 0) ?_;conv=>rhs;whnf
  refine Zc (ZgQ Zd a.from_) ?_ ?_
  ·conv=>rhs;whnf
   refine Zl (rfl:_=List.map Zd a.from_) ?_;conv=>rhs;whnf
   refine Ze _ (Zo8 _) fun r4 hr4=>?_;conv=>rhs;whnf
   exact Zb rfl
  ·exact ZI
 ·exact ZI
def Zl9 (r:Bool):D:=(D.bool r)
def ZjW (t0:Bool) (t1:Bool) (t2:Bool) (t3:Bool) (t4:Bool) (a:Zao):(Unit⊕Unit)→Ex×List V×Zn
  | (.inl r)=>(.ret,[(.d (D.bool false))],[])
  | (.inr r)=>(.exit 0,[.bad],[])
theorem ZnB {t0 t1:Bool}{t2 t3 t4:Bool}{a:Zao}:∀(s0:Int) (r:(Unit⊕Unit)),lp (Zek a) s0=some r→lpW ctx 0 [1,3,32,33,34] [2] ZzT [(.ptr 0 0),(.d (Zd (a.crew.on.length:Int))),(.d (D.list t2 (List.map ZN a.deques))),(.d (Zd (a.deques.length:Int))),(.d (Zd s0))] [(.cells [(.d (zL t0 a.crew.on)),(.d (zL t1 a.crew.left)),(.d (D.list t2 (List.map ZN a.deques))),(.d (D.list t3 (List.map ZR a.takers))),(.d (zL t4 a.from_))])]=some ((ZjW t0 t1 t2 t3 t4 a) r):=by
 refine Za7 (ZjW t0 t1 t2 t3 t4 a) ?_
 intro s0 rcl ih
 show ZD _ _ (lpW _ _ _ _ _ _ _)
 unfold Zek
 rw[Za9]
 conv=>rhs;whnf
 refine Zc rfl ?_ ?_<;>conv=>rhs;whnf
 ·refine Zm rfl rfl fun x1 hx1=>?_;conv=>rhs;whnf
  refine Zm rfl rfl fun x2 hx2=>?_;conv=>rhs;whnf
  refine Zm rfl rfl fun x3 hx3=>?_;conv=>rhs;whnf
  refine Zk _ ZfM rfl fun x4 hx4=>?_;conv=>rhs;whnf
  refine Zc rfl ?_ ?_<;>conv=>rhs;whnf
  ·exact Zb rfl
  ·refine Zl (ZE _ _) ?_;conv=>rhs;whnf
   refine Zc rfl ?_ ?_<;>conv=>rhs;whnf
   ·exact Zb rfl
   ·refine Zc rfl ?_ ?_<;>conv=>rhs;whnf
    ·exact Zb rfl
    ·refine Zc rfl ?_ ?_<;>conv=>rhs;whnf
     ·exact Zb rfl
     ·refine Zc rfl ?_ ?_<;>conv=>rhs;whnf
      ·exact Zb rfl
      ·refine Zc rfl ?_ ?_<;>conv=>rhs;whnf
       ·refine Zc rfl ?_ ?_<;>conv=>rhs;whnf
        ·refine Zaw rfl ?_;conv=>rhs;whnf
         refine Zm rfl rfl fun x5 hx5=>?_;conv=>rhs;whnf
         refine Zc rfl ?_ ?_<;>conv=>rhs;whnf
         ·refine Zc rfl ?_ ?_<;>conv=>rhs;whnf
          ·exact Zb rfl
          ·refine Zc rfl ?_ ?_<;>conv=>rhs;whnf
           ·exact Zb rfl
           ·exact Zf (ih _)
         ·exact Zf (ih _)
        ·refine ZbQ rfl ?_;conv=>rhs;whnf
         exact Zb rfl
       ·refine Zc rfl ?_ ?_<;>conv=>rhs;whnf
        ·refine ZbQ rfl ?_;conv=>rhs;whnf
         exact Zb rfl
        ·refine Zaw rfl ?_;conv=>rhs;whnf
         refine Zm rfl rfl fun x6 hx6=>?_;conv=>rhs;whnf
         refine Zc rfl ?_ ?_<;>conv=>rhs;whnf
         ·refine Zc rfl ?_ ?_<;>conv=>rhs;whnf
          ·exact Zb rfl
          ·refine Zc rfl ?_ ?_<;>conv=>rhs;whnf
           ·exact Zb rfl
           ·exact Zf (ih _)
         ·exact Zf (ih _)
 ·exact Zb rfl
theorem ZpI {t0 t1:Bool}{t2 t3 t4:Bool}{a:Zao}:∀r,(Zhf a)=some r→evD ctx 66 [(.d (D.agg [(zL t0 a.crew.on),(zL t1 a.crew.left),(D.list t2 (List.map ZN a.deques)),(D.list t3 (List.map ZR a.takers)),(zL t4 a.from_)]))]=some (Zl9 r):=by
 show ZD _ (fun r rhs=>rhs=some (Zl9 r)) _
 unfold Zhf
 rw[ZaF ctx 66 ZDb _ rfl rfl]
 conv=>rhs;whnf
 refine Zl (ZE _ _) ?_;conv=>rhs;whnf
 refine Zl (ZE _ _) ?_;conv=>rhs;whnf
 refine Zc rfl ?_ ?_<;>conv=>rhs;whnf
 ·exact Zb rfl
 ·refine Zl (ZE _ _) ?_;conv=>rhs;whnf
  refine Zc rfl ?_ ?_<;>conv=>rhs;whnf
  ·exact Zb rfl
  ·refine Zl (ZE _ _) ?_;conv=>rhs;whnf
   refine Zc rfl ?_ ?_<;>conv=>rhs;whnf
   ·exact Zb rfl
   ·refine Zl (ZE _ _) ?_;conv=>rhs;whnf
    refine Ze _ (ZnB _) fun r7 hr7=>?_
    clear hr7
    rcases r7 with r7 | r7
    ·conv=>rhs;whnf
     exact Zb rfl
    ·conv=>rhs;whnf
     exact Zb rfl
def ZlU (r:Int):D:=(Zd r)
theorem ZgT {t0 t1:Bool}{t2 t3:Bool}{t4 t5 t6:Bool}{a:ZB}{b:Zao}:∀r,(Zei a b)=some r→evD ctx 26 [(.d (D.agg [(zL t0 a.work),(D.list t1 (List.map ZQ a.edges))])),(.d (D.agg [(zL t2 b.crew.on),(zL t3 b.crew.left),(D.list t4 (List.map ZN b.deques)),(D.list t5 (List.map ZR b.takers)),(zL t6 b.from_)]))]=some (ZlU r):=by
 show ZD _ (fun r rhs=>rhs=some (ZlU r)) _
 unfold Zei
 rw[ZaF ctx 26 ZCJ _ rfl rfl]
 conv=>rhs;whnf
 refine Zk _ Zi2 rfl fun x0 hx0=>?_;conv=>rhs;whnf
 refine Zc rfl ?_ ?_<;>conv=>rhs;whnf
 ·refine Zk _ ZpI rfl fun x1 hx1=>?_;conv=>rhs;whnf
  refine Zc rfl ?_ ?_<;>conv=>rhs;whnf
  ·exact Zb rfl
  ·exact Zb rfl
 ·exact Zb rfl
def ZfF (t0:Bool) (a:List Zp):Unit→V×Zn
  | r=>((.sl 0 6),[(.arr 6 (List.map ZR a))])
theorem Zib {t0:Bool}{a:List Zp}:∀r,(Zb4 a)=some r→evW ctx 109 [(.d (D.list t0 (List.map ZR a)))] []=some ((ZfF t0 a) r):=by
 show ZD _ (fun r rhs=>rhs=some ((ZfF t0 a) r)) _
 unfold Zb4
 rw[ZcR ctx 109 ZzE _ _ rfl rfl]
 conv=>rhs;whnf
 refine Zc (Zwo ZR a) ?_ ?_
 ·conv=>rhs;whnf
  refine ZbQ (ZgR (f:=ZR) (fun _=>⟨rfl,rfl⟩) a 0) ?_;conv=>rhs;whnf
  refine Zc (ZgQ ZR a) ?_ ?_
  ·conv=>rhs;whnf
   refine Zl (rfl:_=List.map ZR a) ?_;conv=>rhs;whnf
   exact Zb rfl
  ·exact ZI
 ·exact ZI
def ZfG (t0:Bool) (a:List Zi):Unit→V×Zn
  | r=>((.sl 0 3),[(.arr 3 (List.map ZN a))])
theorem Zia {t0:Bool}{a:List Zi}:∀r,(ZbZ a)=some r→evW ctx 110 [(.d (D.list t0 (List.map ZN a)))] []=some ((ZfG t0 a) r):=by
 show ZD _ (fun r rhs=>rhs=some ((ZfG t0 a) r)) _
 unfold ZbZ
 rw[ZcR ctx 110 Zze _ _ rfl rfl]
 conv=>rhs;whnf
 refine Zc (Zwo ZN a) ?_ ?_
 ·conv=>rhs;whnf
  refine ZbQ (ZgR (f:=ZN) (fun _=>⟨rfl,rfl⟩) a 0) ?_;conv=>rhs;whnf
  refine Zc (ZgQ ZN a) ?_ ?_
  ·conv=>rhs;whnf
   refine Zl (rfl:_=List.map ZN a) ?_;conv=>rhs;whnf
   exact Zb rfl
  ·exact ZI
 ·exact ZI
def ZnJ (t0:Bool) (t1:Bool) (t2:Bool) (t3:Bool) (t4:Bool) (a:Zao):(List Zi)→V×Zn
  | r=>((.agg [(.sl 0 1),(.sl 1 1),(.sl 2 3),(.sl 3 6),(.sl 4 1)]),[(.arr 1 (List.map Zd a.crew.on)),(.arr 1 (List.map Zd a.crew.left)),(.arr 3 (List.map ZN r)),(.arr 6 (List.map ZR a.takers)),(.arr 1 (List.map Zd a.from_))])
def ZkZ (a:Zao):(List Zi)→Ex×List V×Zn
  | r=>(.exit 0,[(.ptr 0 0),(.ptr 1 0)],[(.cells [(.sl 2 1),(.sl 3 1),(.sl 4 3),(.sl 5 6),(.sl 6 1)]),(.cells [(.sl 7 1),(.sl 8 1),(.sl 9 3),(.sl 10 6),(.sl 11 1)]),(.arr 1 (List.map Zd a.crew.on)),(.arr 1 (List.map Zd a.crew.left)),(.arr 3 (List.map ZN r)),(.arr 6 (List.map ZR a.takers)),(.arr 1 (List.map Zd a.from_)),(.arr 1 []),(.arr 1 []),(.arr 3 []),(.arr 6 []),(.arr 1 [])])
theorem ZoN {a:Zao}:∀(s5:Int×(List Zi)) (r:List Zi),lp (ZeC a) s5=some r→lpW ctx 0 [1,2,30,31] [1,2] Zz9 [(.ptr 0 0),(.ptr 1 0),(.d (Zd (a.deques.length:Int))),(.d (Zd s5.1))] [(.cells [(.sl 2 1),(.sl 3 1),(.sl 4 3),(.sl 5 6),(.sl 6 1)]),(.cells [(.sl 7 1),(.sl 8 1),(.sl 9 3),(.sl 10 6),(.sl 11 1)]),(.arr 1 (List.map Zd a.crew.on)),(.arr 1 (List.map Zd a.crew.left)),(.arr 3 (List.map ZN s5.2)),(.arr 6 (List.map ZR a.takers)),(.arr 1 (List.map Zd a.from_)),(.arr 1 []),(.arr 1 []),(.arr 3 []),(.arr 6 []),(.arr 1 [])]=some ((ZkZ a) r):=by
 refine Za7 (ZkZ a) ?_
 intro s5 rcl ih
 show ZD _ _ (lpW _ _ _ _ _ _ _)
 unfold ZeC
 rw[Za9]
 conv=>rhs;whnf
 refine Zc rfl ?_ ?_<;>conv=>rhs;whnf
 ·refine Zm rfl rfl fun x6 hx6=>?_;conv=>rhs;whnf
  refine Zh (Zr rfl hx6) ?_;conv=>rhs;whnf
  refine Ze _ Zay fun x7 hx7=>?_;conv=>rhs;whnf
  refine Zh (ZaX rfl hx6) ?_;conv=>rhs;whnf
  refine Zh (Zr rfl hx6) ?_;conv=>rhs;whnf
  refine Zl (Zaq ZN s5.2 s5.1.toNat x6) ?_;conv=>rhs;whnf
  exact Zf (ih _)
 ·exact Zb rfl
theorem Zj1 {t0 t1:Bool}{t2 t3 t4:Bool}{a:Zao}:∀r,(ZgF a)=some r→evW ctx 60 [(.d (D.agg [(zL t0 a.crew.on),(zL t1 a.crew.left),(D.list t2 (List.map ZN a.deques)),(D.list t3 (List.map ZR a.takers)),(zL t4 a.from_)]))] []=some ((ZnJ t0 t1 t2 t3 t4 a) r):=by
 show ZD _ (fun r rhs=>rhs=some ((ZnJ t0 t1 t2 t3 t4 a) r)) _
 unfold ZgF
 rw[ZcR ctx 60 ZCC _ _ rfl rfl]
 conv=>rhs;whnf
 refine Ze _ Zay fun x0 hx0=>?_;conv=>rhs;whnf
 refine Ze _ Zay fun x1 hx1=>?_;conv=>rhs;whnf
 refine Ze _ Zib fun x2 hx2=>?_;conv=>rhs;whnf
 refine Ze _ Zay fun x3 hx3=>?_;conv=>rhs;whnf
 refine Ze _ Zia fun x4 hx4=>?_;conv=>rhs;whnf
 refine Zl (ZE _ _) ?_;conv=>rhs;whnf
 refine Ze _ (ZoN _) fun r8 hr8=>?_;conv=>rhs;whnf
 exact Zb rfl
def ZhL (r:Bool):D:=(D.bool r)
theorem Zk0 {t0:Bool}{a:Zi}:∀r,(ZbU a)=some r→evD ctx 112 [(.d (D.agg [(zL t0 a.ring),(Zd a.top),(Zd a.bottom)]))]=some (ZhL r):=by
 show ZD _ (fun r rhs=>rhs=some (ZhL r)) _
 unfold ZbU
 rw[ZaF ctx 112 ZAK _ rfl rfl]
 conv=>rhs;whnf
 refine Zc rfl ?_ ?_<;>conv=>rhs;whnf
 ·exact Zb rfl
 ·exact Zb rfl
def Zb3 (r:Int):D:=(Zd r)
def ZbR (t0:Bool) (a:List Zi):(Int⊕Unit)→Ex×List V×Zn
  | (.inl r)=>(.ret,[(.d (Zd r))],[])
  | (.inr r)=>(.exit 0,[.bad],[])
theorem Zdr {t0:Bool}{a:List Zi}:∀(s0:Int) (r:(Int⊕Unit)),lp (Zbl a (fun z0=>ZbU z0)) s0=some r→lpW ctx 0 [0,1,7,8] [4] Zxd [(.d (D.list t0 (List.map ZN a))),(.d (D.fn 112 [])),(.d (Zd (a.length:Int))),(.d (Zd s0))] []=some ((ZbR t0 a) r):=by
 refine Za7 (ZbR t0 a) ?_
 intro s0 rcl ih
 show ZD _ _ (lpW _ _ _ _ _ _ _)
 unfold Zbl
 rw[Za9]
 conv=>rhs;whnf
 refine Zc rfl ?_ ?_<;>conv=>rhs;whnf
 ·refine Zm rfl rfl fun x1 hx1=>?_;conv=>rhs;whnf
  refine Zk _ Zk0 rfl fun x2 hx2=>?_;conv=>rhs;whnf
  refine Zc rfl ?_ ?_<;>conv=>rhs;whnf
  ·exact Zb rfl
  ·exact Zf (ih _)
 ·exact Zb rfl
theorem ZdM {t0:Bool}{a:List Zi}:∀r,(Zb7 a (fun z0=>ZbU z0))=some r→evD ctx 165 [(.d (D.list t0 (List.map ZN a))),(.d (D.fn 112 []))]=some (Zb3 r):=by
 show ZD _ (fun r rhs=>rhs=some (Zb3 r)) _
 unfold Zb7
 rw[ZaF ctx 165 ZyT _ rfl rfl]
 conv=>rhs;whnf
 refine Zl (ZE _ _) ?_;conv=>rhs;whnf
 refine Ze _ (Zdr _) fun r3 hr3=>?_
 clear hr3
 rcases r3 with r3 | r3
 ·conv=>rhs;whnf
  exact Zb rfl
 ·conv=>rhs;whnf
  exact Zb rfl
def ZbO (r:Bool):D:=(D.bool r)
theorem Zds {t0:Bool}{a:List Zi}:∀r,(Zbi a (fun z0=>ZbU z0))=some r→evD ctx 111 [(.d (D.list t0 (List.map ZN a))),(.d (D.fn 112 []))]=some (ZbO r):=by
 show ZD _ (fun r rhs=>rhs=some (ZbO r)) _
 unfold Zbi
 rw[ZaF ctx 111 Zyo _ rfl rfl]
 conv=>rhs;whnf
 refine Zk _ ZdM rfl fun x0 hx0=>?_;conv=>rhs;whnf
 refine Zc rfl ?_ ?_<;>conv=>rhs;whnf
 ·exact Zb rfl
 ·exact Zb rfl
def Ziy (r:List Int):D:=(zL true r)
def ZhC (t0:Bool) (t1:Bool) (t2:Bool) (t3:Bool) (t4:Bool) (t5:Bool) (t6:Bool) (a0:List Int) (a1:List Int) (a2:List Zi) (a3:List Zp) (a4:List Int) (a5:List Int) (a6:List ZZ) (a7:Int):(List Int)→Ex×List V×Zn
  | r=>(.exit 0,[(.sl 0 1)],[(.arr 1 (List.map Zd r))])
theorem ZkB {t0 t1:Bool}{t2 t3:Bool}{t4 t5 t6:Bool}{a0:List Int}{a1:List Int}{a2:List Zi}{a3:List Zp}{a4:List Int}{a5:List Int}{a6:List ZZ}{a7:Int}:∀(s1:Int×(List Int)) (r:List Int),lp (ZcC a0) s1=some r→lpW ctx 0 [0,3,4,18,19,20] [4] Zvu [(.d (D.rptr [(zL t0 a0),(zL t1 a1),(D.list t2 (List.map ZN a2)),(D.list t3 (List.map ZR a3)),(zL t4 a4),(zL t5 a5),(D.list t6 (List.map ZQ a6)),(Zd a7)])),(.d (D.bool true)),(.sl 0 1),(.d (zL t0 a0)),(.d (Zd (a0.length:Int))),(.d (Zd s1.1))] [(.arr 1 (List.map Zd s1.2))]=some ((ZhC t0 t1 t2 t3 t4 t5 t6 a0 a1 a2 a3 a4 a5 a6 a7) r):=by
 refine Za7 (ZhC t0 t1 t2 t3 t4 t5 t6 a0 a1 a2 a3 a4 a5 a6 a7) ?_
 intro s1 rcl ih
 show ZD _ _ (lpW _ _ _ _ _ _ _)
 unfold ZcC
 rw[Za9]
 conv=>rhs;whnf
 refine Zc rfl ?_ ?_<;>conv=>rhs;whnf
 ·refine Zm rfl rfl fun x2 hx2=>?_;conv=>rhs;whnf
  refine Zc rfl ?_ ?_<;>conv=>rhs;whnf
  ·refine ZbQ rfl ?_;conv=>rhs;whnf
   refine Zc (ZgY Zd s1.2 1) ?_ ?_
   ·conv=>rhs;whnf
    refine Zl (ZgV Zd s1.2 [s1.1]) ?_;conv=>rhs;whnf
    exact Zf (ih _)
   ·exact ZI
  ·exact Zf (ih _)
 ·exact Zb rfl
def Zg6 (t0:Bool) (t1:Bool) (t2:Bool) (t3:Bool) (t4:Bool) (t5:Bool) (t6:Bool) (a0:List Int) (a1:List Int) (a2:List Zi) (a3:List Zp) (a4:List Int) (a5:List Int) (a6:List ZZ) (a7:Int):(List Int)→Ex×List V×Zn
  | r=>(.exit 0,[(.sl 0 1)],[(.arr 1 (List.map Zd r))])
theorem Zj6 {t0 t1:Bool}{t2 t3:Bool}{t4 t5 t6:Bool}{a0:List Int}{a1:List Int}{a2:List Zi}{a3:List Zp}{a4:List Int}{a5:List Int}{a6:List ZZ}{a7:Int}:∀(s4:Int×(List Int)) (r:List Int),lp (Zcd a0 a3) s4=some r→lpW ctx 0 [0,3,4,18,19,20] [4] Zvu [(.d (D.rptr [(zL t0 a0),(zL t1 a1),(D.list t2 (List.map ZN a2)),(D.list t3 (List.map ZR a3)),(zL t4 a4),(zL t5 a5),(D.list t6 (List.map ZQ a6)),(Zd a7)])),(.d (D.bool false)),(.sl 0 1),(.d (zL t0 a0)),(.d (Zd (a0.length:Int))),(.d (Zd s4.1))] [(.arr 1 (List.map Zd s4.2))]=some ((Zg6 t0 t1 t2 t3 t4 t5 t6 a0 a1 a2 a3 a4 a5 a6 a7) r):=by
 refine Za7 (Zg6 t0 t1 t2 t3 t4 t5 t6 a0 a1 a2 a3 a4 a5 a6 a7) ?_
 intro s4 rcl ih
 show ZD _ _ (lpW _ _ _ _ _ _ _)
 unfold Zcd
 rw[Za9]
 conv=>rhs;whnf
 refine Zc rfl ?_ ?_<;>conv=>rhs;whnf
 ·refine Zm rfl rfl fun x5 hx5=>?_;conv=>rhs;whnf
  refine Zc rfl ?_ ?_<;>conv=>rhs;whnf
  ·refine Zm rfl rfl fun x6 hx6=>?_;conv=>rhs;whnf
   refine Zc rfl ?_ ?_<;>conv=>rhs;whnf
   ·refine ZbQ rfl ?_;conv=>rhs;whnf
    refine Zc (ZgY Zd s4.2 1) ?_ ?_
    ·conv=>rhs;whnf
     refine Zl (ZgV Zd s4.2 [s4.1]) ?_;conv=>rhs;whnf
     exact Zf (ih _)
    ·exact ZI
   ·exact Zf (ih _)
  ·exact Zf (ih _)
 ·exact Zb rfl
theorem Zgc {t0 t1:Bool}{t2 t3:Bool}{t4 t5 t6:Bool}{a0:List Int}{a1:List Int}{a2:List Zi}{a3:List Zp}{a4:List Int}{a5:List Int}{a6:List ZZ}{a7:Int}:∀r,(ZcV a0 a2 a3)=some r→evD ctx 63 [(.d (D.rptr [(zL t0 a0),(zL t1 a1),(D.list t2 (List.map ZN a2)),(D.list t3 (List.map ZR a3)),(zL t4 a4),(zL t5 a5),(D.list t6 (List.map ZQ a6)),(Zd a7)]))]=some (Ziy r):=by
 show ZD _ (fun r rhs=>rhs=some (Ziy r)) _
 unfold ZcV
 rw[ZaF ctx 63 ZDo _ rfl rfl]
 conv=>rhs;whnf
 refine Zk _ Zds rfl fun x0 hx0=>?_;conv=>rhs;whnf
 refine Zc rfl ?_ ?_<;>conv=>rhs;whnf
 ·refine Zl (ZE _ _) ?_;conv=>rhs;whnf
  refine Ze _ (ZkB _) fun r3 hr3=>?_;conv=>rhs;whnf
  exact Zb rfl
 ·refine Zl (ZE _ _) ?_;conv=>rhs;whnf
  refine Ze _ (Zj6 _) fun r7 hr7=>?_;conv=>rhs;whnf
  exact Zb rfl
def Zid (r:Bool):D:=(D.bool r)
theorem Zlp {t0 t1:Bool}{t2 t3:Bool}{t4 t5 t6:Bool}{a:Int}{b0:List Int}{b1:List Int}{b2:List Zi}{b3:List Zp}{b4:List Int}{b5:List Int}{b6:List ZZ}{b7:Int}:∀r,(Zb5 a b7)=some r→evD ctx 147 [(.d (Zd a)),(.d (D.rptr [(D.rptr [(zL t0 b0),(zL t1 b1),(D.list t2 (List.map ZN b2)),(D.list t3 (List.map ZR b3)),(zL t4 b4),(zL t5 b5),(D.list t6 (List.map ZQ b6)),(Zd b7)])]))]=some (Zid r):=by
 show ZD _ (fun r rhs=>rhs=some (Zid r)) _
 unfold Zb5
 rw[ZaF ctx 147 Zzt _ rfl rfl]
 conv=>rhs;whnf
 refine Zc rfl ?_ ?_<;>conv=>rhs;whnf
 ·exact Zb rfl
 ·exact Zb rfl
def Zcq (r:Int):D:=(Zd r)
def Zca (t0:Bool) (t1:Bool) (t2:Bool) (t3:Bool) (t4:Bool) (t5:Bool) (t6:Bool) (t7:Bool) (a:List Int) (b0:List Int) (b1:List Int) (b2:List Zi) (b3:List Zp) (b4:List Int) (b5:List Int) (b6:List ZZ) (b7:Int):(Int⊕Unit)→Ex×List V×Zn
  | (.inl r)=>(.ret,[(.d (Zd r))],[])
  | (.inr r)=>(.exit 0,[.bad],[])
theorem ZdX {t0 t1:Bool}{t2 t3:Bool}{t4 t5:Bool}{t6 t7:Bool}{a:List Int}{b0:List Int}{b1:List Int}{b2:List Zi}{b3:List Zp}{b4:List Int}{b5:List Int}{b6:List ZZ}{b7:Int}:∀(s0:Int) (r:(Int⊕Unit)),lp (ZC a (fun z0=>Zb5 z0 b7)) s0=some r→lpW ctx 0 [0,1,7,8] [4] Zrn [(.d (zL t0 a)),(.d (D.fn 147 [(D.rptr [(D.rptr [(zL t1 b0),(zL t2 b1),(D.list t3 (List.map ZN b2)),(D.list t4 (List.map ZR b3)),(zL t5 b4),(zL t6 b5),(D.list t7 (List.map ZQ b6)),(Zd b7)])])])),(.d (Zd (a.length:Int))),(.d (Zd s0))] []=some ((Zca t0 t1 t2 t3 t4 t5 t6 t7 a b0 b1 b2 b3 b4 b5 b6 b7) r):=by
 refine Za7 (Zca t0 t1 t2 t3 t4 t5 t6 t7 a b0 b1 b2 b3 b4 b5 b6 b7) ?_
 intro s0 rcl ih
 show ZD _ _ (lpW _ _ _ _ _ _ _)
 unfold ZC
 rw[Za9]
 conv=>rhs;whnf
 refine Zc rfl ?_ ?_<;>conv=>rhs;whnf
 ·refine Zm rfl rfl fun x1 hx1=>?_;conv=>rhs;whnf
  refine Zk _ Zlp rfl fun x2 hx2=>?_;conv=>rhs;whnf
  refine Zc rfl ?_ ?_<;>conv=>rhs;whnf
  ·exact Zb rfl
  ·exact Zf (ih _)
 ·exact Zb rfl
theorem Zer {t0 t1:Bool}{t2 t3:Bool}{t4 t5:Bool}{t6 t7:Bool}{a:List Int}{b0:List Int}{b1:List Int}{b2:List Zi}{b3:List Zp}{b4:List Int}{b5:List Int}{b6:List ZZ}{b7:Int}:∀r,(ZO a (fun z0=>Zb5 z0 b7))=some r→evD ctx 94 [(.d (zL t0 a)),(.d (D.fn 147 [(D.rptr [(D.rptr [(zL t1 b0),(zL t2 b1),(D.list t3 (List.map ZN b2)),(D.list t4 (List.map ZR b3)),(zL t5 b4),(zL t6 b5),(D.list t7 (List.map ZQ b6)),(Zd b7)])])]))]=some (Zcq r):=by
 show ZD _ (fun r rhs=>rhs=some (Zcq r)) _
 unfold ZO
 rw[ZaF ctx 94 Zx1 _ rfl rfl]
 conv=>rhs;whnf
 refine Zl (ZE _ _) ?_;conv=>rhs;whnf
 refine Ze _ (ZdX _) fun r3 hr3=>?_
 clear hr3
 rcases r3 with r3 | r3
 ·conv=>rhs;whnf
  exact Zb rfl
 ·conv=>rhs;whnf
  exact Zb rfl
def Zjb (r:Int):D:=(Zd r)
theorem Zml {t0 t1:Bool}{t2 t3:Bool}{t4 t5:Bool}{t6 t7 t8:Bool}{a0:List Int}{a1:List Int}{a2:List Zi}{a3:List Zp}{a4:List Int}{a5:List Int}{a6:List ZZ}{a7:Int}{b:List Int}{c:List Int}{d:Int}:∀r,(ZdR a7 b c d)=some r→evD ctx 95 [(.d (D.rptr [(zL t0 a0),(zL t1 a1),(D.list t2 (List.map ZN a2)),(D.list t3 (List.map ZR a3)),(zL t4 a4),(zL t5 a5),(D.list t6 (List.map ZQ a6)),(Zd a7)])),(.d (zL t7 b)),(.d (zL t8 c)),(.d (Zd d))]=some (Zjb r):=by
 show ZD _ (fun r rhs=>rhs=some (Zjb r)) _
 unfold ZdR
 rw[ZaF ctx 95 ZDl _ rfl rfl]
 conv=>rhs;whnf
 refine Zl (ZE _ _) ?_;conv=>rhs;whnf
 refine Zc rfl ?_ ?_<;>conv=>rhs;whnf
 ·refine Zm rfl rfl fun x0 hx0=>?_;conv=>rhs;whnf
  refine Zl (ZE _ _) ?_;conv=>rhs;whnf
  refine Zc rfl ?_ ?_
  ·exact ZI
  ·conv=>rhs;whnf
   refine Zm rfl rfl fun x1 hx1=>?_;conv=>rhs;whnf
   exact Zb rfl
 ·refine Zk _ Zer rfl fun x2 hx2=>?_;conv=>rhs;whnf
  refine Zm rfl rfl fun x3 hx3=>?_;conv=>rhs;whnf
  exact Zb rfl
def ZkK (r:Bool):D:=(D.bool r)
theorem Zgm {a:Int}:∀r,(ZdI a)=some r→evD ctx 190 [(.d (Zd a))]=some (ZkK r):=by
 show ZD _ (fun r rhs=>rhs=some (ZkK r)) _
 unfold ZdI
 rw[ZaF ctx 190 ZzY _ rfl rfl]
 conv=>rhs;whnf
 refine Zc rfl ?_ ?_<;>conv=>rhs;whnf
 ·exact Zb rfl
 ·refine Zc rfl ?_ ?_<;>conv=>rhs;whnf
  ·exact Zb rfl
  ·exact Zb rfl
def ZmT (r:Bool):D:=(D.bool r)
theorem Zqu {a:Zp}:∀r,(ZhP a)=some r→evD ctx 167 [(.d (D.agg [(D.bool a.steal),(Zd a.at_),(Zd a.top),(Zd a.bottom),(Zd a.got),(Zd a.end_)]))]=some (ZmT r):=by
 show ZD _ (fun r rhs=>rhs=some (ZmT r)) _
 unfold ZhP
 rw[ZaF ctx 167 Zyx _ rfl rfl]
 conv=>rhs;whnf
 refine Zc rfl ?_ ?_<;>conv=>rhs;whnf
 ·refine Zc rfl ?_ ?_<;>conv=>rhs;whnf
  ·refine Zc rfl ?_ ?_<;>conv=>rhs;whnf
   ·refine Zc rfl ?_ ?_<;>conv=>rhs;whnf
    ·refine Zc rfl ?_ ?_<;>conv=>rhs;whnf
     ·exact Zb rfl
     ·refine Zk _ Zgm rfl fun x0 hx0=>?_;conv=>rhs;whnf
      refine Zc rfl ?_ ?_<;>conv=>rhs;whnf
      ·exact Zb rfl
      ·refine Zk _ Zgm rfl fun x1 hx1=>?_;conv=>rhs;whnf
       refine Zc rfl ?_ ?_<;>conv=>rhs;whnf
       ·exact Zb rfl
       ·exact Zb rfl
    ·exact Zb rfl
   ·exact Zb rfl
  ·exact Zb rfl
 ·refine Zc rfl ?_ ?_<;>conv=>rhs;whnf
  ·refine Zc rfl ?_ ?_<;>conv=>rhs;whnf
   ·refine Zc rfl ?_ ?_<;>conv=>rhs;whnf
    ·refine Zc rfl ?_ ?_<;>conv=>rhs;whnf
     ·exact Zb rfl
     ·refine Zk _ Zgm rfl fun x2 hx2=>?_;conv=>rhs;whnf
      refine Zc rfl ?_ ?_<;>conv=>rhs;whnf
      ·exact Zb rfl
      ·refine Zk _ Zgm rfl fun x3 hx3=>?_;conv=>rhs;whnf
       refine Zc rfl ?_ ?_<;>conv=>rhs;whnf
       ·exact Zb rfl
       ·exact Zb rfl
    ·exact Zb rfl
   ·exact Zb rfl
  ·exact Zb rfl
def Zm2 (m0_0:Int) (m0_1:Int) (m1_0:Bool) (m1_1:Int) (m1_2:Int) (m1_3:Int) (m1_4:Int) (m1_5:Int) (m2_0:List Int):(Unit⊕Unit)→V×Zn
  | (.inl r)=>((.d (D.bool false)),[(.cells [(.sl 2 1),(.d (Zd m0_0)),(.d (Zd m0_1))]),(.cells [(.d (D.bool m1_0)),(.d (Zd m1_1)),(.d (Zd m1_2)),(.d (Zd m1_3)),(.d (Zd m1_4)),(.d (Zd m1_5))]),(.arr 1 (List.map Zd m2_0))])
  | (.inr r)=>((.d (D.bool true)),[(.cells [(.sl 2 1),(.d (Zd (w64 (m0_0+1)))),(.d (Zd m0_1))]),(.cells [(.d (D.bool m1_0)),(.d (Zd m1_1)),(.d (Zd m1_2)),(.d (Zd m1_3)),(.d (Zd m1_4)),(.d (Zd m1_5))]),(.arr 1 (List.map Zd m2_0))])
theorem ZlY {m0_0 m0_1:Int}{m1_0:Bool}{m1_1 m1_2:Int}{m1_3 m1_4 m1_5:Int}{m2_0:List Int}:∀r,(Zfa m0_0 m1_2)=some r→evW ctx 191 [(.ptr 0 0),(.ptr 1 0)] [(.cells [(.sl 2 1),(.d (Zd m0_0)),(.d (Zd m0_1))]),(.cells [(.d (D.bool m1_0)),(.d (Zd m1_1)),(.d (Zd m1_2)),(.d (Zd m1_3)),(.d (Zd m1_4)),(.d (Zd m1_5))]),(.arr 1 (List.map Zd m2_0))]=some ((Zm2 m0_0 m0_1 m1_0 m1_1 m1_2 m1_3 m1_4 m1_5 m2_0) r):=by
 show ZD _ (fun r rhs=>rhs=some ((Zm2 m0_0 m0_1 m1_0 m1_1 m1_2 m1_3 m1_4 m1_5 m2_0) r)) _
 unfold Zfa
 rw[ZcR ctx 191 ZAL _ _ rfl rfl]
 conv=>rhs;whnf
 refine Zc rfl ?_ ?_<;>conv=>rhs;whnf
 ·exact Zb rfl
 ·exact Zb rfl
def Zl5 (m0_0:Int) (m0_1:Int) (m1_0:Bool) (m1_1:Int) (m1_2:Int) (m1_3:Int) (m1_4:Int) (m1_5:Int) (m2_0:List Int):(Int×Int×Int×Int×Int×Int)→V×Zn
  | r=>((.d (D.tup [])),[(.cells [(.sl 2 1),(.d (Zd r.1)),(.d (Zd m0_1))]),(.cells [(.d (D.bool m1_0)),(.d (Zd r.2.1)),(.d (Zd r.2.2.1)),(.d (Zd r.2.2.2.1)),(.d (Zd r.2.2.2.2.1)),(.d (Zd r.2.2.2.2.2))]),(.arr 1 (List.map Zd m2_0))])
theorem ZpK {m0_0 m0_1:Int}{m1_0:Bool}{m1_1 m1_2:Int}{m1_3 m1_4 m1_5:Int}{m2_0:List Int}:∀r,(Zda m0_0 m0_1 m1_1 m1_2 m1_3 m1_4 m1_5 m2_0)=some r→evW ctx 168 [(.ptr 0 0),(.ptr 1 0)] [(.cells [(.sl 2 1),(.d (Zd m0_0)),(.d (Zd m0_1))]),(.cells [(.d (D.bool m1_0)),(.d (Zd m1_1)),(.d (Zd m1_2)),(.d (Zd m1_3)),(.d (Zd m1_4)),(.d (Zd m1_5))]),(.arr 1 (List.map Zd m2_0))]=some ((Zl5 m0_0 m0_1 m1_0 m1_1 m1_2 m1_3 m1_4 m1_5 m2_0) r):=by
 show ZD _ (fun r rhs=>rhs=some ((Zl5 m0_0 m0_1 m1_0 m1_1 m1_2 m1_3 m1_4 m1_5 m2_0) r)) _
 unfold Zda
 rw[ZcR ctx 168 ZAI _ _ rfl rfl]
 conv=>rhs;whnf
 refine Zc rfl ?_ ?_<;>conv=>rhs;whnf
 ·exact Zb rfl
 ·refine Zc rfl ?_ ?_<;>conv=>rhs;whnf
  ·refine Zc rfl ?_ ?_<;>conv=>rhs;whnf
   ·exact Zb rfl
   ·exact Zb rfl
  ·refine Zc rfl ?_ ?_<;>conv=>rhs;whnf
   ·refine Zk _ Zg1 rfl fun x0 hx0=>?_;conv=>rhs;whnf
    refine Zm rfl rfl fun x1 hx1=>?_;conv=>rhs;whnf
    refine Zh (Zr rfl hx1) ?_;conv=>rhs;whnf
    exact Zb rfl
   ·refine Ze _ ZlY fun x2 hx2=>?_
    clear hx2
    rcases x2 with x2 | x2
    ·conv=>rhs;whnf
     exact Zb rfl
    ·conv=>rhs;whnf
     exact Zb rfl
def ZnN (m0_0:Int) (m0_1:Int) (m1_0:Bool) (m1_1:Int) (m1_2:Int) (m1_3:Int) (m1_4:Int) (m1_5:Int) (m2_0:List Int):(Int×Int×Int×Int×Int×Int×Int)→V×Zn
  | r=>((.d (D.tup [])),[(.cells [(.sl 2 1),(.d (Zd r.1)),(.d (Zd r.2.1))]),(.cells [(.d (D.bool m1_0)),(.d (Zd r.2.2.1)),(.d (Zd r.2.2.2.1)),(.d (Zd r.2.2.2.2.1)),(.d (Zd r.2.2.2.2.2.1)),(.d (Zd r.2.2.2.2.2.2))]),(.arr 1 (List.map Zd m2_0))])
theorem Zro {m0_0 m0_1:Int}{m1_0:Bool}{m1_1 m1_2:Int}{m1_3 m1_4 m1_5:Int}{m2_0:List Int}:∀r,(Zdi m0_0 m0_1 m1_1 m1_2 m1_3 m1_4 m1_5 m2_0)=some r→evW ctx 169 [(.ptr 0 0),(.ptr 1 0)] [(.cells [(.sl 2 1),(.d (Zd m0_0)),(.d (Zd m0_1))]),(.cells [(.d (D.bool m1_0)),(.d (Zd m1_1)),(.d (Zd m1_2)),(.d (Zd m1_3)),(.d (Zd m1_4)),(.d (Zd m1_5))]),(.arr 1 (List.map Zd m2_0))]=some ((ZnN m0_0 m0_1 m1_0 m1_1 m1_2 m1_3 m1_4 m1_5 m2_0) r):=by
 show ZD _ (fun r rhs=>rhs=some ((ZnN m0_0 m0_1 m1_0 m1_1 m1_2 m1_3 m1_4 m1_5 m2_0) r)) _
 unfold Zdi
 rw[ZcR ctx 169 ZzM _ _ rfl rfl]
 conv=>rhs;whnf
 refine Zc rfl ?_ ?_<;>conv=>rhs;whnf
 ·exact Zb rfl
 ·refine Zc rfl ?_ ?_<;>conv=>rhs;whnf
  ·refine Zc rfl ?_ ?_<;>conv=>rhs;whnf
   ·refine Zk _ Zg1 rfl fun x0 hx0=>?_;conv=>rhs;whnf
    refine Zm rfl rfl fun x1 hx1=>?_;conv=>rhs;whnf
    refine Zh (Zr rfl hx1) ?_;conv=>rhs;whnf
    exact Zb rfl
   ·refine Zc rfl ?_ ?_<;>conv=>rhs;whnf
    ·exact Zb rfl
    ·exact Zb rfl
  ·refine Zc rfl ?_ ?_<;>conv=>rhs;whnf
   ·refine Ze _ ZlY fun x2 hx2=>?_
    clear hx2
    rcases x2 with x2 | x2
    ·conv=>rhs;whnf
     exact Zb rfl
    ·conv=>rhs;whnf
     refine Zk _ Zg1 rfl fun x3 hx3=>?_;conv=>rhs;whnf
     refine Zm rfl rfl fun x4 hx4=>?_;conv=>rhs;whnf
     refine Zh (Zr rfl hx4) ?_;conv=>rhs;whnf
     exact Zb rfl
   ·refine Zc rfl ?_ ?_<;>conv=>rhs;whnf
    ·exact Zb rfl
    ·exact Zb rfl
def Zm0 (r:(Zi×Zp×Int)):D:=(D.tup [(D.agg [(zL true r.1.ring),(Zd r.1.top),(Zd r.1.bottom)]),(D.agg [(D.bool r.2.1.steal),(Zd r.2.1.at_),(Zd r.2.1.top),(Zd r.2.1.bottom),(Zd r.2.1.got),(Zd r.2.1.end_)]),(Zd r.2.2)])
theorem Zqi {t0:Bool}{a:Zi}{b:Zp}:∀r,(Zcu a b)=some r→evD ctx 116 [(.d (D.agg [(zL t0 a.ring),(Zd a.top),(Zd a.bottom)])),(.d (D.agg [(D.bool b.steal),(Zd b.at_),(Zd b.top),(Zd b.bottom),(Zd b.got),(Zd b.end_)]))]=some (Zm0 r):=by
 show ZD _ (fun r rhs=>rhs=some (Zm0 r)) _
 unfold Zcu
 rw[ZaF ctx 116 ZAN _ rfl rfl]
 conv=>rhs;whnf
 refine Zk _ ZfM rfl fun x0 hx0=>?_;conv=>rhs;whnf
 refine Zc rfl ?_ ?_<;>conv=>rhs;whnf
 ·exact Zb rfl
 ·refine Zk _ Zqu rfl fun x1 hx1=>?_;conv=>rhs;whnf
  refine Zc rfl ?_ ?_<;>conv=>rhs;whnf
  ·refine Ze _ ZmM fun x2 hx2=>?_;conv=>rhs;whnf
   refine Zc rfl ?_ ?_<;>conv=>rhs;whnf
   ·refine Ze _ ZpK fun x3 hx3=>?_;conv=>rhs;whnf
    refine Zk _ ZfM rfl fun x4 hx4=>?_;conv=>rhs;whnf
    refine Zc rfl ?_ ?_<;>conv=>rhs;whnf
    ·exact Zb rfl
    ·exact Zb rfl
   ·refine Ze _ Zro fun x5 hx5=>?_;conv=>rhs;whnf
    refine Zk _ ZfM rfl fun x6 hx6=>?_;conv=>rhs;whnf
    refine Zc rfl ?_ ?_<;>conv=>rhs;whnf
    ·exact Zb rfl
    ·exact Zb rfl
  ·exact Zb rfl
def ZiQ (t0:Bool) (t1:Bool) (b:Int) (c:Int) (m0_0:List Int) (m0_1:List ZZ) (m0_2:Int) (m1_0:List Int) (m2_0:List Int) (m3_0:List Zi) (m4_0:List Zp) (m5_0:List Int):(List Zp)→V×Zn
  | r=>((.d (D.tup [])),[(.cells [(.sl 1 1),(.sl 2 1),(.sl 3 3),(.sl 4 6),(.sl 5 1),(.d (zL t0 m0_0)),(.d (D.list t1 (List.map ZQ m0_1))),(.d (Zd m0_2))]),(.arr 1 (List.map Zd m1_0)),(.arr 1 (List.map Zd m2_0)),(.arr 3 (List.map ZN m3_0)),(.arr 6 (List.map ZR r)),(.arr 1 (List.map Zd (List.set m5_0 b.toNat c)))])
theorem Zgh {t0 t1:Bool}{b c:Int}{m0_0:List Int}{m0_1:List ZZ}{m0_2:Int}{m1_0:List Int}{m2_0:List Int}{m3_0:List Zi}{m4_0:List Zp}{m5_0:List Int}:∀r,(ZcX b c m4_0 m5_0)=some r→evW ctx 117 [(.ptr 0 0),(.d (Zd b)),(.d (Zd c))] [(.cells [(.sl 1 1),(.sl 2 1),(.sl 3 3),(.sl 4 6),(.sl 5 1),(.d (zL t0 m0_0)),(.d (D.list t1 (List.map ZQ m0_1))),(.d (Zd m0_2))]),(.arr 1 (List.map Zd m1_0)),(.arr 1 (List.map Zd m2_0)),(.arr 3 (List.map ZN m3_0)),(.arr 6 (List.map ZR m4_0)),(.arr 1 (List.map Zd m5_0))]=some ((ZiQ t0 t1 b c m0_0 m0_1 m0_2 m1_0 m2_0 m3_0 m4_0 m5_0) r):=by
 show ZD _ (fun r rhs=>rhs=some ((ZiQ t0 t1 b c m0_0 m0_1 m0_2 m1_0 m2_0 m3_0 m4_0 m5_0) r)) _
 unfold ZcX
 rw[ZcR ctx 117 Zyk _ _ rfl rfl]
 conv=>rhs;whnf
 refine Zm rfl rfl fun x0 hx0=>?_;conv=>rhs;whnf
 refine Zh (Zr rfl hx0) ?_;conv=>rhs;whnf
 refine Zl (Zaq Zd m5_0 b.toNat c) ?_;conv=>rhs;whnf
 refine Zc rfl ?_ ?_<;>conv=>rhs;whnf
 ·refine Zm rfl rfl fun x1 hx1=>?_;conv=>rhs;whnf
  refine Zh (Zr rfl hx1) ?_;conv=>rhs;whnf
  refine Zl (Zaq ZR m4_0 b.toNat (Zp.mk true 0 0 0 0 0)) ?_;conv=>rhs;whnf
  exact Zb rfl
 ·refine Zm rfl rfl fun x2 hx2=>?_;conv=>rhs;whnf
  refine Zh (Zr rfl hx2) ?_;conv=>rhs;whnf
  refine Zl (Zaq ZR m4_0 b.toNat (Zp.mk false 0 0 0 0 0)) ?_;conv=>rhs;whnf
  exact Zb rfl
def Zji (t0:Bool) (t1:Bool) (b:Int) (m0_0:List Int) (m0_1:List ZZ) (m0_2:Int) (m1_0:List Int) (m2_0:List Int) (m3_0:List Zi) (m4_0:List Zp) (m5_0:List Int):(Int×(List Int)×(List Zi)×(List Zp)×(List Int))→V×Zn
  | r=>((.d (Zd r.1)),[(.cells [(.sl 1 1),(.sl 2 1),(.sl 3 3),(.sl 4 6),(.sl 5 1),(.d (zL t0 m0_0)),(.d (D.list t1 (List.map ZQ m0_1))),(.d (Zd m0_2))]),(.arr 1 (List.map Zd r.2.1)),(.arr 1 (List.map Zd m2_0)),(.arr 3 (List.map ZN r.2.2.1)),(.arr 6 (List.map ZR r.2.2.2.1)),(.arr 1 (List.map Zd r.2.2.2.2))])
theorem ZiO {t0 t1:Bool}{b:Int}{m0_0:List Int}{m0_1:List ZZ}{m0_2:Int}{m1_0:List Int}{m2_0:List Int}{m3_0:List Zi}{m4_0:List Zp}{m5_0:List Int}:∀r,(Zbx b m0_0 m0_1 m1_0 m2_0 m3_0 m4_0 m5_0)=some r→evW ctx 67 [(.ptr 0 0),(.d (Zd b))] [(.cells [(.sl 1 1),(.sl 2 1),(.sl 3 3),(.sl 4 6),(.sl 5 1),(.d (zL t0 m0_0)),(.d (D.list t1 (List.map ZQ m0_1))),(.d (Zd m0_2))]),(.arr 1 (List.map Zd m1_0)),(.arr 1 (List.map Zd m2_0)),(.arr 3 (List.map ZN m3_0)),(.arr 6 (List.map ZR m4_0)),(.arr 1 (List.map Zd m5_0))]=some ((Zji t0 t1 b m0_0 m0_1 m0_2 m1_0 m2_0 m3_0 m4_0 m5_0) r):=by
 show ZD _ (fun r rhs=>rhs=some ((Zji t0 t1 b m0_0 m0_1 m0_2 m1_0 m2_0 m3_0 m4_0 m5_0) r)) _
 unfold Zbx
 rw[ZcR ctx 67 ZC0 _ _ rfl rfl]
 conv=>rhs;whnf
 refine Zl (ZE _ _) ?_;conv=>rhs;whnf
 refine Zm rfl rfl fun x0 hx0=>?_;conv=>rhs;whnf
 refine Zh (Zr rfl hx0) ?_;conv=>rhs;whnf
 refine Zc rfl ?_ ?_
 ·exact ZI
 ·conv=>rhs;whnf
  refine Zm rfl rfl fun x1 hx1=>?_;conv=>rhs;whnf
  refine Zh (Zr rfl hx1) ?_;conv=>rhs;whnf
  refine Zm rfl rfl fun x2 hx2=>?_;conv=>rhs;whnf
  refine Zh (Zr rfl hx2) ?_;conv=>rhs;whnf
  refine Zk _ Zqi rfl fun x3 hx3=>?_;conv=>rhs;whnf
  refine Zc rfl ?_ ?_<;>conv=>rhs;whnf
  ·exact Zb rfl
  ·refine Zh (ZaX rfl hx1) ?_;conv=>rhs;whnf
   refine Zh (Zr rfl hx1) ?_;conv=>rhs;whnf
   refine Zl (Zaq ZN m3_0 (Int.tmod (w64 (b+x0)) (m1_0.length:Int)).toNat x3.1) ?_;conv=>rhs;whnf
   refine Zh (ZaX rfl hx2) ?_;conv=>rhs;whnf
   refine Zh (Zr rfl hx2) ?_;conv=>rhs;whnf
   refine Zl (Zaq ZR m4_0 b.toNat x3.2.1) ?_;conv=>rhs;whnf
   refine Zc rfl ?_ ?_<;>conv=>rhs;whnf
   ·refine Zk _ Zi5 rfl fun x4 hx4=>?_;conv=>rhs;whnf
    refine Zk _ Zbn rfl fun x5 hx5=>?_;conv=>rhs;whnf
    refine Zc rfl ?_ ?_<;>conv=>rhs;whnf
    ·refine Zm rfl rfl fun x6 hx6=>?_;conv=>rhs;whnf
     refine Zh (Zr rfl hx6) ?_;conv=>rhs;whnf
     refine Zl (Zaq Zd m1_0 b.toNat x3.2.1.got) ?_;conv=>rhs;whnf
     refine Ze _ Zgh fun x7 hx7=>?_;conv=>rhs;whnf
     exact Zb rfl
    ·exact Zb rfl
   ·refine Zc rfl ?_ ?_<;>conv=>rhs;whnf
    ·refine Zh (ZaX rfl hx0) ?_;conv=>rhs;whnf
     refine Zh (Zr rfl hx0) ?_;conv=>rhs;whnf
     refine Zc rfl ?_ ?_
     ·exact ZI
     ·conv=>rhs;whnf
      refine Ze _ Zgh fun x8 hx8=>?_;conv=>rhs;whnf
      exact Zb rfl
    ·refine Zc rfl ?_ ?_<;>conv=>rhs;whnf
     ·refine Zh (ZaX rfl hx0) ?_;conv=>rhs;whnf
      refine Zh (Zr rfl hx0) ?_;conv=>rhs;whnf
      refine Zc rfl ?_ ?_
      ·exact ZI
      ·conv=>rhs;whnf
       refine Ze _ Zgh fun x9 hx9=>?_;conv=>rhs;whnf
       exact Zb rfl
     ·exact Zb rfl
def Zjf (t0:Bool) (t1:Bool) (t2:Bool) (b:List Int) (m0_0:List Int) (m0_1:List ZZ) (m0_2:Int) (m1_0:List Int) (m2_0:List Int) (m3_0:List Zi) (m4_0:List Zp) (m5_0:List Int):(Int×Int×Int×(List Int)×(List Zi)×(List Zp)×(List Int))→V×Zn
  | r=>((.d (D.tup [(Zd r.1),(Zd r.2.1)])),[(.cells [(.sl 1 1),(.sl 2 1),(.sl 3 3),(.sl 4 6),(.sl 5 1),(.d (zL t1 m0_0)),(.d (D.list t2 (List.map ZQ m0_1))),(.d (Zd r.2.2.1))]),(.arr 1 (List.map Zd r.2.2.2.1)),(.arr 1 (List.map Zd m2_0)),(.arr 3 (List.map ZN r.2.2.2.2.1)),(.arr 6 (List.map ZR r.2.2.2.2.2.1)),(.arr 1 (List.map Zd r.2.2.2.2.2.2))])
def Zh3 (t0:Bool) (t1:Bool) (t2:Bool) (b:List Int) (m0_0:List Int) (m0_1:List ZZ) (m2_0:List Int):((Int×Int×Int×(List Int)×(List Zi)×(List Zp)×(List Int))⊕(Int×Int×(List Int)×(List Zi)×(List Zp)×(List Int)))→Ex×List V×Zn
  | (.inl r)=>(.ret,[(.d (Zd 0)),(.d (Zd r.1)),(.d (Zd r.2.1))],[(.cells [(.sl 1 1),(.sl 2 1),(.sl 3 3),(.sl 4 6),(.sl 5 1),(.d (zL t1 m0_0)),(.d (D.list t2 (List.map ZQ m0_1))),(.d (Zd r.2.2.1))]),(.arr 1 (List.map Zd r.2.2.2.1)),(.arr 1 (List.map Zd m2_0)),(.arr 3 (List.map ZN r.2.2.2.2.1)),(.arr 6 (List.map ZR r.2.2.2.2.2.1)),(.arr 1 (List.map Zd r.2.2.2.2.2.2))])
  | (.inr r)=>(.exit 0,[.bad,.bad,(.d (Zd r.1))],[(.cells [(.sl 1 1),(.sl 2 1),(.sl 3 3),(.sl 4 6),(.sl 5 1),(.d (zL t1 m0_0)),(.d (D.list t2 (List.map ZQ m0_1))),(.d (Zd r.2.1))]),(.arr 1 (List.map Zd r.2.2.1)),(.arr 1 (List.map Zd m2_0)),(.arr 3 (List.map ZN r.2.2.2.1)),(.arr 6 (List.map ZR r.2.2.2.2.1)),(.arr 1 (List.map Zd r.2.2.2.2.2))])
theorem Zld {t0 t1 t2:Bool}{b:List Int}{m0_0:List Int}{m0_1:List ZZ}{m2_0:List Int}:∀(s1:Int×(List Int)×Int×(List Int)×(List Zi)×(List Zp)×(List Int)) (r:((Int×Int×Int×(List Int)×(List Zi)×(List Zp)×(List Int))⊕(Int×Int×(List Int)×(List Zi)×(List Zp)×(List Int)))),lp (Zc0 b m0_0 m0_1 m2_0) s1=some r→lpW ctx 6 [0,1,6,7] [4,5,6] Zza [(.ptr 0 0),(.d (zL t0 b)),(.d (Zd s1.1)),(.d (zL true s1.2.1))] [(.cells [(.sl 1 1),(.sl 2 1),(.sl 3 3),(.sl 4 6),(.sl 5 1),(.d (zL t1 m0_0)),(.d (D.list t2 (List.map ZQ m0_1))),(.d (Zd s1.2.2.1))]),(.arr 1 (List.map Zd s1.2.2.2.1)),(.arr 1 (List.map Zd m2_0)),(.arr 3 (List.map ZN s1.2.2.2.2.1)),(.arr 6 (List.map ZR s1.2.2.2.2.2.1)),(.arr 1 (List.map Zd s1.2.2.2.2.2.2))]=some ((Zh3 t0 t1 t2 b m0_0 m0_1 m2_0) r):=by
 refine Za7 (Zh3 t0 t1 t2 b m0_0 m0_1 m2_0) ?_
 intro s1 rcl ih
 show ZD _ _ (lpW _ _ _ _ _ _ _)
 unfold Zc0
 rw[Za9]
 conv=>rhs;whnf
 refine Zl (ZE _ _) ?_;conv=>rhs;whnf
 refine Zc rfl ?_ ?_<;>conv=>rhs;whnf
 ·refine Zk _ Zml rfl fun x2 hx2=>?_;conv=>rhs;whnf
  refine Ze _ ZiO fun x3 hx3=>?_;conv=>rhs;whnf
  refine Zc rfl ?_ ?_<;>conv=>rhs;whnf
  ·exact Zb rfl
  ·refine Zk _ Zgc rfl fun x4 hx4=>?_;conv=>rhs;whnf
   exact Zf (ih _)
 ·exact Zb rfl
theorem Zmk {t0 t1 t2:Bool}{b:List Int}{m0_0:List Int}{m0_1:List ZZ}{m0_2:Int}{m1_0:List Int}{m2_0:List Int}{m3_0:List Zi}{m4_0:List Zp}{m5_0:List Int}:∀r,(Ze5 b m0_0 m0_1 m1_0 m2_0 m3_0 m4_0 m5_0)=some r→evW ctx 46 [(.ptr 0 0),(.d (zL t0 b))] [(.cells [(.sl 1 1),(.sl 2 1),(.sl 3 3),(.sl 4 6),(.sl 5 1),(.d (zL t1 m0_0)),(.d (D.list t2 (List.map ZQ m0_1))),(.d (Zd m0_2))]),(.arr 1 (List.map Zd m1_0)),(.arr 1 (List.map Zd m2_0)),(.arr 3 (List.map ZN m3_0)),(.arr 6 (List.map ZR m4_0)),(.arr 1 (List.map Zd m5_0))]=some ((Zjf t0 t1 t2 b m0_0 m0_1 m0_2 m1_0 m2_0 m3_0 m4_0 m5_0) r):=by
 show ZD _ (fun r rhs=>rhs=some ((Zjf t0 t1 t2 b m0_0 m0_1 m0_2 m1_0 m2_0 m3_0 m4_0 m5_0) r)) _
 unfold Ze5
 rw[ZcR ctx 46 ZDj _ _ rfl rfl]
 conv=>rhs;whnf
 refine Zk _ Zgc rfl fun x0 hx0=>?_;conv=>rhs;whnf
 refine Ze _ (Zld _) fun r5 hr5=>?_
 clear hr5
 rcases r5 with r5 | r5
 ·conv=>rhs;whnf
  exact Zb rfl
 ·conv=>rhs;whnf
  exact Zb rfl
def Zm6 (r:(Zao×Int×Int)):D:=(D.tup [(D.agg [(zL true r.1.crew.on),(zL true r.1.crew.left),(D.list true (List.map ZN r.1.deques)),(D.list true (List.map ZR r.1.takers)),(zL true r.1.from_)]),(Zd r.2.1),(Zd r.2.2)])
theorem ZlV {t0 t1:Bool}{t2 t3:Bool}{t4 t5:Bool}{t6 t7:Bool}{a:ZB}{b:Zao}{c:List Int}:∀r,(Zf0 a b c)=some r→evD ctx 21 [(.d (D.agg [(zL t0 a.work),(D.list t1 (List.map ZQ a.edges))])),(.d (D.agg [(zL t2 b.crew.on),(zL t3 b.crew.left),(D.list t4 (List.map ZN b.deques)),(D.list t5 (List.map ZR b.takers)),(zL t6 b.from_)])),(.d (zL t7 c))]=some (Zm6 r):=by
 show ZD _ (fun r rhs=>rhs=some (Zm6 r)) _
 unfold Zf0
 rw[ZaF ctx 21 ZDF _ rfl rfl]
 conv=>rhs;whnf
 refine Zk _ ZgT rfl fun x0 hx0=>?_;conv=>rhs;whnf
 refine Zc rfl ?_ ?_<;>conv=>rhs;whnf
 ·exact Zb rfl
 ·refine Ze _ Zj1 fun x1 hx1=>?_;conv=>rhs;whnf
  refine Ze _ Zmk fun x2 hx2=>?_;conv=>rhs;whnf
  refine Zc rfl ?_ ?_<;>conv=>rhs;whnf
  ·exact Zb rfl
  ·exact Zb rfl
def Zpe (t0:Bool) (t1:Bool) (a:Z6):Unit→V×Zn
  | r=>((.agg [(.sl 0 1),(.sl 1 1)]),[(.arr 1 (List.map Zd a.on)),(.arr 1 (List.map Zd a.left))])
theorem Zsf {t0 t1:Bool}{a:Z6}:∀r,(Zls a)=some r→evW ctx 148 [(.d (D.agg [(zL t0 a.on),(zL t1 a.left)]))] []=some ((Zpe t0 t1 a) r):=by
 show ZD _ (fun r rhs=>rhs=some ((Zpe t0 t1 a) r)) _
 unfold Zls
 rw[ZcR ctx 148 ZAC _ _ rfl rfl]
 conv=>rhs;whnf
 refine Ze _ Zay fun x0 hx0=>?_;conv=>rhs;whnf
 refine Ze _ Zay fun x1 hx1=>?_;conv=>rhs;whnf
 exact Zb rfl
def Zjh (r:Int):D:=(Zd r)
theorem ZmE {a:Int}:∀r,(Zh7 a)=some r→evD ctx 203 [(.d (D.int .u64 a))]=some (Zjh r):=by
 show ZD _ (fun r rhs=>rhs=some (Zjh r)) _
 unfold Zh7
 rw[ZaF ctx 203 ZA0 _ rfl rfl]
 conv=>rhs;whnf
 refine Zc rfl ?_ ?_<;>conv=>rhs;whnf
 ·refine Zaw rfl ?_;conv=>rhs;whnf
  refine Zc rfl ?_ ?_<;>conv=>rhs;whnf
  ·refine Zaw rfl ?_;conv=>rhs;whnf
   refine Zc rfl ?_ ?_<;>conv=>rhs;whnf
   ·refine Zaw rfl ?_;conv=>rhs;whnf
    refine Zc rfl ?_ ?_
    ·conv=>rhs;whnf
     refine ZiA rfl fun x0 hx0=>?_;conv=>rhs;whnf
     exact Zb rfl
    ·exact ZI
   ·refine Zc rfl ?_ ?_
    ·conv=>rhs;whnf
     refine ZiA rfl fun x1 hx1=>?_;conv=>rhs;whnf
     exact Zb rfl
    ·exact ZI
  ·refine Zc rfl ?_ ?_<;>conv=>rhs;whnf
   ·refine Zaw rfl ?_;conv=>rhs;whnf
    refine Zc rfl ?_ ?_
    ·conv=>rhs;whnf
     refine ZiA rfl fun x2 hx2=>?_;conv=>rhs;whnf
     exact Zb rfl
    ·exact ZI
   ·refine Zc rfl ?_ ?_
    ·conv=>rhs;whnf
     refine ZiA rfl fun x3 hx3=>?_;conv=>rhs;whnf
     exact Zb rfl
    ·exact ZI
 ·refine Zc rfl ?_ ?_<;>conv=>rhs;whnf
  ·refine Zaw rfl ?_;conv=>rhs;whnf
   refine Zc rfl ?_ ?_<;>conv=>rhs;whnf
   ·refine Zaw rfl ?_;conv=>rhs;whnf
    refine Zc rfl ?_ ?_
    ·conv=>rhs;whnf
     refine ZiA rfl fun x4 hx4=>?_;conv=>rhs;whnf
     exact Zb rfl
    ·exact ZI
   ·refine Zc rfl ?_ ?_
    ·conv=>rhs;whnf
     refine ZiA rfl fun x5 hx5=>?_;conv=>rhs;whnf
     exact Zb rfl
    ·exact ZI
  ·refine Zc rfl ?_ ?_<;>conv=>rhs;whnf
   ·refine Zaw rfl ?_;conv=>rhs;whnf
    refine Zc rfl ?_ ?_
    ·conv=>rhs;whnf
     refine ZiA rfl fun x6 hx6=>?_;conv=>rhs;whnf
     exact Zb rfl
    ·exact ZI
   ·refine Zc rfl ?_ ?_
    ·conv=>rhs;whnf
     refine ZiA rfl fun x7 hx7=>?_;conv=>rhs;whnf
     exact Zb rfl
    ·exact ZI
def Zkh (r:Int):D:=(Zd r)
theorem Zj0 {a:Int}:∀r,(ZdW a)=some r→evD ctx 179 [(.d (D.int .u64 a))]=some (Zkh r):=by
 show ZD _ (fun r rhs=>rhs=some (Zkh r)) _
 unfold ZdW
 rw[ZaF ctx 179 ZAY _ rfl rfl]
 conv=>rhs;whnf
 refine Zk _ ZmE rfl fun x0 hx0=>?_;conv=>rhs;whnf
 exact Zb rfl
def Zkj (r:Bool):D:=(D.bool r)
theorem ZjP {a:Int}:∀r,(Zf4 a)=some r→evD ctx 217 [(.d (Zd a))]=some (Zkj r):=by
 show ZD _ (fun r rhs=>rhs=some (Zkj r)) _
 unfold Zf4
 rw[ZaF ctx 217 Zyt _ rfl rfl]
 conv=>rhs;whnf
 refine Zc rfl ?_ ?_<;>conv=>rhs;whnf
 ·exact Zb rfl
 ·exact Zb rfl
def ZkX (r:Bool):D:=(D.bool r)
theorem ZK {a b:Int}:∀r,(ZU a b)=some r→evD ctx 199 [(.d (Zd a)),(.d (Zd b))]=some (ZkX r):=by
 show ZD _ (fun r rhs=>rhs=some (ZkX r)) _
 unfold ZU
 rw[ZaF ctx 199 ZzD _ rfl rfl]
 conv=>rhs;whnf
 refine Zk _ ZjP rfl fun x0 hx0=>?_;conv=>rhs;whnf
 refine Zc rfl ?_ ?_<;>conv=>rhs;whnf
 ·refine Zk _ ZjP rfl fun x1 hx1=>?_;conv=>rhs;whnf
  refine Zc rfl ?_ ?_<;>conv=>rhs;whnf
  ·refine Zc rfl ?_ ?_<;>conv=>rhs;whnf
   ·exact Zb rfl
   ·exact Zb rfl
  ·exact Zb rfl
 ·refine Zc rfl ?_ ?_<;>conv=>rhs;whnf
  ·exact Zb rfl
  ·exact Zb rfl
def Zed (b:Int) (c:Int) (m0_0:List Int):(List Int)→V×Zn
  | r=>((.d (D.tup [])),[(.arr 1 (List.map Zd r))])
def ZdJ (b:Int) (c:Int) (s0:Int×(List Int)):(List Int)→Ex×List V×Zn
  | r=>(.exit 2,[(.sl 0 1),(.d (Zd b)),(.d (Zd c)),(.d (Zd s0.1))],[(.arr 1 (List.map Zd r))])
theorem Zgt {b c:Int}{s0:Int×(List Int)}:∀(s1:Int×(List Int)) (r:List Int),lp (Zbb b) s1=some r→lpW ctx 1 [0,1,2,6,7] [0,1,2,6] Zwc [(.sl 0 1),(.d (Zd b)),(.d (Zd c)),(.d (Zd s0.1)),(.d (Zd s1.1))] [(.arr 1 (List.map Zd s1.2))]=some ((ZdJ b c s0) r):=by
 refine Za7 (ZdJ b c s0) ?_
 intro s1 rcl ih
 show ZD _ _ (lpW _ _ _ _ _ _ _)
 unfold Zbb
 rw[Za9]
 conv=>rhs;whnf
 refine Zc rfl ?_ ?_<;>conv=>rhs;whnf
 ·refine Zm rfl rfl fun x2 hx2=>?_;conv=>rhs;whnf
  refine Zh (Zr rfl hx2) ?_;conv=>rhs;whnf
  refine Zm rfl rfl fun x3 hx3=>?_;conv=>rhs;whnf
  refine Zh (Zr rfl hx3) ?_;conv=>rhs;whnf
  refine Zk _ ZK rfl fun x4 hx4=>?_;conv=>rhs;whnf
  refine Zc rfl ?_ ?_<;>conv=>rhs;whnf
  ·refine Zh (ZaX rfl hx3) ?_;conv=>rhs;whnf
   refine Zh (Zr rfl hx3) ?_;conv=>rhs;whnf
   refine Zh (ZaX rfl hx2) ?_;conv=>rhs;whnf
   refine Zh (Zr rfl hx2) ?_;conv=>rhs;whnf
   refine Zh (ZaX rfl hx2) ?_;conv=>rhs;whnf
   refine Zh (Zr rfl hx2) ?_;conv=>rhs;whnf
   refine Zl (Zaq Zd s1.2 s1.1.toNat x3) ?_;conv=>rhs;whnf
   refine Zm rfl rfl fun x5 hx5=>?_;conv=>rhs;whnf
   refine Zh (Zr rfl hx5) ?_;conv=>rhs;whnf
   refine Zl (Zaq Zd (List.set s1.2 s1.1.toNat x3) (w64 (s1.1-1)).toNat x2) ?_;conv=>rhs;whnf
   exact Zf (ih _)
  ·exact Zb rfl
 ·exact Zb rfl
def ZdH (b:Int) (c:Int):(List Int)→Ex×List V×Zn
  | r=>(.exit 0,[],[(.arr 1 (List.map Zd r))])
theorem Zgv {b c:Int}:∀(s0:Int×(List Int)) (r:List Int),lp (Zba b c) s0=some r→lpW ctx 1 [0,1,2,6] [] Zwd [(.sl 0 1),(.d (Zd b)),(.d (Zd c)),(.d (Zd s0.1))] [(.arr 1 (List.map Zd s0.2))]=some ((ZdH b c) r):=by
 refine Za7 (ZdH b c) ?_
 intro s0 rcl ih
 show ZD _ _ (lpW _ _ _ _ _ _ _)
 unfold Zba
 rw[Za9]
 conv=>rhs;whnf
 refine Zc rfl ?_ ?_<;>conv=>rhs;whnf
 ·refine Ze _ (Zgt _) fun r6 hr6=>?_;conv=>rhs;whnf
  exact Zf (ih _)
 ·exact Zb rfl
theorem ZbK {b c:Int}{m0_0:List Int}:∀r,(Zaj b c m0_0)=some r→evW ctx 193 [(.sl 0 1),(.d (Zd b)),(.d (Zd c))] [(.arr 1 (List.map Zd m0_0))]=some ((Zed b c m0_0) r):=by
 show ZD _ (fun r rhs=>rhs=some ((Zed b c m0_0) r)) _
 unfold Zaj
 rw[ZcR ctx 193 Zy7 _ _ rfl rfl]
 conv=>rhs;whnf
 refine Ze _ (Zgv _) fun r7 hr7=>?_;conv=>rhs;whnf
 exact Zb rfl
def ZfC (b:Int) (c:Int) (d:Int) (m0_0:List Int):(List Int)→V×Zn
  | r=>((.d (D.tup [])),[(.arr 1 (List.map Zd r))])
def ZeK (c:Int) (d:Int):((List Int)⊕(List Int))→Ex×List V×Zn
  | (.inl r)=>(.exit 0,[],[(.arr 1 (List.map Zd r))])
  | (.inr r)=>(.ret,[],[(.arr 1 (List.map Zd r))])
theorem Zhu {c d:Int}:∀(s0:Int×(List Int)) (r:((List Int)⊕(List Int))),lp (ZbI c d) s0=some r→lpW ctx 1 [0,2,3,8] [] ZwY [(.sl 0 1),(.d (Zd c)),(.d (Zd d)),(.d (Zd s0.1))] [(.arr 1 (List.map Zd s0.2))]=some ((ZeK c d) r):=by
 refine Za7 (ZeK c d) ?_
 intro s0 rcl ih
 show ZD _ _ (lpW _ _ _ _ _ _ _)
 unfold ZbI
 rw[Za9]
 conv=>rhs;whnf
 refine Zc rfl ?_ ?_<;>conv=>rhs;whnf
 ·exact Zb rfl
 ·refine Zc rfl ?_ ?_<;>conv=>rhs;whnf
  ·refine Zm rfl rfl fun x1 hx1=>?_;conv=>rhs;whnf
   refine Zh (Zr rfl hx1) ?_;conv=>rhs;whnf
   refine Zm rfl rfl fun x2 hx2=>?_;conv=>rhs;whnf
   refine Zh (Zr rfl hx2) ?_;conv=>rhs;whnf
   refine Zk _ ZK rfl fun x3 hx3=>?_;conv=>rhs;whnf
   refine Zc rfl ?_ ?_<;>conv=>rhs;whnf
   ·refine Zm rfl rfl fun x4 hx4=>?_;conv=>rhs;whnf
    refine Zh (Zr rfl hx4) ?_;conv=>rhs;whnf
    refine Zm rfl rfl fun x5 hx5=>?_;conv=>rhs;whnf
    refine Zh (Zr rfl hx5) ?_;conv=>rhs;whnf
    refine Zk _ ZK rfl fun x6 hx6=>?_;conv=>rhs;whnf
    refine Zc rfl ?_ ?_<;>conv=>rhs;whnf
    ·refine Zh (ZaX rfl hx5) ?_;conv=>rhs;whnf
     refine Zh (Zr rfl hx5) ?_;conv=>rhs;whnf
     refine Zh (ZaX rfl hx4) ?_;conv=>rhs;whnf
     refine Zh (Zr rfl hx4) ?_;conv=>rhs;whnf
     refine Zh (ZaX rfl hx4) ?_;conv=>rhs;whnf
     refine Zh (Zr rfl hx4) ?_;conv=>rhs;whnf
     refine Zl (Zaq Zd s0.2 (w64 (d+s0.1)).toNat x5) ?_;conv=>rhs;whnf
     refine Zm rfl rfl fun x7 hx7=>?_;conv=>rhs;whnf
     refine Zh (Zr rfl hx7) ?_;conv=>rhs;whnf
     refine Zl (Zaq Zd (List.set s0.2 (w64 (d+s0.1)).toNat x5) (w64 (d+(w64 ((w64 ((w64 (2*s0.1))+1))+1)))).toNat x4) ?_;conv=>rhs;whnf
     exact Zf (ih _)
    ·exact Zb rfl
   ·refine Zm rfl rfl fun x8 hx8=>?_;conv=>rhs;whnf
    refine Zh (Zr rfl hx8) ?_;conv=>rhs;whnf
    refine Zh (ZaX rfl hx1) ?_;conv=>rhs;whnf
    refine Zh (Zr rfl hx1) ?_;conv=>rhs;whnf
    refine Zk _ ZK rfl fun x9 hx9=>?_;conv=>rhs;whnf
    refine Zc rfl ?_ ?_<;>conv=>rhs;whnf
    ·refine Zh (ZaX rfl hx1) ?_;conv=>rhs;whnf
     refine Zh (Zr rfl hx1) ?_;conv=>rhs;whnf
     refine Zh (ZaX rfl hx8) ?_;conv=>rhs;whnf
     refine Zh (Zr rfl hx8) ?_;conv=>rhs;whnf
     refine Zh (ZaX rfl hx8) ?_;conv=>rhs;whnf
     refine Zh (Zr rfl hx8) ?_;conv=>rhs;whnf
     refine Zl (Zaq Zd s0.2 (w64 (d+s0.1)).toNat x1) ?_;conv=>rhs;whnf
     refine Zm rfl rfl fun x10 hx10=>?_;conv=>rhs;whnf
     refine Zh (Zr rfl hx10) ?_;conv=>rhs;whnf
     refine Zl (Zaq Zd (List.set s0.2 (w64 (d+s0.1)).toNat x1) (w64 (d+(w64 ((w64 (2*s0.1))+1)))).toNat x8) ?_;conv=>rhs;whnf
     exact Zf (ih _)
    ·exact Zb rfl
  ·refine Zm rfl rfl fun x11 hx11=>?_;conv=>rhs;whnf
   refine Zh (Zr rfl hx11) ?_;conv=>rhs;whnf
   refine Zm rfl rfl fun x12 hx12=>?_;conv=>rhs;whnf
   refine Zh (Zr rfl hx12) ?_;conv=>rhs;whnf
   refine Zk _ ZK rfl fun x13 hx13=>?_;conv=>rhs;whnf
   refine Zc rfl ?_ ?_<;>conv=>rhs;whnf
   ·refine Zh (ZaX rfl hx12) ?_;conv=>rhs;whnf
    refine Zh (Zr rfl hx12) ?_;conv=>rhs;whnf
    refine Zh (ZaX rfl hx11) ?_;conv=>rhs;whnf
    refine Zh (Zr rfl hx11) ?_;conv=>rhs;whnf
    refine Zh (ZaX rfl hx11) ?_;conv=>rhs;whnf
    refine Zh (Zr rfl hx11) ?_;conv=>rhs;whnf
    refine Zl (Zaq Zd s0.2 (w64 (d+s0.1)).toNat x12) ?_;conv=>rhs;whnf
    refine Zm rfl rfl fun x14 hx14=>?_;conv=>rhs;whnf
    refine Zh (Zr rfl hx14) ?_;conv=>rhs;whnf
    refine Zl (Zaq Zd (List.set s0.2 (w64 (d+s0.1)).toNat x12) (w64 (d+(w64 ((w64 (2*s0.1))+1)))).toNat x11) ?_;conv=>rhs;whnf
    exact Zf (ih _)
   ·exact Zb rfl
theorem Zfr {b c d:Int}{m0_0:List Int}:∀r,(Zbw b c d m0_0)=some r→evW ctx 212 [(.sl 0 1),(.d (Zd b)),(.d (Zd c)),(.d (Zd d))] [(.arr 1 (List.map Zd m0_0))]=some ((ZfC b c d m0_0) r):=by
 show ZD _ (fun r rhs=>rhs=some ((ZfC b c d m0_0) r)) _
 unfold Zbw
 rw[ZcR ctx 212 ZAl _ _ rfl rfl]
 conv=>rhs;whnf
 refine Ze _ (Zhu _) fun r15 hr15=>?_
 clear hr15
 rcases r15 with r15 | r15
 ·conv=>rhs;whnf
  exact Zb rfl
 ·conv=>rhs;whnf
  exact Zb rfl
def ZfO (b:Int) (c:Int) (m0_0:List Int):(List Int)→V×Zn
  | r=>((.d (D.tup [])),[(.arr 1 (List.map Zd r))])
def ZeM (b:Int) (c:Int):(List Int)→Ex×List V×Zn
  | r=>(.exit 0,[(.sl 0 1),(.d (Zd b)),(.d (Zd 0)),(.d (Zd (w64 (c-b))))],[(.arr 1 (List.map Zd r))])
theorem Zhz {b c:Int}:∀(s0:Int×(List Int)) (r:List Int),lp (ZbG b c) s0=some r→lpW ctx 1 [0,6,7,8,9] [0,6,7,8] ZwW [(.sl 0 1),(.d (Zd b)),(.d (Zd 0)),(.d (Zd (w64 (c-b)))),(.d (Zd s0.1))] [(.arr 1 (List.map Zd s0.2))]=some ((ZeM b c) r):=by
 refine Za7 (ZeM b c) ?_
 intro s0 rcl ih
 show ZD _ _ (lpW _ _ _ _ _ _ _)
 unfold ZbG
 rw[Za9]
 conv=>rhs;whnf
 refine Zc rfl ?_ ?_<;>conv=>rhs;whnf
 ·refine Ze _ Zfr fun x1 hx1=>?_;conv=>rhs;whnf
  exact Zf (ih _)
 ·exact Zb rfl
def ZeN (b:Int):(List Int)→Ex×List V×Zn
  | r=>(.exit 2,[],[(.arr 1 (List.map Zd r))])
theorem Zhy {b:Int}:∀(s3:Int×(List Int)) (r:List Int),lp (ZbH b) s3=some r→lpW ctx 1 [0,6,7,10] [] ZwL [(.sl 0 1),(.d (Zd b)),(.d (Zd 0)),(.d (Zd s3.1))] [(.arr 1 (List.map Zd s3.2))]=some ((ZeN b) r):=by
 refine Za7 (ZeN b) ?_
 intro s3 rcl ih
 show ZD _ _ (lpW _ _ _ _ _ _ _)
 unfold ZbH
 rw[Za9]
 conv=>rhs;whnf
 refine Zc rfl ?_ ?_<;>conv=>rhs;whnf
 ·refine Zm rfl rfl fun x4 hx4=>?_;conv=>rhs;whnf
  refine Zh (Zr rfl hx4) ?_;conv=>rhs;whnf
  refine Zm rfl rfl fun x5 hx5=>?_;conv=>rhs;whnf
  refine Zh (Zr rfl hx5) ?_;conv=>rhs;whnf
  refine Zh (ZaX rfl hx5) ?_;conv=>rhs;whnf
  refine Zh (Zr rfl hx5) ?_;conv=>rhs;whnf
  refine Zl (Zaq Zd s3.2 b.toNat x4) ?_;conv=>rhs;whnf
  refine Zm rfl rfl fun x6 hx6=>?_;conv=>rhs;whnf
  refine Zh (Zr rfl hx6) ?_;conv=>rhs;whnf
  refine Zl (Zaq Zd (List.set s3.2 b.toNat x4) (w64 (b+s3.1)).toNat x5) ?_;conv=>rhs;whnf
  refine Ze _ Zfr fun x7 hx7=>?_;conv=>rhs;whnf
  exact Zf (ih _)
 ·exact Zb rfl
theorem Zch {b c:Int}{m0_0:List Int}:∀r,(ZaN b c m0_0)=some r→evW ctx 194 [(.sl 0 1),(.d (Zd b)),(.d (Zd c))] [(.arr 1 (List.map Zd m0_0))]=some ((ZfO b c m0_0) r):=by
 show ZD _ (fun r rhs=>rhs=some ((ZfO b c m0_0) r)) _
 unfold ZaN
 rw[ZcR ctx 194 ZyQ _ _ rfl rfl]
 conv=>rhs;whnf
 refine Zaw rfl ?_;conv=>rhs;whnf
 refine Ze _ (Zhz _) fun r2 hr2=>?_;conv=>rhs;whnf
 refine Ze _ (Zhy _) fun r8 hr8=>?_;conv=>rhs;whnf
 exact Zb rfl
def Zf3 (b:Int) (c:Int) (m0_0:List Int) (m1_0:Int):(Int×Int×Int)→V×Zn
  | r=>((.d (D.tup [(Zd r.1),(Zd r.2.1)])),[(.arr 1 (List.map Zd m0_0)),(.cells [(.d (Zd r.2.2))])])
theorem ZdF {b c:Int}{m0_0:List Int}{m1_0:Int}:∀r,(Zbq b c m0_0 m1_0)=some r→evW ctx 221 [(.sl 0 1),(.d (Zd b)),(.d (Zd c)),(.ptr 1 0)] [(.arr 1 (List.map Zd m0_0)),(.cells [(.d (Zd m1_0))])]=some ((Zf3 b c m0_0 m1_0) r):=by
 show ZD _ (fun r rhs=>rhs=some ((Zf3 b c m0_0 m1_0) r)) _
 unfold Zbq
 rw[ZcR ctx 221 ZzA _ _ rfl rfl]
 conv=>rhs;whnf
 refine Zm rfl rfl fun x0 hx0=>?_;conv=>rhs;whnf
 refine Zh (Zr rfl hx0) ?_;conv=>rhs;whnf
 refine Zm rfl rfl fun x1 hx1=>?_;conv=>rhs;whnf
 refine Zh (Zr rfl hx1) ?_;conv=>rhs;whnf
 refine Zk _ ZK rfl fun x2 hx2=>?_;conv=>rhs;whnf
 refine Zc rfl ?_ ?_<;>conv=>rhs;whnf
 ·exact Zb rfl
 ·exact Zb rfl
def Zf6 (b:Int) (c:Int) (d:Int) (m0_0:List Int) (m1_0:Int):(Int×Int)→V×Zn
  | r=>((.d (Zd r.1)),[(.arr 1 (List.map Zd m0_0)),(.cells [(.d (Zd r.2))])])
theorem ZdK {b c d:Int}{m0_0:List Int}{m1_0:Int}:∀r,(Zbs b c d m0_0 m1_0)=some r→evW ctx 216 [(.sl 0 1),(.d (Zd b)),(.d (Zd c)),(.d (Zd d)),(.ptr 1 0)] [(.arr 1 (List.map Zd m0_0)),(.cells [(.d (Zd m1_0))])]=some ((Zf6 b c d m0_0 m1_0) r):=by
 show ZD _ (fun r rhs=>rhs=some ((Zf6 b c d m0_0 m1_0) r)) _
 unfold Zbs
 rw[ZcR ctx 216 ZyY _ _ rfl rfl]
 conv=>rhs;whnf
 refine Ze _ ZdF fun x0 hx0=>?_;conv=>rhs;whnf
 refine Ze _ ZdF fun x1 hx1=>?_;conv=>rhs;whnf
 refine Ze _ ZdF fun x2 hx2=>?_;conv=>rhs;whnf
 exact Zb rfl
def ZdY (b:Int) (m0_0:List Int) (m1_0:Int):(Int×Int)→V×Zn
  | r=>((.d (Zd r.1)),[(.arr 1 (List.map Zd m0_0)),(.cells [(.d (Zd r.2))])])
theorem Zct {b:Int}{m0_0:List Int}{m1_0:Int}:∀r,(Zav b m0_0 m1_0)=some r→evW ctx 215 [(.sl 0 1),(.d (Zd b)),(.ptr 1 0)] [(.arr 1 (List.map Zd m0_0)),(.cells [(.d (Zd m1_0))])]=some ((ZdY b m0_0 m1_0) r):=by
 show ZD _ (fun r rhs=>rhs=some ((ZdY b m0_0 m1_0) r)) _
 unfold Zav
 rw[ZcR ctx 215 ZzC _ _ rfl rfl]
 conv=>rhs;whnf
 refine Ze _ ZdK fun x0 hx0=>?_;conv=>rhs;whnf
 exact Zb rfl
def ZeL (b:Int) (c:Int) (m0_0:List Int):(Int×Int)→V×Zn
  | r=>((.d (D.tup [(Zd r.1),(Zd r.2)])),[(.arr 1 (List.map Zd m0_0))])
theorem ZbY {b c:Int}{m0_0:List Int}:∀r,(Zas b c m0_0)=some r→evW ctx 196 [(.sl 0 1),(.d (Zd b)),(.d (Zd c))] [(.arr 1 (List.map Zd m0_0))]=some ((ZeL b c m0_0) r):=by
 show ZD _ (fun r rhs=>rhs=some ((ZeL b c m0_0) r)) _
 unfold Zas
 rw[ZcR ctx 196 Zzo _ _ rfl rfl]
 conv=>rhs;whnf
 refine Zaw rfl ?_;conv=>rhs;whnf
 refine Zaw rfl ?_;conv=>rhs;whnf
 refine Zaw rfl ?_;conv=>rhs;whnf
 refine Zc rfl ?_ ?_<;>conv=>rhs;whnf
 ·refine Zc rfl ?_ ?_<;>conv=>rhs;whnf
  ·refine Ze _ Zct fun x0 hx0=>?_;conv=>rhs;whnf
   refine Ze _ Zct fun x1 hx1=>?_;conv=>rhs;whnf
   refine Ze _ Zct fun x2 hx2=>?_;conv=>rhs;whnf
   refine Ze _ ZdK fun x3 hx3=>?_;conv=>rhs;whnf
   refine Zc rfl ?_ ?_<;>conv=>rhs;whnf
   ·exact Zb rfl
   ·refine Zc rfl ?_ ?_<;>conv=>rhs;whnf
    ·exact Zb rfl
    ·exact Zb rfl
  ·refine Ze _ ZdK fun x4 hx4=>?_;conv=>rhs;whnf
   refine Zc rfl ?_ ?_<;>conv=>rhs;whnf
   ·exact Zb rfl
   ·refine Zc rfl ?_ ?_<;>conv=>rhs;whnf
    ·exact Zb rfl
    ·exact Zb rfl
 ·refine ZbQ rfl ?_;conv=>rhs;whnf
  exact Zb rfl
def Zez (b:Int) (c:Int) (m0_0:List Int):(List Int)→V×Zn
  | r=>((.d (D.tup [])),[(.arr 1 (List.map Zd r))])
def ZdP:(List Int)→Ex×List V×Zn
  | r=>(.exit 0,[],[(.arr 1 (List.map Zd r))])
theorem ZgC:∀(s0:Int×Int×(List Int)) (r:List Int),lp (Zbj) s0=some r→lpW ctx 1 [0,6,7] [] Zwi [(.sl 0 1),(.d (Zd s0.1)),(.d (Zd s0.2.1))] [(.arr 1 (List.map Zd s0.2.2))]=some (ZdP r):=by
 refine Za7 ZdP ?_
 intro s0 rcl ih
 show ZD _ _ (lpW _ _ _ _ _ _ _)
 unfold Zbj
 rw[Za9]
 conv=>rhs;whnf
 refine Zc rfl ?_ ?_<;>conv=>rhs;whnf
 ·refine Zm rfl rfl fun x1 hx1=>?_;conv=>rhs;whnf
  refine Zh (Zr rfl hx1) ?_;conv=>rhs;whnf
  refine Zm rfl rfl fun x2 hx2=>?_;conv=>rhs;whnf
  refine Zh (Zr rfl hx2) ?_;conv=>rhs;whnf
  refine Zh (ZaX rfl hx2) ?_;conv=>rhs;whnf
  refine Zh (Zr rfl hx2) ?_;conv=>rhs;whnf
  refine Zl (Zaq Zd s0.2.2 s0.1.toNat x1) ?_;conv=>rhs;whnf
  refine Zm rfl rfl fun x3 hx3=>?_;conv=>rhs;whnf
  refine Zh (Zr rfl hx3) ?_;conv=>rhs;whnf
  refine Zl (Zaq Zd (List.set s0.2.2 s0.1.toNat x1) s0.2.1.toNat x2) ?_;conv=>rhs;whnf
  exact Zf (ih _)
 ·exact Zb rfl
theorem ZbP {b c:Int}{m0_0:List Int}:∀r,(Zan b c m0_0)=some r→evW ctx 197 [(.sl 0 1),(.d (Zd b)),(.d (Zd c))] [(.arr 1 (List.map Zd m0_0))]=some ((Zez b c m0_0) r):=by
 show ZD _ (fun r rhs=>rhs=some ((Zez b c m0_0) r)) _
 unfold Zan
 rw[ZcR ctx 197 Zzp _ _ rfl rfl]
 conv=>rhs;whnf
 refine Ze _ (ZgC _) fun r4 hr4=>?_;conv=>rhs;whnf
 exact Zb rfl
def Zdd (b:Int) (c:Int) (m0_0:List Int):((List Int)⊕(List Int))→V×Zn
  | (.inl r)=>((.d (D.bool true)),[(.arr 1 (List.map Zd r))])
  | (.inr r)=>((.d (D.bool false)),[(.arr 1 (List.map Zd r))])
def ZcT (b:Int) (c:Int) (s0:Int×Int×(List Int)):Int→Ex×List V×Zn
  | r=>(.exit 2,[(.sl 0 1),(.d (Zd b)),(.d (Zd c)),(.d (Zd r)),(.d (Zd s0.2.1))],[(.arr 1 (List.map Zd s0.2.2))])
theorem Zfo {b c:Int}{s0:Int×Int×(List Int)}:∀(s1:Int) (r:Int),lp (ZaH c s0) s1=some r→lpW ctx 1 [0,1,2,7,8] [0,1,2,7,8] ZwS [(.sl 0 1),(.d (Zd b)),(.d (Zd c)),(.d (Zd s1)),(.d (Zd s0.2.1))] [(.arr 1 (List.map Zd s0.2.2))]=some ((ZcT b c s0) r):=by
 refine Za7 (ZcT b c s0) ?_
 intro s1 rcl ih
 show ZD _ _ (lpW _ _ _ _ _ _ _)
 unfold ZaH
 rw[Za9]
 conv=>rhs;whnf
 refine Zc rfl ?_ ?_<;>conv=>rhs;whnf
 ·refine Zm rfl rfl fun x2 hx2=>?_;conv=>rhs;whnf
  refine Zh (Zr rfl hx2) ?_;conv=>rhs;whnf
  refine Zm rfl rfl fun x3 hx3=>?_;conv=>rhs;whnf
  refine Zh (Zr rfl hx3) ?_;conv=>rhs;whnf
  refine Zk _ ZK rfl fun x4 hx4=>?_;conv=>rhs;whnf
  refine Zc rfl ?_ ?_<;>conv=>rhs;whnf
  ·exact Zb rfl
  ·exact Zf (ih _)
 ·exact Zb rfl
def ZcS (b:Int) (c:Int) (s0:Int×Int×(List Int)) (r5:Int):(List Int)→Ex×List V×Zn
  | r=>(.exit 4,[(.sl 0 1),(.d (Zd b)),(.d (Zd c)),(.d (Zd r5)),(.d (Zd s0.2.1))],[(.arr 1 (List.map Zd r))])
theorem Zfq {b c:Int}{s0:Int×Int×(List Int)}{r5:Int}:∀(s9:Int×(List Int)) (r:List Int),lp (ZaC) s9=some r→lpW ctx 1 [0,1,2,7,8,9] [0,1,2,7,8] Zv9 [(.sl 0 1),(.d (Zd b)),(.d (Zd c)),(.d (Zd r5)),(.d (Zd s0.2.1)),(.d (Zd s9.1))] [(.arr 1 (List.map Zd s9.2))]=some ((ZcS b c s0 r5) r):=by
 refine Za7 (ZcS b c s0 r5) ?_
 intro s9 rcl ih
 show ZD _ _ (lpW _ _ _ _ _ _ _)
 unfold ZaC
 rw[Za9]
 conv=>rhs;whnf
 refine Zc rfl ?_ ?_<;>conv=>rhs;whnf
 ·refine Zm rfl rfl fun x10 hx10=>?_;conv=>rhs;whnf
  refine Zh (Zr rfl hx10) ?_;conv=>rhs;whnf
  refine Zm rfl rfl fun x11 hx11=>?_;conv=>rhs;whnf
  refine Zh (Zr rfl hx11) ?_;conv=>rhs;whnf
  refine Zk _ ZK rfl fun x12 hx12=>?_;conv=>rhs;whnf
  refine Zc rfl ?_ ?_<;>conv=>rhs;whnf
  ·refine Zh (ZaX rfl hx11) ?_;conv=>rhs;whnf
   refine Zh (Zr rfl hx11) ?_;conv=>rhs;whnf
   refine Zh (ZaX rfl hx10) ?_;conv=>rhs;whnf
   refine Zh (Zr rfl hx10) ?_;conv=>rhs;whnf
   refine Zh (ZaX rfl hx10) ?_;conv=>rhs;whnf
   refine Zh (Zr rfl hx10) ?_;conv=>rhs;whnf
   refine Zl (Zaq Zd s9.2 s9.1.toNat x11) ?_;conv=>rhs;whnf
   refine Zm rfl rfl fun x13 hx13=>?_;conv=>rhs;whnf
   refine Zh (Zr rfl hx13) ?_;conv=>rhs;whnf
   refine Zl (Zaq Zd (List.set s9.2 s9.1.toNat x11) (w64 (s9.1-1)).toNat x10) ?_;conv=>rhs;whnf
   exact Zf (ih _)
  ·exact Zb rfl
 ·exact Zb rfl
def ZcN (b:Int) (c:Int) (s0:Int×Int×(List Int)) (r5:Int):(List Int)→Ex×List V×Zn
  | r=>(.exit 6,[(.sl 0 1),(.d (Zd b)),(.d (Zd c)),(.d (Zd r5)),(.d (Zd s0.2.1))],[(.arr 1 (List.map Zd r))])
theorem ZcG {b c:Int}{s0:Int×Int×(List Int)}{r5:Int}:∀(s15:Int×(List Int)) (r:List Int),lp (Zac c) s15=some r→lpW ctx 1 [0,1,2,7,8,10] [0,1,2,7,8] ZwV [(.sl 0 1),(.d (Zd b)),(.d (Zd c)),(.d (Zd r5)),(.d (Zd s0.2.1)),(.d (Zd s15.1))] [(.arr 1 (List.map Zd s15.2))]=some ((ZcN b c s0 r5) r):=by
 refine Za7 (ZcN b c s0 r5) ?_
 intro s15 rcl ih
 show ZD _ _ (lpW _ _ _ _ _ _ _)
 unfold Zac
 rw[Za9]
 conv=>rhs;whnf
 refine Zc rfl ?_ ?_<;>conv=>rhs;whnf
 ·refine Zm rfl rfl fun x16 hx16=>?_;conv=>rhs;whnf
  refine Zh (Zr rfl hx16) ?_;conv=>rhs;whnf
  refine Zm rfl rfl fun x17 hx17=>?_;conv=>rhs;whnf
  refine Zh (Zr rfl hx17) ?_;conv=>rhs;whnf
  refine Zk _ ZK rfl fun x18 hx18=>?_;conv=>rhs;whnf
  refine Zc rfl ?_ ?_<;>conv=>rhs;whnf
  ·refine Zh (ZaX rfl hx17) ?_;conv=>rhs;whnf
   refine Zh (Zr rfl hx17) ?_;conv=>rhs;whnf
   refine Zh (ZaX rfl hx16) ?_;conv=>rhs;whnf
   refine Zh (Zr rfl hx16) ?_;conv=>rhs;whnf
   refine Zh (ZaX rfl hx16) ?_;conv=>rhs;whnf
   refine Zh (Zr rfl hx16) ?_;conv=>rhs;whnf
   refine Zl (Zaq Zd s15.2 s15.1.toNat x17) ?_;conv=>rhs;whnf
   refine Zm rfl rfl fun x19 hx19=>?_;conv=>rhs;whnf
   refine Zh (Zr rfl hx19) ?_;conv=>rhs;whnf
   refine Zl (Zaq Zd (List.set s15.2 s15.1.toNat x17) (w64 (s15.1-1)).toNat x16) ?_;conv=>rhs;whnf
   exact Zf (ih _)
  ·exact Zb rfl
 ·exact Zb rfl
def ZcO (b:Int) (c:Int):((List Int)⊕((List Int)⊕(List Int)))→Ex×List V×Zn
  | (.inl r)=>(.ret,[(.d (D.bool true))],[(.arr 1 (List.map Zd r))])
  | (.inr (.inl r))=>(.ret,[(.d (D.bool false))],[(.arr 1 (List.map Zd r))])
  | (.inr (.inr r))=>(.exit 0,[.bad],[(.arr 1 (List.map Zd r))])
theorem Zff {b c:Int}:∀(s0:Int×Int×(List Int)) (r:((List Int)⊕((List Int)⊕(List Int)))),lp (ZaG b c) s0=some r→lpW ctx 1 [0,1,2,7,8] [6] Zwq [(.sl 0 1),(.d (Zd b)),(.d (Zd c)),(.d (Zd s0.1)),(.d (Zd s0.2.1))] [(.arr 1 (List.map Zd s0.2.2))]=some ((ZcO b c) r):=by
 refine Za7 (ZcO b c) ?_
 intro s0 rcl ih
 show ZD _ _ (lpW _ _ _ _ _ _ _)
 unfold ZaG
 rw[Za9]
 conv=>rhs;whnf
 refine Zc rfl ?_ ?_<;>conv=>rhs;whnf
 ·refine Ze _ (Zfo _) fun r5 hr5=>?_;conv=>rhs;whnf
  refine Zc rfl ?_ ?_<;>conv=>rhs;whnf
  ·exact Zb rfl
  ·refine Zc rfl ?_ ?_<;>conv=>rhs;whnf
   ·exact Zb rfl
   ·refine Zm rfl rfl fun x6 hx6=>?_;conv=>rhs;whnf
    refine Zh (Zr rfl hx6) ?_;conv=>rhs;whnf
    refine Zm rfl rfl fun x7 hx7=>?_;conv=>rhs;whnf
    refine Zh (Zr rfl hx7) ?_;conv=>rhs;whnf
    refine Zh (ZaX rfl hx7) ?_;conv=>rhs;whnf
    refine Zh (Zr rfl hx7) ?_;conv=>rhs;whnf
    refine Zl (Zaq Zd s0.2.2 r5.toNat x6) ?_;conv=>rhs;whnf
    refine Zm rfl rfl fun x8 hx8=>?_;conv=>rhs;whnf
    refine Zh (Zr rfl hx8) ?_;conv=>rhs;whnf
    refine Zl (Zaq Zd (List.set s0.2.2 r5.toNat x6) (w64 (r5-1)).toNat x7) ?_;conv=>rhs;whnf
    refine Zc rfl ?_ ?_<;>conv=>rhs;whnf
    ·refine Ze _ (Zfq _) fun r14 hr14=>?_;conv=>rhs;whnf
     refine Zc rfl ?_ ?_<;>conv=>rhs;whnf
     ·refine Ze _ (ZcG _) fun r20 hr20=>?_;conv=>rhs;whnf
      exact Zf (ih _)
     ·exact Zf (ih _)
    ·refine Zc rfl ?_ ?_<;>conv=>rhs;whnf
     ·refine Ze _ (ZcG _) fun r26 hr26=>?_;conv=>rhs;whnf
      exact Zf (ih _)
     ·exact Zf (ih _)
 ·exact Zb rfl
theorem Zc8 {b c:Int}{m0_0:List Int}:∀r,(Zap b c m0_0)=some r→evW ctx 198 [(.sl 0 1),(.d (Zd b)),(.d (Zd c))] [(.arr 1 (List.map Zd m0_0))]=some ((Zdd b c m0_0) r):=by
 show ZD _ (fun r rhs=>rhs=some ((Zdd b c m0_0) r)) _
 unfold Zap
 rw[ZcR ctx 198 ZAT _ _ rfl rfl]
 conv=>rhs;whnf
 refine Ze _ (Zff _) fun r27 hr27=>?_
 clear hr27
 rcases r27 with r27 | (r27 | r27)
 ·conv=>rhs;whnf
  exact Zb rfl
 ·conv=>rhs;whnf
  exact Zb rfl
 ·conv=>rhs;whnf
  exact Zb rfl
def Zft (b:Int) (c:Int) (d:Int) (m0_0:List Int):((Int×(List Int))⊕(Int×(List Int)))→V×Zn
  | (.inl r)=>((.d (D.tup [(Zd r.1),(D.bool true)])),[(.arr 1 (List.map Zd r.2))])
  | (.inr r)=>((.d (D.tup [(Zd r.1),(D.bool false)])),[(.arr 1 (List.map Zd r.2))])
def Zex (b:Int) (c:Int) (d:Int) (m0_0:List Int) (x0:Int) (x1:Int):Int→Ex×List V×Zn
  | r=>(.exit 0,[(.sl 0 1),(.d (Zd b)),(.d (Zd r)),(.d (Zd (w64 (c-1))))],[(.arr 1 (List.map Zd (List.set (List.set m0_0 b.toNat x0) d.toNat x1)))])
theorem Zhb {b c d:Int}{m0_0:List Int}{x0 x1:Int}:∀(s3:Int) (r:Int),lp (ZbD b c d m0_0 x0 x1) s3=some r→lpW ctx 1 [0,1,10,11] [0,1,10,11] Zwb [(.sl 0 1),(.d (Zd b)),(.d (Zd s3)),(.d (Zd (w64 (c-1))))] [(.arr 1 (List.map Zd (List.set (List.set m0_0 b.toNat x0) d.toNat x1)))]=some ((Zex b c d m0_0 x0 x1) r):=by
 refine Za7 (Zex b c d m0_0 x0 x1) ?_
 intro s3 rcl ih
 show ZD _ _ (lpW _ _ _ _ _ _ _)
 unfold ZbD
 rw[Za9]
 conv=>rhs;whnf
 refine Zc rfl ?_ ?_<;>conv=>rhs;whnf
 ·refine Zm rfl rfl fun x4 hx4=>?_;conv=>rhs;whnf
  refine Zh (Zr rfl hx4) ?_;conv=>rhs;whnf
  refine Zm rfl rfl fun x5 hx5=>?_;conv=>rhs;whnf
  refine Zh (Zr rfl hx5) ?_;conv=>rhs;whnf
  refine Zk _ ZK rfl fun x6 hx6=>?_;conv=>rhs;whnf
  refine Zc rfl ?_ ?_<;>conv=>rhs;whnf
  ·exact Zf (ih _)
  ·exact Zb rfl
 ·exact Zb rfl
def Zey (b:Int) (d:Int) (m0_0:List Int) (x0:Int) (x1:Int) (r7:Int):Int→Ex×List V×Zn
  | r=>(.exit 2,[(.sl 0 1),(.d (Zd b)),(.d (Zd r7)),(.d (Zd r))],[(.arr 1 (List.map Zd (List.set (List.set m0_0 b.toNat x0) d.toNat x1)))])
theorem Zhm {b d:Int}{m0_0:List Int}{x0 x1 r7:Int}:∀(s8:Int) (r:Int),lp (Zby b d m0_0 x0 x1 r7) s8=some r→lpW ctx 1 [0,1,10,11] [0,1,10,11] ZwT [(.sl 0 1),(.d (Zd b)),(.d (Zd r7)),(.d (Zd s8))] [(.arr 1 (List.map Zd (List.set (List.set m0_0 b.toNat x0) d.toNat x1)))]=some ((Zey b d m0_0 x0 x1 r7) r):=by
 refine Za7 (Zey b d m0_0 x0 x1 r7) ?_
 intro s8 rcl ih
 show ZD _ _ (lpW _ _ _ _ _ _ _)
 unfold Zby
 rw[Za9]
 conv=>rhs;whnf
 refine Zc rfl ?_ ?_<;>conv=>rhs;whnf
 ·refine Zm rfl rfl fun x9 hx9=>?_;conv=>rhs;whnf
  refine Zh (Zr rfl hx9) ?_;conv=>rhs;whnf
  refine Zm rfl rfl fun x10 hx10=>?_;conv=>rhs;whnf
  refine Zh (Zr rfl hx10) ?_;conv=>rhs;whnf
  refine Zk _ ZK rfl fun x11 hx11=>?_;conv=>rhs;whnf
  refine Zc rfl ?_ ?_<;>conv=>rhs;whnf
  ·exact Zb rfl
  ·exact Zf (ih _)
 ·exact Zb rfl
def Zev (b:Int) (s19:Int×Int×(List Int)):Int→Ex×List V×Zn
  | r=>(.exit 6,[(.sl 0 1),(.d (Zd b)),(.d (Zd r)),(.d (Zd s19.2.1))],[(.arr 1 (List.map Zd s19.2.2))])
theorem Zhj {b:Int}{s19:Int×Int×(List Int)}:∀(s20:Int) (r:Int),lp (Zbz b s19) s20=some r→lpW ctx 1 [0,1,10,11] [0,1,10,11] ZwM [(.sl 0 1),(.d (Zd b)),(.d (Zd s20)),(.d (Zd s19.2.1))] [(.arr 1 (List.map Zd s19.2.2))]=some ((Zev b s19) r):=by
 refine Za7 (Zev b s19) ?_
 intro s20 rcl ih
 show ZD _ _ (lpW _ _ _ _ _ _ _)
 unfold Zbz
 rw[Za9]
 conv=>rhs;whnf
 refine Zc rfl ?_ ?_<;>conv=>rhs;whnf
 ·refine Zm rfl rfl fun x21 hx21=>?_;conv=>rhs;whnf
  refine Zh (Zr rfl hx21) ?_;conv=>rhs;whnf
  refine Zm rfl rfl fun x22 hx22=>?_;conv=>rhs;whnf
  refine Zh (Zr rfl hx22) ?_;conv=>rhs;whnf
  refine Zk _ ZK rfl fun x23 hx23=>?_;conv=>rhs;whnf
  refine Zc rfl ?_ ?_<;>conv=>rhs;whnf
  ·exact Zf (ih _)
  ·exact Zb rfl
 ·exact Zb rfl
def Zep (b:Int) (s19:Int×Int×(List Int)) (r24:Int):Int→Ex×List V×Zn
  | r=>(.exit 8,[(.sl 0 1),(.d (Zd b)),(.d (Zd r24)),(.d (Zd r))],[(.arr 1 (List.map Zd s19.2.2))])
theorem Zhl {b:Int}{s19:Int×Int×(List Int)}{r24:Int}:∀(s25:Int) (r:Int),lp (ZbB b s19 r24) s25=some r→lpW ctx 1 [0,1,10,11] [0,1,10,11] ZwN [(.sl 0 1),(.d (Zd b)),(.d (Zd r24)),(.d (Zd s25))] [(.arr 1 (List.map Zd s19.2.2))]=some ((Zep b s19 r24) r):=by
 refine Za7 (Zep b s19 r24) ?_
 intro s25 rcl ih
 show ZD _ _ (lpW _ _ _ _ _ _ _)
 unfold ZbB
 rw[Za9]
 conv=>rhs;whnf
 refine Zc rfl ?_ ?_<;>conv=>rhs;whnf
 ·refine Zm rfl rfl fun x26 hx26=>?_;conv=>rhs;whnf
  refine Zh (Zr rfl hx26) ?_;conv=>rhs;whnf
  refine Zm rfl rfl fun x27 hx27=>?_;conv=>rhs;whnf
  refine Zh (Zr rfl hx27) ?_;conv=>rhs;whnf
  refine Zk _ ZK rfl fun x28 hx28=>?_;conv=>rhs;whnf
  refine Zc rfl ?_ ?_<;>conv=>rhs;whnf
  ·exact Zb rfl
  ·exact Zf (ih _)
 ·exact Zb rfl
def Zew (b:Int):(Int×(List Int))→Ex×List V×Zn
  | r=>(.exit 4,[(.sl 0 1),(.d (Zd b)),(.d (Zd r.1))],[(.arr 1 (List.map Zd r.2))])
theorem Zhn {b:Int}:∀(s19:Int×Int×(List Int)) (r:(Int×(List Int))),lp (ZbC b) s19=some r→lpW ctx 1 [0,1,10,11] [0,1,11] Zw3 [(.sl 0 1),(.d (Zd b)),(.d (Zd s19.1)),(.d (Zd s19.2.1))] [(.arr 1 (List.map Zd s19.2.2))]=some ((Zew b) r):=by
 refine Za7 (Zew b) ?_
 intro s19 rcl ih
 show ZD _ _ (lpW _ _ _ _ _ _ _)
 unfold ZbC
 rw[Za9]
 conv=>rhs;whnf
 refine Ze _ (Zhj _) fun r24 hr24=>?_;conv=>rhs;whnf
 refine Ze _ (Zhl _) fun r29 hr29=>?_;conv=>rhs;whnf
 refine Zc rfl ?_ ?_<;>conv=>rhs;whnf
 ·exact Zb rfl
 ·refine Zm rfl rfl fun x30 hx30=>?_;conv=>rhs;whnf
  refine Zh (Zr rfl hx30) ?_;conv=>rhs;whnf
  refine Zm rfl rfl fun x31 hx31=>?_;conv=>rhs;whnf
  refine Zh (Zr rfl hx31) ?_;conv=>rhs;whnf
  refine Zh (ZaX rfl hx31) ?_;conv=>rhs;whnf
  refine Zh (Zr rfl hx31) ?_;conv=>rhs;whnf
  refine Zl (Zaq Zd s19.2.2 r24.toNat x30) ?_;conv=>rhs;whnf
  refine Zm rfl rfl fun x32 hx32=>?_;conv=>rhs;whnf
  refine Zh (Zr rfl hx32) ?_;conv=>rhs;whnf
  refine Zl (Zaq Zd (List.set s19.2.2 r24.toNat x30) r29.toNat x31) ?_;conv=>rhs;whnf
  exact Zf (ih _)
theorem Zu {b c d:Int}{m0_0:List Int}:∀r,(Zs b c d m0_0)=some r→evW ctx 201 [(.sl 0 1),(.d (Zd b)),(.d (Zd c)),(.d (Zd d))] [(.arr 1 (List.map Zd m0_0))]=some ((Zft b c d m0_0) r):=by
 show ZD _ (fun r rhs=>rhs=some ((Zft b c d m0_0) r)) _
 unfold Zs
 rw[ZcR ctx 201 Zz7 _ _ rfl rfl]
 conv=>rhs;whnf
 refine Zm rfl rfl fun x0 hx0=>?_;conv=>rhs;whnf
 refine Zh (Zr rfl hx0) ?_;conv=>rhs;whnf
 refine Zm rfl rfl fun x1 hx1=>?_;conv=>rhs;whnf
 refine Zh (Zr rfl hx1) ?_;conv=>rhs;whnf
 refine Zh (ZaX rfl hx1) ?_;conv=>rhs;whnf
 refine Zh (Zr rfl hx1) ?_;conv=>rhs;whnf
 refine Zl (Zaq Zd m0_0 b.toNat x0) ?_;conv=>rhs;whnf
 refine Zm rfl rfl fun x2 hx2=>?_;conv=>rhs;whnf
 refine Zh (Zr rfl hx2) ?_;conv=>rhs;whnf
 refine Zl (Zaq Zd (List.set m0_0 b.toNat x0) d.toNat x1) ?_;conv=>rhs;whnf
 refine Ze _ (Zhb _) fun r7 hr7=>?_;conv=>rhs;whnf
 refine Ze _ (Zhm _) fun r12 hr12=>?_;conv=>rhs;whnf
 refine Zc rfl ?_ ?_<;>conv=>rhs;whnf
 ·refine Zm rfl rfl fun x13 hx13=>?_;conv=>rhs;whnf
  refine Zh (Zr rfl hx13) ?_;conv=>rhs;whnf
  refine Zm rfl rfl fun x14 hx14=>?_;conv=>rhs;whnf
  refine Zh (Zr rfl hx14) ?_;conv=>rhs;whnf
  refine Zh (ZaX rfl hx14) ?_;conv=>rhs;whnf
  refine Zh (Zr rfl hx14) ?_;conv=>rhs;whnf
  refine Zl (Zaq Zd (List.set (List.set m0_0 b.toNat x0) d.toNat x1) r12.toNat x13) ?_;conv=>rhs;whnf
  refine Zm rfl rfl fun x15 hx15=>?_;conv=>rhs;whnf
  refine Zh (Zr rfl hx15) ?_;conv=>rhs;whnf
  refine Zl (Zaq Zd (List.set (List.set (List.set m0_0 b.toNat x0) d.toNat x1) r12.toNat x13) b.toNat x14) ?_;conv=>rhs;whnf
  exact Zb rfl
 ·refine Zm rfl rfl fun x16 hx16=>?_;conv=>rhs;whnf
  refine Zh (Zr rfl hx16) ?_;conv=>rhs;whnf
  refine Zm rfl rfl fun x17 hx17=>?_;conv=>rhs;whnf
  refine Zh (Zr rfl hx17) ?_;conv=>rhs;whnf
  refine Zh (ZaX rfl hx17) ?_;conv=>rhs;whnf
  refine Zh (Zr rfl hx17) ?_;conv=>rhs;whnf
  refine Zl (Zaq Zd (List.set (List.set m0_0 b.toNat x0) d.toNat x1) r7.toNat x16) ?_;conv=>rhs;whnf
  refine Zm rfl rfl fun x18 hx18=>?_;conv=>rhs;whnf
  refine Zh (Zr rfl hx18) ?_;conv=>rhs;whnf
  refine Zl (Zaq Zd (List.set (List.set (List.set m0_0 b.toNat x0) d.toNat x1) r7.toNat x16) r12.toNat x17) ?_;conv=>rhs;whnf
  refine Ze _ (Zhn _) fun r33 hr33=>?_;conv=>rhs;whnf
  refine Zm rfl rfl fun x34 hx34=>?_;conv=>rhs;whnf
  refine Zh (Zr rfl hx34) ?_;conv=>rhs;whnf
  refine Zm rfl rfl fun x35 hx35=>?_;conv=>rhs;whnf
  refine Zh (Zr rfl hx35) ?_;conv=>rhs;whnf
  refine Zh (ZaX rfl hx35) ?_;conv=>rhs;whnf
  refine Zh (Zr rfl hx35) ?_;conv=>rhs;whnf
  refine Zl (Zaq Zd r33.2 r33.1.toNat x34) ?_;conv=>rhs;whnf
  refine Zm rfl rfl fun x36 hx36=>?_;conv=>rhs;whnf
  refine Zh (Zr rfl hx36) ?_;conv=>rhs;whnf
  refine Zl (Zaq Zd (List.set r33.2 r33.1.toNat x34) b.toNat x35) ?_;conv=>rhs;whnf
  exact Zb rfl
def Zd1 (b:Int) (c:Int) (d:Int) (m0_0:List Int):(Int×(List Int))→V×Zn
  | r=>((.d (Zd r.1)),[(.arr 1 (List.map Zd r.2))])
def Zdw (b:Int) (s3:Int×Int×(List Int)):Int→Ex×List V×Zn
  | r=>(.exit 2,[(.sl 0 1),(.d (Zd b)),(.d (Zd r)),(.d (Zd s3.2.1))],[(.arr 1 (List.map Zd s3.2.2))])
theorem Zge {b:Int}{s3:Int×Int×(List Int)}:∀(s4:Int) (r:Int),lp (ZaZ b s3) s4=some r→lpW ctx 1 [0,1,9,10] [0,1,9,10] ZwJ [(.sl 0 1),(.d (Zd b)),(.d (Zd s4)),(.d (Zd s3.2.1))] [(.arr 1 (List.map Zd s3.2.2))]=some ((Zdw b s3) r):=by
 refine Za7 (Zdw b s3) ?_
 intro s4 rcl ih
 show ZD _ _ (lpW _ _ _ _ _ _ _)
 unfold ZaZ
 rw[Za9]
 conv=>rhs;whnf
 refine Zc rfl ?_ ?_<;>conv=>rhs;whnf
 ·refine Zm rfl rfl fun x5 hx5=>?_;conv=>rhs;whnf
  refine Zh (Zr rfl hx5) ?_;conv=>rhs;whnf
  refine Zm rfl rfl fun x6 hx6=>?_;conv=>rhs;whnf
  refine Zh (Zr rfl hx6) ?_;conv=>rhs;whnf
  refine Zk _ ZK rfl fun x7 hx7=>?_;conv=>rhs;whnf
  refine Zc rfl ?_ ?_<;>conv=>rhs;whnf
  ·exact Zb rfl
  ·exact Zf (ih _)
 ·exact Zb rfl
def Zdv (b:Int) (s3:Int×Int×(List Int)) (r8:Int):Int→Ex×List V×Zn
  | r=>(.exit 4,[(.sl 0 1),(.d (Zd b)),(.d (Zd r8)),(.d (Zd r))],[(.arr 1 (List.map Zd s3.2.2))])
theorem Zgg {b:Int}{s3:Int×Int×(List Int)}{r8:Int}:∀(s9:Int) (r:Int),lp (Za0 b s3 r8) s9=some r→lpW ctx 1 [0,1,9,10] [0,1,9,10] Zw0 [(.sl 0 1),(.d (Zd b)),(.d (Zd r8)),(.d (Zd s9))] [(.arr 1 (List.map Zd s3.2.2))]=some ((Zdv b s3 r8) r):=by
 refine Za7 (Zdv b s3 r8) ?_
 intro s9 rcl ih
 show ZD _ _ (lpW _ _ _ _ _ _ _)
 unfold Za0
 rw[Za9]
 conv=>rhs;whnf
 refine Zc rfl ?_ ?_<;>conv=>rhs;whnf
 ·refine Zm rfl rfl fun x10 hx10=>?_;conv=>rhs;whnf
  refine Zh (Zr rfl hx10) ?_;conv=>rhs;whnf
  refine Zm rfl rfl fun x11 hx11=>?_;conv=>rhs;whnf
  refine Zh (Zr rfl hx11) ?_;conv=>rhs;whnf
  refine Zk _ ZK rfl fun x12 hx12=>?_;conv=>rhs;whnf
  refine Zc rfl ?_ ?_<;>conv=>rhs;whnf
  ·exact Zf (ih _)
  ·exact Zb rfl
 ·exact Zb rfl
def Zdx (b:Int):(Int×(List Int))→Ex×List V×Zn
  | r=>(.exit 0,[(.d (Zd r.1))],[(.arr 1 (List.map Zd r.2))])
theorem Zgd {b:Int}:∀(s3:Int×Int×(List Int)) (r:(Int×(List Int))),lp (Za1 b) s3=some r→lpW ctx 1 [0,1,9,10] [9] ZwP [(.sl 0 1),(.d (Zd b)),(.d (Zd s3.1)),(.d (Zd s3.2.1))] [(.arr 1 (List.map Zd s3.2.2))]=some ((Zdx b) r):=by
 refine Za7 (Zdx b) ?_
 intro s3 rcl ih
 show ZD _ _ (lpW _ _ _ _ _ _ _)
 unfold Za1
 rw[Za9]
 conv=>rhs;whnf
 refine Ze _ (Zge _) fun r8 hr8=>?_;conv=>rhs;whnf
 refine Ze _ (Zgg _) fun r13 hr13=>?_;conv=>rhs;whnf
 refine Zc rfl ?_ ?_<;>conv=>rhs;whnf
 ·exact Zb rfl
 ·refine Zm rfl rfl fun x14 hx14=>?_;conv=>rhs;whnf
  refine Zh (Zr rfl hx14) ?_;conv=>rhs;whnf
  refine Zm rfl rfl fun x15 hx15=>?_;conv=>rhs;whnf
  refine Zh (Zr rfl hx15) ?_;conv=>rhs;whnf
  refine Zh (ZaX rfl hx15) ?_;conv=>rhs;whnf
  refine Zh (Zr rfl hx15) ?_;conv=>rhs;whnf
  refine Zl (Zaq Zd s3.2.2 r8.toNat x14) ?_;conv=>rhs;whnf
  refine Zm rfl rfl fun x16 hx16=>?_;conv=>rhs;whnf
  refine Zh (Zr rfl hx16) ?_;conv=>rhs;whnf
  refine Zl (Zaq Zd (List.set s3.2.2 r8.toNat x14) r13.toNat x15) ?_;conv=>rhs;whnf
  exact Zf (ih _)
theorem ZS {b c d:Int}{m0_0:List Int}:∀r,(ZA b c d m0_0)=some r→evW ctx 200 [(.sl 0 1),(.d (Zd b)),(.d (Zd c)),(.d (Zd d))] [(.arr 1 (List.map Zd m0_0))]=some ((Zd1 b c d m0_0) r):=by
 show ZD _ (fun r rhs=>rhs=some ((Zd1 b c d m0_0) r)) _
 unfold ZA
 rw[ZcR ctx 200 ZAw _ _ rfl rfl]
 conv=>rhs;whnf
 refine Zm rfl rfl fun x0 hx0=>?_;conv=>rhs;whnf
 refine Zh (Zr rfl hx0) ?_;conv=>rhs;whnf
 refine Zm rfl rfl fun x1 hx1=>?_;conv=>rhs;whnf
 refine Zh (Zr rfl hx1) ?_;conv=>rhs;whnf
 refine Zh (ZaX rfl hx1) ?_;conv=>rhs;whnf
 refine Zh (Zr rfl hx1) ?_;conv=>rhs;whnf
 refine Zl (Zaq Zd m0_0 b.toNat x0) ?_;conv=>rhs;whnf
 refine Zm rfl rfl fun x2 hx2=>?_;conv=>rhs;whnf
 refine Zh (Zr rfl hx2) ?_;conv=>rhs;whnf
 refine Zl (Zaq Zd (List.set m0_0 b.toNat x0) d.toNat x1) ?_;conv=>rhs;whnf
 refine Ze _ (Zgd _) fun r17 hr17=>?_;conv=>rhs;whnf
 exact Zb rfl
def Zg4 (r:Int):D:=(D.int .u64 r)
theorem ZjN {a:Int}:∀r,(Zcc a)=some r→evD ctx 213 [(.d (Zd a))]=some (Zg4 r):=by
 show ZD _ (fun r rhs=>rhs=some (Zg4 r)) _
 unfold Zcc
 rw[ZaF ctx 213 ZAq _ rfl rfl]
 conv=>rhs;whnf
 refine Zk _ Zj0 rfl fun x0 hx0=>?_;conv=>rhs;whnf
 refine Zc rfl ?_ ?_
 ·exact ZI
 ·conv=>rhs;whnf
  exact Zb rfl
def Zhg (m0_0:Int):Unit→V×Zn
  | r=>((.d (D.int .u64 (u64.wrap (Zg (u64.wrap (Zg (u64.wrap (Zg m0_0 ^^^ Zg (u64.wrap (m0_0*2 ^ 13))).toNat) ^^^ Zg (Int.fdiv (u64.wrap (Zg m0_0 ^^^ Zg (u64.wrap (m0_0*2 ^ 13))).toNat) (2 ^ 7))).toNat) ^^^ Zg (u64.wrap ((u64.wrap (Zg (u64.wrap (Zg m0_0 ^^^ Zg (u64.wrap (m0_0*2 ^ 13))).toNat) ^^^ Zg (Int.fdiv (u64.wrap (Zg m0_0 ^^^ Zg (u64.wrap (m0_0*2 ^ 13))).toNat) (2 ^ 7))).toNat)*2 ^ 17))).toNat))),[(.cells [(.d (D.int .u64 (u64.wrap (Zg (u64.wrap (Zg (u64.wrap (Zg m0_0 ^^^ Zg (u64.wrap (m0_0*2 ^ 13))).toNat) ^^^ Zg (Int.fdiv (u64.wrap (Zg m0_0 ^^^ Zg (u64.wrap (m0_0*2 ^ 13))).toNat) (2 ^ 7))).toNat) ^^^ Zg (u64.wrap ((u64.wrap (Zg (u64.wrap (Zg m0_0 ^^^ Zg (u64.wrap (m0_0*2 ^ 13))).toNat) ^^^ Zg (Int.fdiv (u64.wrap (Zg m0_0 ^^^ Zg (u64.wrap (m0_0*2 ^ 13))).toNat) (2 ^ 7))).toNat)*2 ^ 17))).toNat)))])])
theorem Zj8 {m0_0:Int}:∀r,Zde=some r→evW ctx 214 [(.ptr 0 0)] [(.cells [(.d (D.int .u64 m0_0))])]=some ((Zhg m0_0) r):=by
 show ZD _ (fun r rhs=>rhs=some ((Zhg m0_0) r)) _
 unfold Zde
 rw[ZcR ctx 214 ZzX _ _ rfl rfl]
 conv=>rhs;whnf
 refine Zaw rfl ?_;conv=>rhs;whnf
 refine Zaw rfl ?_;conv=>rhs;whnf
 refine Zaw rfl ?_;conv=>rhs;whnf
 exact Zb rfl
def Zeh (b:Int) (c:Int) (m0_0:List Int):(List Int)→V×Zn
  | r=>((.d (D.tup [])),[(.arr 1 (List.map Zd r))])
def ZdD (b:Int) (c:Int) (x0:Int):(List Int)→Ex×List V×Zn
  | r=>(.exit 0,[],[(.arr 1 (List.map Zd r))])
theorem Zgs {b c x0:Int}:∀(s1:Int×(List Int)×Int) (r:List Int),lp (Zbd b c x0) s1=some r→lpW ctx 1 [0,1,6,7,8,9] [] Zwt [(.sl 0 1),(.d (Zd b)),(.d (Zd (w64 (c-b)))),(.ptr 1 0),(.d (D.int .u64 x0)),(.d (Zd s1.1))] [(.arr 1 (List.map Zd s1.2.1)),(.cells [(.d (D.int .u64 s1.2.2))])]=some ((ZdD b c x0) r):=by
 refine Za7 (ZdD b c x0) ?_
 intro s1 rcl ih
 show ZD _ _ (lpW _ _ _ _ _ _ _)
 unfold Zbd
 rw[Za9]
 conv=>rhs;whnf
 refine Zaw rfl ?_;conv=>rhs;whnf
 refine Zc rfl ?_ ?_<;>conv=>rhs;whnf
 ·refine Ze _ Zj8 fun x2 hx2=>?_;conv=>rhs;whnf
  refine Zc rfl ?_ ?_<;>conv=>rhs;whnf
  ·refine Zm rfl rfl fun x3 hx3=>?_;conv=>rhs;whnf
   refine Zh (Zr rfl hx3) ?_;conv=>rhs;whnf
   refine Zm rfl rfl fun x4 hx4=>?_;conv=>rhs;whnf
   refine Zh (Zr rfl hx4) ?_;conv=>rhs;whnf
   refine Zh (ZaX rfl hx4) ?_;conv=>rhs;whnf
   refine Zh (Zr rfl hx4) ?_;conv=>rhs;whnf
   refine Zl (Zaq Zd s1.2.1 s1.1.toNat x3) ?_;conv=>rhs;whnf
   refine Zm rfl rfl fun x5 hx5=>?_;conv=>rhs;whnf
   refine Zh (Zr rfl hx5) ?_;conv=>rhs;whnf
   refine Zl (Zaq Zd (List.set s1.2.1 s1.1.toNat x3) (w64 (b+(w64 ((w64 (u64.wrap (Zg (u64.wrap (Zg (u64.wrap (Zg (u64.wrap (Zg s1.2.2 ^^^ Zg (u64.wrap (s1.2.2*2 ^ 13))).toNat) ^^^ Zg (Int.fdiv (u64.wrap (Zg s1.2.2 ^^^ Zg (u64.wrap (s1.2.2*2 ^ 13))).toNat) (2 ^ 7))).toNat) ^^^ Zg (u64.wrap ((u64.wrap (Zg (u64.wrap (Zg s1.2.2 ^^^ Zg (u64.wrap (s1.2.2*2 ^ 13))).toNat) ^^^ Zg (Int.fdiv (u64.wrap (Zg s1.2.2 ^^^ Zg (u64.wrap (s1.2.2*2 ^ 13))).toNat) (2 ^ 7))).toNat)*2 ^ 17))).toNat) &&& Zg (u64.wrap (x0-1))).toNat))-(w64 (c-b)))))).toNat x4) ?_;conv=>rhs;whnf
   exact Zf (ih _)
  ·refine Zm rfl rfl fun x6 hx6=>?_;conv=>rhs;whnf
   refine Zh (Zr rfl hx6) ?_;conv=>rhs;whnf
   refine Zm rfl rfl fun x7 hx7=>?_;conv=>rhs;whnf
   refine Zh (Zr rfl hx7) ?_;conv=>rhs;whnf
   refine Zh (ZaX rfl hx7) ?_;conv=>rhs;whnf
   refine Zh (Zr rfl hx7) ?_;conv=>rhs;whnf
   refine Zl (Zaq Zd s1.2.1 s1.1.toNat x6) ?_;conv=>rhs;whnf
   refine Zm rfl rfl fun x8 hx8=>?_;conv=>rhs;whnf
   refine Zh (Zr rfl hx8) ?_;conv=>rhs;whnf
   refine Zl (Zaq Zd (List.set s1.2.1 s1.1.toNat x6) (w64 (b+(w64 (u64.wrap (Zg (u64.wrap (Zg (u64.wrap (Zg (u64.wrap (Zg s1.2.2 ^^^ Zg (u64.wrap (s1.2.2*2 ^ 13))).toNat) ^^^ Zg (Int.fdiv (u64.wrap (Zg s1.2.2 ^^^ Zg (u64.wrap (s1.2.2*2 ^ 13))).toNat) (2 ^ 7))).toNat) ^^^ Zg (u64.wrap ((u64.wrap (Zg (u64.wrap (Zg s1.2.2 ^^^ Zg (u64.wrap (s1.2.2*2 ^ 13))).toNat) ^^^ Zg (Int.fdiv (u64.wrap (Zg s1.2.2 ^^^ Zg (u64.wrap (s1.2.2*2 ^ 13))).toNat) (2 ^ 7))).toNat)*2 ^ 17))).toNat) &&& Zg (u64.wrap (x0-1))).toNat)))).toNat x7) ?_;conv=>rhs;whnf
   exact Zf (ih _)
 ·exact Zb rfl
theorem ZdZ {b c:Int}{m0_0:List Int}:∀r,(ZaT b c m0_0)=some r→evW ctx 195 [(.sl 0 1),(.d (Zd b)),(.d (Zd c))] [(.arr 1 (List.map Zd m0_0))]=some ((Zeh b c m0_0) r):=by
 show ZD _ (fun r rhs=>rhs=some ((Zeh b c m0_0) r)) _
 unfold ZaT
 rw[ZcR ctx 195 ZAd _ _ rfl rfl]
 conv=>rhs;whnf
 refine Zc rfl ?_ ?_<;>conv=>rhs;whnf
 ·refine Zk _ ZjN rfl fun x0 hx0=>?_;conv=>rhs;whnf
  refine Zaw rfl ?_;conv=>rhs;whnf
  refine Ze _ (Zgs _) fun r9 hr9=>?_;conv=>rhs;whnf
  exact Zb rfl
 ·exact Zb rfl
def Za (b:Int) (c:Int) (d:Int) (m0_0:List Int):(List Int)→V×Zn
  | r=>((.d (D.tup [])),[(.arr 1 (List.map Zd r))])
def Ze1 (rc:Int→Int→Int→(List Int)→Option (List Int)):(List Int)→Ex×List V×Zn
  | r=>(.ret,[],[(.arr 1 (List.map Zd r))])
theorem ZhI {rc:Int→Int→Int→(List Int)→Option (List Int)} (hrc:∀(b:Int) (c:Int) (d:Int) (m0_0:List Int) (r:List Int),rc b c d m0_0=some r→evW ctx 178 [(.sl 0 1),(.d (Zd b)),(.d (Zd c)),(.d (Zd d))] [(.arr 1 (List.map Zd m0_0))]=some ((Za b c d m0_0) r)):∀(s0:Int×Int×Int×Bool×Bool×(List Int)) (r:List Int),lp (ZbN rc) s0=some r→lpW ctx 1 [0,1,2,3,8,9] [] Zxb [(.sl 0 1),(.d (Zd s0.1)),(.d (Zd s0.2.1)),(.d (Zd s0.2.2.1)),(.d (D.bool s0.2.2.2.1)),(.d (D.bool s0.2.2.2.2.1))] [(.arr 1 (List.map Zd s0.2.2.2.2.2))]=some ((Ze1 rc) r):=by
 refine Za7 (Ze1 rc) ?_
 intro s0 rcl ih
 show ZD _ _ (lpW _ _ _ _ _ _ _)
 unfold ZbN
 rw[Za9]
 rcases hb:s0.2.2.2.1 with _ | _
 ·refine ZvV ?_
  rcases hb:s0.2.2.2.2.1 with _ | _
  ·refine ZvV ?_;conv=>rhs;whnf
   refine Zc rfl ?_ ?_<;>conv=>rhs;whnf
   ·refine Ze _ ZbK fun x170 hx170=>?_;conv=>rhs;whnf
    exact Zb rfl
   ·refine Zc rfl ?_ ?_<;>conv=>rhs;whnf
    ·refine Ze _ Zch fun x171 hx171=>?_;conv=>rhs;whnf
     exact Zb rfl
    ·refine Ze _ ZdZ fun x172 hx172=>?_;conv=>rhs;whnf
     refine Ze _ ZbY fun x173 hx173=>?_;conv=>rhs;whnf
     refine Zc rfl ?_ ?_<;>conv=>rhs;whnf
     ·refine Ze _ ZbP fun x174 hx174=>?_;conv=>rhs;whnf
      refine Zc rfl ?_ ?_<;>conv=>rhs;whnf
      ·refine Zm rfl rfl fun x175 hx175=>?_;conv=>rhs;whnf
       refine Zh (Zr rfl hx175) ?_;conv=>rhs;whnf
       refine Zm rfl rfl fun x176 hx176=>?_;conv=>rhs;whnf
       refine Zh (Zr rfl hx176) ?_;conv=>rhs;whnf
       refine Zk _ ZK rfl fun x177 hx177=>?_;conv=>rhs;whnf
       refine Zc rfl ?_ ?_<;>conv=>rhs;whnf
       ·refine Ze _ Zu fun x178 hx178=>?_
        clear hx178
        rcases x178 with x178 | x178
        ·conv=>rhs;whnf
         refine ZbQ rfl ?_;conv=>rhs;whnf
         refine Zaw rfl ?_;conv=>rhs;whnf
         refine Zc rfl ?_ ?_<;>conv=>rhs;whnf
         ·refine Zc rfl ?_ ?_<;>conv=>rhs;whnf
          ·refine Ze (Za s0.1 x178.1 (w64 (s0.2.2.1-1)) x178.2) (hrc s0.1 x178.1 (w64 (s0.2.2.1-1)) x178.2) fun x179 hx179=>?_;conv=>rhs;whnf
           exact Zf (ih _)
          ·refine Ze (Za s0.1 x178.1 (w64 (s0.2.2.1-1)) x178.2) (hrc s0.1 x178.1 (w64 (s0.2.2.1-1)) x178.2) fun x180 hx180=>?_;conv=>rhs;whnf
           exact Zf (ih _)
         ·refine Zc rfl ?_ ?_<;>conv=>rhs;whnf
          ·refine Ze (Za (w64 (x178.1+1)) s0.2.1 (w64 (s0.2.2.1-1)) x178.2) (hrc (w64 (x178.1+1)) s0.2.1 (w64 (s0.2.2.1-1)) x178.2) fun x181 hx181=>?_;conv=>rhs;whnf
           exact Zf (ih _)
          ·refine Ze (Za (w64 (x178.1+1)) s0.2.1 (w64 (s0.2.2.1-1)) x178.2) (hrc (w64 (x178.1+1)) s0.2.1 (w64 (s0.2.2.1-1)) x178.2) fun x182 hx182=>?_;conv=>rhs;whnf
           exact Zf (ih _)
        ·conv=>rhs;whnf
         refine Zaw rfl ?_;conv=>rhs;whnf
         refine Zaw rfl ?_;conv=>rhs;whnf
         refine Zc rfl ?_ ?_<;>conv=>rhs;whnf
         ·refine Zc rfl ?_ ?_<;>conv=>rhs;whnf
          ·refine Ze (Za s0.1 x178.1 (w64 (s0.2.2.1-1)) x178.2) (hrc s0.1 x178.1 (w64 (s0.2.2.1-1)) x178.2) fun x183 hx183=>?_;conv=>rhs;whnf
           exact Zf (ih _)
          ·refine Ze (Za s0.1 x178.1 (w64 (s0.2.2.1-1)) x178.2) (hrc s0.1 x178.1 (w64 (s0.2.2.1-1)) x178.2) fun x184 hx184=>?_;conv=>rhs;whnf
           exact Zf (ih _)
         ·refine Zc rfl ?_ ?_<;>conv=>rhs;whnf
          ·refine Ze (Za (w64 (x178.1+1)) s0.2.1 (w64 (s0.2.2.1-1)) x178.2) (hrc (w64 (x178.1+1)) s0.2.1 (w64 (s0.2.2.1-1)) x178.2) fun x185 hx185=>?_;conv=>rhs;whnf
           exact Zf (ih _)
          ·refine Ze (Za (w64 (x178.1+1)) s0.2.1 (w64 (s0.2.2.1-1)) x178.2) (hrc (w64 (x178.1+1)) s0.2.1 (w64 (s0.2.2.1-1)) x178.2) fun x186 hx186=>?_;conv=>rhs;whnf
           exact Zf (ih _)
       ·refine Ze _ ZS fun x187 hx187=>?_;conv=>rhs;whnf
        exact Zf (ih _)
      ·refine Ze _ Zu fun x188 hx188=>?_
       clear hx188
       rcases x188 with x188 | x188
       ·conv=>rhs;whnf
        refine ZbQ rfl ?_;conv=>rhs;whnf
        refine Zaw rfl ?_;conv=>rhs;whnf
        refine Zc rfl ?_ ?_<;>conv=>rhs;whnf
        ·refine Zc rfl ?_ ?_<;>conv=>rhs;whnf
         ·refine Ze (Za s0.1 x188.1 (w64 (s0.2.2.1-1)) x188.2) (hrc s0.1 x188.1 (w64 (s0.2.2.1-1)) x188.2) fun x189 hx189=>?_;conv=>rhs;whnf
          exact Zf (ih _)
         ·refine Ze (Za s0.1 x188.1 (w64 (s0.2.2.1-1)) x188.2) (hrc s0.1 x188.1 (w64 (s0.2.2.1-1)) x188.2) fun x190 hx190=>?_;conv=>rhs;whnf
          exact Zf (ih _)
        ·refine Zc rfl ?_ ?_<;>conv=>rhs;whnf
         ·refine Ze (Za (w64 (x188.1+1)) s0.2.1 (w64 (s0.2.2.1-1)) x188.2) (hrc (w64 (x188.1+1)) s0.2.1 (w64 (s0.2.2.1-1)) x188.2) fun x191 hx191=>?_;conv=>rhs;whnf
          exact Zf (ih _)
         ·refine Ze (Za (w64 (x188.1+1)) s0.2.1 (w64 (s0.2.2.1-1)) x188.2) (hrc (w64 (x188.1+1)) s0.2.1 (w64 (s0.2.2.1-1)) x188.2) fun x192 hx192=>?_;conv=>rhs;whnf
          exact Zf (ih _)
       ·conv=>rhs;whnf
        refine Zaw rfl ?_;conv=>rhs;whnf
        refine Zaw rfl ?_;conv=>rhs;whnf
        refine Zc rfl ?_ ?_<;>conv=>rhs;whnf
        ·refine Zc rfl ?_ ?_<;>conv=>rhs;whnf
         ·refine Ze (Za s0.1 x188.1 (w64 (s0.2.2.1-1)) x188.2) (hrc s0.1 x188.1 (w64 (s0.2.2.1-1)) x188.2) fun x193 hx193=>?_;conv=>rhs;whnf
          exact Zf (ih _)
         ·refine Ze (Za s0.1 x188.1 (w64 (s0.2.2.1-1)) x188.2) (hrc s0.1 x188.1 (w64 (s0.2.2.1-1)) x188.2) fun x194 hx194=>?_;conv=>rhs;whnf
          exact Zf (ih _)
        ·refine Zc rfl ?_ ?_<;>conv=>rhs;whnf
         ·refine Ze (Za (w64 (x188.1+1)) s0.2.1 (w64 (s0.2.2.1-1)) x188.2) (hrc (w64 (x188.1+1)) s0.2.1 (w64 (s0.2.2.1-1)) x188.2) fun x195 hx195=>?_;conv=>rhs;whnf
          exact Zf (ih _)
         ·refine Ze (Za (w64 (x188.1+1)) s0.2.1 (w64 (s0.2.2.1-1)) x188.2) (hrc (w64 (x188.1+1)) s0.2.1 (w64 (s0.2.2.1-1)) x188.2) fun x196 hx196=>?_;conv=>rhs;whnf
          exact Zf (ih _)
     ·refine Zc rfl ?_ ?_<;>conv=>rhs;whnf
      ·refine Zm rfl rfl fun x197 hx197=>?_;conv=>rhs;whnf
       refine Zh (Zr rfl hx197) ?_;conv=>rhs;whnf
       refine Zm rfl rfl fun x198 hx198=>?_;conv=>rhs;whnf
       refine Zh (Zr rfl hx198) ?_;conv=>rhs;whnf
       refine Zk _ ZK rfl fun x199 hx199=>?_;conv=>rhs;whnf
       refine Zc rfl ?_ ?_<;>conv=>rhs;whnf
       ·refine Ze _ Zu fun x200 hx200=>?_
        clear hx200
        rcases x200 with x200 | x200
        ·conv=>rhs;whnf
         refine ZbQ rfl ?_;conv=>rhs;whnf
         refine Zaw rfl ?_;conv=>rhs;whnf
         refine Zc rfl ?_ ?_<;>conv=>rhs;whnf
         ·refine Zc rfl ?_ ?_<;>conv=>rhs;whnf
          ·refine Ze (Za s0.1 x200.1 (w64 (s0.2.2.1-1)) x200.2) (hrc s0.1 x200.1 (w64 (s0.2.2.1-1)) x200.2) fun x201 hx201=>?_;conv=>rhs;whnf
           exact Zf (ih _)
          ·refine Ze (Za s0.1 x200.1 (w64 (s0.2.2.1-1)) x200.2) (hrc s0.1 x200.1 (w64 (s0.2.2.1-1)) x200.2) fun x202 hx202=>?_;conv=>rhs;whnf
           exact Zf (ih _)
         ·refine Zc rfl ?_ ?_<;>conv=>rhs;whnf
          ·refine Ze (Za (w64 (x200.1+1)) s0.2.1 (w64 (s0.2.2.1-1)) x200.2) (hrc (w64 (x200.1+1)) s0.2.1 (w64 (s0.2.2.1-1)) x200.2) fun x203 hx203=>?_;conv=>rhs;whnf
           exact Zf (ih _)
          ·refine Ze (Za (w64 (x200.1+1)) s0.2.1 (w64 (s0.2.2.1-1)) x200.2) (hrc (w64 (x200.1+1)) s0.2.1 (w64 (s0.2.2.1-1)) x200.2) fun x204 hx204=>?_;conv=>rhs;whnf
           exact Zf (ih _)
        ·conv=>rhs;whnf
         refine Zaw rfl ?_;conv=>rhs;whnf
         refine Zaw rfl ?_;conv=>rhs;whnf
         refine Zc rfl ?_ ?_<;>conv=>rhs;whnf
         ·refine Zc rfl ?_ ?_<;>conv=>rhs;whnf
          ·refine Ze (Za s0.1 x200.1 (w64 (s0.2.2.1-1)) x200.2) (hrc s0.1 x200.1 (w64 (s0.2.2.1-1)) x200.2) fun x205 hx205=>?_;conv=>rhs;whnf
           exact Zf (ih _)
          ·refine Ze (Za s0.1 x200.1 (w64 (s0.2.2.1-1)) x200.2) (hrc s0.1 x200.1 (w64 (s0.2.2.1-1)) x200.2) fun x206 hx206=>?_;conv=>rhs;whnf
           exact Zf (ih _)
         ·refine Zc rfl ?_ ?_<;>conv=>rhs;whnf
          ·refine Ze (Za (w64 (x200.1+1)) s0.2.1 (w64 (s0.2.2.1-1)) x200.2) (hrc (w64 (x200.1+1)) s0.2.1 (w64 (s0.2.2.1-1)) x200.2) fun x207 hx207=>?_;conv=>rhs;whnf
           exact Zf (ih _)
          ·refine Ze (Za (w64 (x200.1+1)) s0.2.1 (w64 (s0.2.2.1-1)) x200.2) (hrc (w64 (x200.1+1)) s0.2.1 (w64 (s0.2.2.1-1)) x200.2) fun x208 hx208=>?_;conv=>rhs;whnf
           exact Zf (ih _)
       ·refine Ze _ ZS fun x209 hx209=>?_;conv=>rhs;whnf
        exact Zf (ih _)
      ·refine Ze _ Zu fun x210 hx210=>?_
       clear hx210
       rcases x210 with x210 | x210
       ·conv=>rhs;whnf
        refine ZbQ rfl ?_;conv=>rhs;whnf
        refine Zaw rfl ?_;conv=>rhs;whnf
        refine Zc rfl ?_ ?_<;>conv=>rhs;whnf
        ·refine Zc rfl ?_ ?_<;>conv=>rhs;whnf
         ·refine Ze (Za s0.1 x210.1 (w64 (s0.2.2.1-1)) x210.2) (hrc s0.1 x210.1 (w64 (s0.2.2.1-1)) x210.2) fun x211 hx211=>?_;conv=>rhs;whnf
          exact Zf (ih _)
         ·refine Ze (Za s0.1 x210.1 (w64 (s0.2.2.1-1)) x210.2) (hrc s0.1 x210.1 (w64 (s0.2.2.1-1)) x210.2) fun x212 hx212=>?_;conv=>rhs;whnf
          exact Zf (ih _)
        ·refine Zc rfl ?_ ?_<;>conv=>rhs;whnf
         ·refine Ze (Za (w64 (x210.1+1)) s0.2.1 (w64 (s0.2.2.1-1)) x210.2) (hrc (w64 (x210.1+1)) s0.2.1 (w64 (s0.2.2.1-1)) x210.2) fun x213 hx213=>?_;conv=>rhs;whnf
          exact Zf (ih _)
         ·refine Ze (Za (w64 (x210.1+1)) s0.2.1 (w64 (s0.2.2.1-1)) x210.2) (hrc (w64 (x210.1+1)) s0.2.1 (w64 (s0.2.2.1-1)) x210.2) fun x214 hx214=>?_;conv=>rhs;whnf
          exact Zf (ih _)
       ·conv=>rhs;whnf
        refine Zaw rfl ?_;conv=>rhs;whnf
        refine Zaw rfl ?_;conv=>rhs;whnf
        refine Zc rfl ?_ ?_<;>conv=>rhs;whnf
        ·refine Zc rfl ?_ ?_<;>conv=>rhs;whnf
         ·refine Ze (Za s0.1 x210.1 (w64 (s0.2.2.1-1)) x210.2) (hrc s0.1 x210.1 (w64 (s0.2.2.1-1)) x210.2) fun x215 hx215=>?_;conv=>rhs;whnf
          exact Zf (ih _)
         ·refine Ze (Za s0.1 x210.1 (w64 (s0.2.2.1-1)) x210.2) (hrc s0.1 x210.1 (w64 (s0.2.2.1-1)) x210.2) fun x216 hx216=>?_;conv=>rhs;whnf
          exact Zf (ih _)
        ·refine Zc rfl ?_ ?_<;>conv=>rhs;whnf
         ·refine Ze (Za (w64 (x210.1+1)) s0.2.1 (w64 (s0.2.2.1-1)) x210.2) (hrc (w64 (x210.1+1)) s0.2.1 (w64 (s0.2.2.1-1)) x210.2) fun x217 hx217=>?_;conv=>rhs;whnf
          exact Zf (ih _)
         ·refine Ze (Za (w64 (x210.1+1)) s0.2.1 (w64 (s0.2.2.1-1)) x210.2) (hrc (w64 (x210.1+1)) s0.2.1 (w64 (s0.2.2.1-1)) x210.2) fun x218 hx218=>?_;conv=>rhs;whnf
          exact Zf (ih _)
  ·refine Zvd ?_;conv=>rhs;whnf
   refine Zc rfl ?_ ?_<;>conv=>rhs;whnf
   ·refine Ze _ ZbK fun x121 hx121=>?_;conv=>rhs;whnf
    exact Zb rfl
   ·refine Zc rfl ?_ ?_<;>conv=>rhs;whnf
    ·refine Ze _ Zch fun x122 hx122=>?_;conv=>rhs;whnf
     exact Zb rfl
    ·refine Ze _ ZdZ fun x123 hx123=>?_;conv=>rhs;whnf
     refine Ze _ ZbY fun x124 hx124=>?_;conv=>rhs;whnf
     refine Zc rfl ?_ ?_<;>conv=>rhs;whnf
     ·refine Ze _ ZbP fun x125 hx125=>?_;conv=>rhs;whnf
      refine Zc rfl ?_ ?_<;>conv=>rhs;whnf
      ·refine Zm rfl rfl fun x126 hx126=>?_;conv=>rhs;whnf
       refine Zh (Zr rfl hx126) ?_;conv=>rhs;whnf
       refine Zm rfl rfl fun x127 hx127=>?_;conv=>rhs;whnf
       refine Zh (Zr rfl hx127) ?_;conv=>rhs;whnf
       refine Zk _ ZK rfl fun x128 hx128=>?_;conv=>rhs;whnf
       refine Zc rfl ?_ ?_<;>conv=>rhs;whnf
       ·refine Ze _ Zu fun x129 hx129=>?_
        clear hx129
        rcases x129 with x129 | x129
        ·conv=>rhs;whnf
         refine ZbQ rfl ?_;conv=>rhs;whnf
         refine Zaw rfl ?_;conv=>rhs;whnf
         refine Zc rfl ?_ ?_<;>conv=>rhs;whnf
         ·refine Zc rfl ?_ ?_<;>conv=>rhs;whnf
          ·refine Ze (Za s0.1 x129.1 (w64 (s0.2.2.1-1)) x129.2) (hrc s0.1 x129.1 (w64 (s0.2.2.1-1)) x129.2) fun x130 hx130=>?_;conv=>rhs;whnf
           exact Zf (ih _)
          ·refine Ze (Za s0.1 x129.1 (w64 (s0.2.2.1-1)) x129.2) (hrc s0.1 x129.1 (w64 (s0.2.2.1-1)) x129.2) fun x131 hx131=>?_;conv=>rhs;whnf
           exact Zf (ih _)
         ·refine Zc rfl ?_ ?_<;>conv=>rhs;whnf
          ·refine Ze (Za (w64 (x129.1+1)) s0.2.1 (w64 (s0.2.2.1-1)) x129.2) (hrc (w64 (x129.1+1)) s0.2.1 (w64 (s0.2.2.1-1)) x129.2) fun x132 hx132=>?_;conv=>rhs;whnf
           exact Zf (ih _)
          ·refine Ze (Za (w64 (x129.1+1)) s0.2.1 (w64 (s0.2.2.1-1)) x129.2) (hrc (w64 (x129.1+1)) s0.2.1 (w64 (s0.2.2.1-1)) x129.2) fun x133 hx133=>?_;conv=>rhs;whnf
           exact Zf (ih _)
        ·conv=>rhs;whnf
         refine Zaw rfl ?_;conv=>rhs;whnf
         refine Zaw rfl ?_;conv=>rhs;whnf
         refine Zc rfl ?_ ?_<;>conv=>rhs;whnf
         ·refine Zc rfl ?_ ?_<;>conv=>rhs;whnf
          ·refine Ze (Za s0.1 x129.1 (w64 (s0.2.2.1-1)) x129.2) (hrc s0.1 x129.1 (w64 (s0.2.2.1-1)) x129.2) fun x134 hx134=>?_;conv=>rhs;whnf
           exact Zf (ih _)
          ·refine Ze (Za s0.1 x129.1 (w64 (s0.2.2.1-1)) x129.2) (hrc s0.1 x129.1 (w64 (s0.2.2.1-1)) x129.2) fun x135 hx135=>?_;conv=>rhs;whnf
           exact Zf (ih _)
         ·refine Zc rfl ?_ ?_<;>conv=>rhs;whnf
          ·refine Ze (Za (w64 (x129.1+1)) s0.2.1 (w64 (s0.2.2.1-1)) x129.2) (hrc (w64 (x129.1+1)) s0.2.1 (w64 (s0.2.2.1-1)) x129.2) fun x136 hx136=>?_;conv=>rhs;whnf
           exact Zf (ih _)
          ·refine Ze (Za (w64 (x129.1+1)) s0.2.1 (w64 (s0.2.2.1-1)) x129.2) (hrc (w64 (x129.1+1)) s0.2.1 (w64 (s0.2.2.1-1)) x129.2) fun x137 hx137=>?_;conv=>rhs;whnf
           exact Zf (ih _)
       ·refine Ze _ ZS fun x138 hx138=>?_;conv=>rhs;whnf
        exact Zf (ih _)
      ·refine Ze _ Zu fun x139 hx139=>?_
       clear hx139
       rcases x139 with x139 | x139
       ·conv=>rhs;whnf
        refine ZbQ rfl ?_;conv=>rhs;whnf
        refine Zaw rfl ?_;conv=>rhs;whnf
        refine Zc rfl ?_ ?_<;>conv=>rhs;whnf
        ·refine Zc rfl ?_ ?_<;>conv=>rhs;whnf
         ·refine Ze (Za s0.1 x139.1 (w64 (s0.2.2.1-1)) x139.2) (hrc s0.1 x139.1 (w64 (s0.2.2.1-1)) x139.2) fun x140 hx140=>?_;conv=>rhs;whnf
          exact Zf (ih _)
         ·refine Ze (Za s0.1 x139.1 (w64 (s0.2.2.1-1)) x139.2) (hrc s0.1 x139.1 (w64 (s0.2.2.1-1)) x139.2) fun x141 hx141=>?_;conv=>rhs;whnf
          exact Zf (ih _)
        ·refine Zc rfl ?_ ?_<;>conv=>rhs;whnf
         ·refine Ze (Za (w64 (x139.1+1)) s0.2.1 (w64 (s0.2.2.1-1)) x139.2) (hrc (w64 (x139.1+1)) s0.2.1 (w64 (s0.2.2.1-1)) x139.2) fun x142 hx142=>?_;conv=>rhs;whnf
          exact Zf (ih _)
         ·refine Ze (Za (w64 (x139.1+1)) s0.2.1 (w64 (s0.2.2.1-1)) x139.2) (hrc (w64 (x139.1+1)) s0.2.1 (w64 (s0.2.2.1-1)) x139.2) fun x143 hx143=>?_;conv=>rhs;whnf
          exact Zf (ih _)
       ·conv=>rhs;whnf
        refine Zaw rfl ?_;conv=>rhs;whnf
        refine Zaw rfl ?_;conv=>rhs;whnf
        refine Zc rfl ?_ ?_<;>conv=>rhs;whnf
        ·refine Zc rfl ?_ ?_<;>conv=>rhs;whnf
         ·refine Ze (Za s0.1 x139.1 (w64 (s0.2.2.1-1)) x139.2) (hrc s0.1 x139.1 (w64 (s0.2.2.1-1)) x139.2) fun x144 hx144=>?_;conv=>rhs;whnf
          exact Zf (ih _)
         ·refine Ze (Za s0.1 x139.1 (w64 (s0.2.2.1-1)) x139.2) (hrc s0.1 x139.1 (w64 (s0.2.2.1-1)) x139.2) fun x145 hx145=>?_;conv=>rhs;whnf
          exact Zf (ih _)
        ·refine Zc rfl ?_ ?_<;>conv=>rhs;whnf
         ·refine Ze (Za (w64 (x139.1+1)) s0.2.1 (w64 (s0.2.2.1-1)) x139.2) (hrc (w64 (x139.1+1)) s0.2.1 (w64 (s0.2.2.1-1)) x139.2) fun x146 hx146=>?_;conv=>rhs;whnf
          exact Zf (ih _)
         ·refine Ze (Za (w64 (x139.1+1)) s0.2.1 (w64 (s0.2.2.1-1)) x139.2) (hrc (w64 (x139.1+1)) s0.2.1 (w64 (s0.2.2.1-1)) x139.2) fun x147 hx147=>?_;conv=>rhs;whnf
          exact Zf (ih _)
     ·refine Zc rfl ?_ ?_<;>conv=>rhs;whnf
      ·refine Zm rfl rfl fun x148 hx148=>?_;conv=>rhs;whnf
       refine Zh (Zr rfl hx148) ?_;conv=>rhs;whnf
       refine Zm rfl rfl fun x149 hx149=>?_;conv=>rhs;whnf
       refine Zh (Zr rfl hx149) ?_;conv=>rhs;whnf
       refine Zk _ ZK rfl fun x150 hx150=>?_;conv=>rhs;whnf
       refine Zc rfl ?_ ?_<;>conv=>rhs;whnf
       ·refine Ze _ Zu fun x151 hx151=>?_
        clear hx151
        rcases x151 with x151 | x151
        ·conv=>rhs;whnf
         refine ZbQ rfl ?_;conv=>rhs;whnf
         refine Zaw rfl ?_;conv=>rhs;whnf
         refine Zc rfl ?_ ?_<;>conv=>rhs;whnf
         ·refine Zc rfl ?_ ?_<;>conv=>rhs;whnf
          ·refine Ze (Za s0.1 x151.1 (w64 (s0.2.2.1-1)) x151.2) (hrc s0.1 x151.1 (w64 (s0.2.2.1-1)) x151.2) fun x152 hx152=>?_;conv=>rhs;whnf
           exact Zf (ih _)
          ·refine Ze (Za s0.1 x151.1 (w64 (s0.2.2.1-1)) x151.2) (hrc s0.1 x151.1 (w64 (s0.2.2.1-1)) x151.2) fun x153 hx153=>?_;conv=>rhs;whnf
           exact Zf (ih _)
         ·refine Zc rfl ?_ ?_<;>conv=>rhs;whnf
          ·refine Ze (Za (w64 (x151.1+1)) s0.2.1 (w64 (s0.2.2.1-1)) x151.2) (hrc (w64 (x151.1+1)) s0.2.1 (w64 (s0.2.2.1-1)) x151.2) fun x154 hx154=>?_;conv=>rhs;whnf
           exact Zf (ih _)
          ·refine Ze (Za (w64 (x151.1+1)) s0.2.1 (w64 (s0.2.2.1-1)) x151.2) (hrc (w64 (x151.1+1)) s0.2.1 (w64 (s0.2.2.1-1)) x151.2) fun x155 hx155=>?_;conv=>rhs;whnf
           exact Zf (ih _)
        ·conv=>rhs;whnf
         refine Zaw rfl ?_;conv=>rhs;whnf
         refine Zaw rfl ?_;conv=>rhs;whnf
         refine Zc rfl ?_ ?_<;>conv=>rhs;whnf
         ·refine Zc rfl ?_ ?_<;>conv=>rhs;whnf
          ·refine Ze (Za s0.1 x151.1 (w64 (s0.2.2.1-1)) x151.2) (hrc s0.1 x151.1 (w64 (s0.2.2.1-1)) x151.2) fun x156 hx156=>?_;conv=>rhs;whnf
           exact Zf (ih _)
          ·refine Ze (Za s0.1 x151.1 (w64 (s0.2.2.1-1)) x151.2) (hrc s0.1 x151.1 (w64 (s0.2.2.1-1)) x151.2) fun x157 hx157=>?_;conv=>rhs;whnf
           exact Zf (ih _)
         ·refine Zc rfl ?_ ?_<;>conv=>rhs;whnf
          ·refine Ze (Za (w64 (x151.1+1)) s0.2.1 (w64 (s0.2.2.1-1)) x151.2) (hrc (w64 (x151.1+1)) s0.2.1 (w64 (s0.2.2.1-1)) x151.2) fun x158 hx158=>?_;conv=>rhs;whnf
           exact Zf (ih _)
          ·refine Ze (Za (w64 (x151.1+1)) s0.2.1 (w64 (s0.2.2.1-1)) x151.2) (hrc (w64 (x151.1+1)) s0.2.1 (w64 (s0.2.2.1-1)) x151.2) fun x159 hx159=>?_;conv=>rhs;whnf
           exact Zf (ih _)
       ·refine Ze _ ZS fun x160 hx160=>?_;conv=>rhs;whnf
        exact Zf (ih _)
      ·refine Ze _ Zu fun x161 hx161=>?_
       clear hx161
       rcases x161 with x161 | x161
       ·conv=>rhs;whnf
        refine ZbQ rfl ?_;conv=>rhs;whnf
        refine Zaw rfl ?_;conv=>rhs;whnf
        refine Zc rfl ?_ ?_<;>conv=>rhs;whnf
        ·refine Zc rfl ?_ ?_<;>conv=>rhs;whnf
         ·refine Ze (Za s0.1 x161.1 (w64 (s0.2.2.1-1)) x161.2) (hrc s0.1 x161.1 (w64 (s0.2.2.1-1)) x161.2) fun x162 hx162=>?_;conv=>rhs;whnf
          exact Zf (ih _)
         ·refine Ze (Za s0.1 x161.1 (w64 (s0.2.2.1-1)) x161.2) (hrc s0.1 x161.1 (w64 (s0.2.2.1-1)) x161.2) fun x163 hx163=>?_;conv=>rhs;whnf
          exact Zf (ih _)
        ·refine Zc rfl ?_ ?_<;>conv=>rhs;whnf
         ·refine Ze (Za (w64 (x161.1+1)) s0.2.1 (w64 (s0.2.2.1-1)) x161.2) (hrc (w64 (x161.1+1)) s0.2.1 (w64 (s0.2.2.1-1)) x161.2) fun x164 hx164=>?_;conv=>rhs;whnf
          exact Zf (ih _)
         ·refine Ze (Za (w64 (x161.1+1)) s0.2.1 (w64 (s0.2.2.1-1)) x161.2) (hrc (w64 (x161.1+1)) s0.2.1 (w64 (s0.2.2.1-1)) x161.2) fun x165 hx165=>?_;conv=>rhs;whnf
          exact Zf (ih _)
       ·conv=>rhs;whnf
        refine Zaw rfl ?_;conv=>rhs;whnf
        refine Zaw rfl ?_;conv=>rhs;whnf
        refine Zc rfl ?_ ?_<;>conv=>rhs;whnf
        ·refine Zc rfl ?_ ?_<;>conv=>rhs;whnf
         ·refine Ze (Za s0.1 x161.1 (w64 (s0.2.2.1-1)) x161.2) (hrc s0.1 x161.1 (w64 (s0.2.2.1-1)) x161.2) fun x166 hx166=>?_;conv=>rhs;whnf
          exact Zf (ih _)
         ·refine Ze (Za s0.1 x161.1 (w64 (s0.2.2.1-1)) x161.2) (hrc s0.1 x161.1 (w64 (s0.2.2.1-1)) x161.2) fun x167 hx167=>?_;conv=>rhs;whnf
          exact Zf (ih _)
        ·refine Zc rfl ?_ ?_<;>conv=>rhs;whnf
         ·refine Ze (Za (w64 (x161.1+1)) s0.2.1 (w64 (s0.2.2.1-1)) x161.2) (hrc (w64 (x161.1+1)) s0.2.1 (w64 (s0.2.2.1-1)) x161.2) fun x168 hx168=>?_;conv=>rhs;whnf
          exact Zf (ih _)
         ·refine Ze (Za (w64 (x161.1+1)) s0.2.1 (w64 (s0.2.2.1-1)) x161.2) (hrc (w64 (x161.1+1)) s0.2.1 (w64 (s0.2.2.1-1)) x161.2) fun x169 hx169=>?_;conv=>rhs;whnf
          exact Zf (ih _)
 ·refine Zvd ?_
  rcases hb:s0.2.2.2.2.1 with _ | _
  ·refine ZvV ?_;conv=>rhs;whnf
   refine Zc rfl ?_ ?_<;>conv=>rhs;whnf
   ·refine Ze _ ZbK fun x73 hx73=>?_;conv=>rhs;whnf
    exact Zb rfl
   ·refine Zc rfl ?_ ?_<;>conv=>rhs;whnf
    ·refine Ze _ Zch fun x74 hx74=>?_;conv=>rhs;whnf
     exact Zb rfl
    ·refine Ze _ ZbY fun x75 hx75=>?_;conv=>rhs;whnf
     refine Zc rfl ?_ ?_<;>conv=>rhs;whnf
     ·refine Ze _ ZbP fun x76 hx76=>?_;conv=>rhs;whnf
      refine Zc rfl ?_ ?_<;>conv=>rhs;whnf
      ·refine Zm rfl rfl fun x77 hx77=>?_;conv=>rhs;whnf
       refine Zh (Zr rfl hx77) ?_;conv=>rhs;whnf
       refine Zm rfl rfl fun x78 hx78=>?_;conv=>rhs;whnf
       refine Zh (Zr rfl hx78) ?_;conv=>rhs;whnf
       refine Zk _ ZK rfl fun x79 hx79=>?_;conv=>rhs;whnf
       refine Zc rfl ?_ ?_<;>conv=>rhs;whnf
       ·refine Ze _ Zu fun x80 hx80=>?_
        clear hx80
        rcases x80 with x80 | x80
        ·conv=>rhs;whnf
         refine ZbQ rfl ?_;conv=>rhs;whnf
         refine Zaw rfl ?_;conv=>rhs;whnf
         refine Zc rfl ?_ ?_<;>conv=>rhs;whnf
         ·refine Zc rfl ?_ ?_<;>conv=>rhs;whnf
          ·refine Ze (Za s0.1 x80.1 s0.2.2.1 x80.2) (hrc s0.1 x80.1 s0.2.2.1 x80.2) fun x81 hx81=>?_;conv=>rhs;whnf
           exact Zf (ih _)
          ·refine Ze (Za s0.1 x80.1 s0.2.2.1 x80.2) (hrc s0.1 x80.1 s0.2.2.1 x80.2) fun x82 hx82=>?_;conv=>rhs;whnf
           exact Zf (ih _)
         ·refine Zc rfl ?_ ?_<;>conv=>rhs;whnf
          ·refine Ze (Za (w64 (x80.1+1)) s0.2.1 s0.2.2.1 x80.2) (hrc (w64 (x80.1+1)) s0.2.1 s0.2.2.1 x80.2) fun x83 hx83=>?_;conv=>rhs;whnf
           exact Zf (ih _)
          ·refine Ze (Za (w64 (x80.1+1)) s0.2.1 s0.2.2.1 x80.2) (hrc (w64 (x80.1+1)) s0.2.1 s0.2.2.1 x80.2) fun x84 hx84=>?_;conv=>rhs;whnf
           exact Zf (ih _)
        ·conv=>rhs;whnf
         refine Zaw rfl ?_;conv=>rhs;whnf
         refine Zaw rfl ?_;conv=>rhs;whnf
         refine Zc rfl ?_ ?_<;>conv=>rhs;whnf
         ·refine Zc rfl ?_ ?_<;>conv=>rhs;whnf
          ·refine Ze (Za s0.1 x80.1 s0.2.2.1 x80.2) (hrc s0.1 x80.1 s0.2.2.1 x80.2) fun x85 hx85=>?_;conv=>rhs;whnf
           exact Zf (ih _)
          ·refine Ze (Za s0.1 x80.1 s0.2.2.1 x80.2) (hrc s0.1 x80.1 s0.2.2.1 x80.2) fun x86 hx86=>?_;conv=>rhs;whnf
           exact Zf (ih _)
         ·refine Zc rfl ?_ ?_<;>conv=>rhs;whnf
          ·refine Ze (Za (w64 (x80.1+1)) s0.2.1 s0.2.2.1 x80.2) (hrc (w64 (x80.1+1)) s0.2.1 s0.2.2.1 x80.2) fun x87 hx87=>?_;conv=>rhs;whnf
           exact Zf (ih _)
          ·refine Ze (Za (w64 (x80.1+1)) s0.2.1 s0.2.2.1 x80.2) (hrc (w64 (x80.1+1)) s0.2.1 s0.2.2.1 x80.2) fun x88 hx88=>?_;conv=>rhs;whnf
           exact Zf (ih _)
       ·refine Ze _ ZS fun x89 hx89=>?_;conv=>rhs;whnf
        exact Zf (ih _)
      ·refine Ze _ Zu fun x90 hx90=>?_
       clear hx90
       rcases x90 with x90 | x90
       ·conv=>rhs;whnf
        refine ZbQ rfl ?_;conv=>rhs;whnf
        refine Zaw rfl ?_;conv=>rhs;whnf
        refine Zc rfl ?_ ?_<;>conv=>rhs;whnf
        ·refine Zc rfl ?_ ?_<;>conv=>rhs;whnf
         ·refine Ze (Za s0.1 x90.1 s0.2.2.1 x90.2) (hrc s0.1 x90.1 s0.2.2.1 x90.2) fun x91 hx91=>?_;conv=>rhs;whnf
          exact Zf (ih _)
         ·refine Ze (Za s0.1 x90.1 s0.2.2.1 x90.2) (hrc s0.1 x90.1 s0.2.2.1 x90.2) fun x92 hx92=>?_;conv=>rhs;whnf
          exact Zf (ih _)
        ·refine Zc rfl ?_ ?_<;>conv=>rhs;whnf
         ·refine Ze (Za (w64 (x90.1+1)) s0.2.1 s0.2.2.1 x90.2) (hrc (w64 (x90.1+1)) s0.2.1 s0.2.2.1 x90.2) fun x93 hx93=>?_;conv=>rhs;whnf
          exact Zf (ih _)
         ·refine Ze (Za (w64 (x90.1+1)) s0.2.1 s0.2.2.1 x90.2) (hrc (w64 (x90.1+1)) s0.2.1 s0.2.2.1 x90.2) fun x94 hx94=>?_;conv=>rhs;whnf
          exact Zf (ih _)
       ·conv=>rhs;whnf
        refine Zaw rfl ?_;conv=>rhs;whnf
        refine Zaw rfl ?_;conv=>rhs;whnf
        refine Zc rfl ?_ ?_<;>conv=>rhs;whnf
        ·refine Zc rfl ?_ ?_<;>conv=>rhs;whnf
         ·refine Ze (Za s0.1 x90.1 s0.2.2.1 x90.2) (hrc s0.1 x90.1 s0.2.2.1 x90.2) fun x95 hx95=>?_;conv=>rhs;whnf
          exact Zf (ih _)
         ·refine Ze (Za s0.1 x90.1 s0.2.2.1 x90.2) (hrc s0.1 x90.1 s0.2.2.1 x90.2) fun x96 hx96=>?_;conv=>rhs;whnf
          exact Zf (ih _)
        ·refine Zc rfl ?_ ?_<;>conv=>rhs;whnf
         ·refine Ze (Za (w64 (x90.1+1)) s0.2.1 s0.2.2.1 x90.2) (hrc (w64 (x90.1+1)) s0.2.1 s0.2.2.1 x90.2) fun x97 hx97=>?_;conv=>rhs;whnf
          exact Zf (ih _)
         ·refine Ze (Za (w64 (x90.1+1)) s0.2.1 s0.2.2.1 x90.2) (hrc (w64 (x90.1+1)) s0.2.1 s0.2.2.1 x90.2) fun x98 hx98=>?_;conv=>rhs;whnf
          exact Zf (ih _)
     ·refine Zc rfl ?_ ?_<;>conv=>rhs;whnf
      ·refine Zm rfl rfl fun x99 hx99=>?_;conv=>rhs;whnf
       refine Zh (Zr rfl hx99) ?_;conv=>rhs;whnf
       refine Zm rfl rfl fun x100 hx100=>?_;conv=>rhs;whnf
       refine Zh (Zr rfl hx100) ?_;conv=>rhs;whnf
       refine Zk _ ZK rfl fun x101 hx101=>?_;conv=>rhs;whnf
       refine Zc rfl ?_ ?_<;>conv=>rhs;whnf
       ·refine Ze _ Zu fun x102 hx102=>?_
        clear hx102
        rcases x102 with x102 | x102
        ·conv=>rhs;whnf
         refine ZbQ rfl ?_;conv=>rhs;whnf
         refine Zaw rfl ?_;conv=>rhs;whnf
         refine Zc rfl ?_ ?_<;>conv=>rhs;whnf
         ·refine Zc rfl ?_ ?_<;>conv=>rhs;whnf
          ·refine Ze (Za s0.1 x102.1 s0.2.2.1 x102.2) (hrc s0.1 x102.1 s0.2.2.1 x102.2) fun x103 hx103=>?_;conv=>rhs;whnf
           exact Zf (ih _)
          ·refine Ze (Za s0.1 x102.1 s0.2.2.1 x102.2) (hrc s0.1 x102.1 s0.2.2.1 x102.2) fun x104 hx104=>?_;conv=>rhs;whnf
           exact Zf (ih _)
         ·refine Zc rfl ?_ ?_<;>conv=>rhs;whnf
          ·refine Ze (Za (w64 (x102.1+1)) s0.2.1 s0.2.2.1 x102.2) (hrc (w64 (x102.1+1)) s0.2.1 s0.2.2.1 x102.2) fun x105 hx105=>?_;conv=>rhs;whnf
           exact Zf (ih _)
          ·refine Ze (Za (w64 (x102.1+1)) s0.2.1 s0.2.2.1 x102.2) (hrc (w64 (x102.1+1)) s0.2.1 s0.2.2.1 x102.2) fun x106 hx106=>?_;conv=>rhs;whnf
           exact Zf (ih _)
        ·conv=>rhs;whnf
         refine Zaw rfl ?_;conv=>rhs;whnf
         refine Zaw rfl ?_;conv=>rhs;whnf
         refine Zc rfl ?_ ?_<;>conv=>rhs;whnf
         ·refine Zc rfl ?_ ?_<;>conv=>rhs;whnf
          ·refine Ze (Za s0.1 x102.1 s0.2.2.1 x102.2) (hrc s0.1 x102.1 s0.2.2.1 x102.2) fun x107 hx107=>?_;conv=>rhs;whnf
           exact Zf (ih _)
          ·refine Ze (Za s0.1 x102.1 s0.2.2.1 x102.2) (hrc s0.1 x102.1 s0.2.2.1 x102.2) fun x108 hx108=>?_;conv=>rhs;whnf
           exact Zf (ih _)
         ·refine Zc rfl ?_ ?_<;>conv=>rhs;whnf
          ·refine Ze (Za (w64 (x102.1+1)) s0.2.1 s0.2.2.1 x102.2) (hrc (w64 (x102.1+1)) s0.2.1 s0.2.2.1 x102.2) fun x109 hx109=>?_;conv=>rhs;whnf
           exact Zf (ih _)
          ·refine Ze (Za (w64 (x102.1+1)) s0.2.1 s0.2.2.1 x102.2) (hrc (w64 (x102.1+1)) s0.2.1 s0.2.2.1 x102.2) fun x110 hx110=>?_;conv=>rhs;whnf
           exact Zf (ih _)
       ·refine Ze _ ZS fun x111 hx111=>?_;conv=>rhs;whnf
        exact Zf (ih _)
      ·refine Ze _ Zu fun x112 hx112=>?_
       clear hx112
       rcases x112 with x112 | x112
       ·conv=>rhs;whnf
        refine ZbQ rfl ?_;conv=>rhs;whnf
        refine Zaw rfl ?_;conv=>rhs;whnf
        refine Zc rfl ?_ ?_<;>conv=>rhs;whnf
        ·refine Zc rfl ?_ ?_<;>conv=>rhs;whnf
         ·refine Ze (Za s0.1 x112.1 s0.2.2.1 x112.2) (hrc s0.1 x112.1 s0.2.2.1 x112.2) fun x113 hx113=>?_;conv=>rhs;whnf
          exact Zf (ih _)
         ·refine Ze (Za s0.1 x112.1 s0.2.2.1 x112.2) (hrc s0.1 x112.1 s0.2.2.1 x112.2) fun x114 hx114=>?_;conv=>rhs;whnf
          exact Zf (ih _)
        ·refine Zc rfl ?_ ?_<;>conv=>rhs;whnf
         ·refine Ze (Za (w64 (x112.1+1)) s0.2.1 s0.2.2.1 x112.2) (hrc (w64 (x112.1+1)) s0.2.1 s0.2.2.1 x112.2) fun x115 hx115=>?_;conv=>rhs;whnf
          exact Zf (ih _)
         ·refine Ze (Za (w64 (x112.1+1)) s0.2.1 s0.2.2.1 x112.2) (hrc (w64 (x112.1+1)) s0.2.1 s0.2.2.1 x112.2) fun x116 hx116=>?_;conv=>rhs;whnf
          exact Zf (ih _)
       ·conv=>rhs;whnf
        refine Zaw rfl ?_;conv=>rhs;whnf
        refine Zaw rfl ?_;conv=>rhs;whnf
        refine Zc rfl ?_ ?_<;>conv=>rhs;whnf
        ·refine Zc rfl ?_ ?_<;>conv=>rhs;whnf
         ·refine Ze (Za s0.1 x112.1 s0.2.2.1 x112.2) (hrc s0.1 x112.1 s0.2.2.1 x112.2) fun x117 hx117=>?_;conv=>rhs;whnf
          exact Zf (ih _)
         ·refine Ze (Za s0.1 x112.1 s0.2.2.1 x112.2) (hrc s0.1 x112.1 s0.2.2.1 x112.2) fun x118 hx118=>?_;conv=>rhs;whnf
          exact Zf (ih _)
        ·refine Zc rfl ?_ ?_<;>conv=>rhs;whnf
         ·refine Ze (Za (w64 (x112.1+1)) s0.2.1 s0.2.2.1 x112.2) (hrc (w64 (x112.1+1)) s0.2.1 s0.2.2.1 x112.2) fun x119 hx119=>?_;conv=>rhs;whnf
          exact Zf (ih _)
         ·refine Ze (Za (w64 (x112.1+1)) s0.2.1 s0.2.2.1 x112.2) (hrc (w64 (x112.1+1)) s0.2.1 s0.2.2.1 x112.2) fun x120 hx120=>?_;conv=>rhs;whnf
          exact Zf (ih _)
  ·refine Zvd ?_;conv=>rhs;whnf
   refine Zc rfl ?_ ?_<;>conv=>rhs;whnf
   ·refine Ze _ ZbK fun x1 hx1=>?_;conv=>rhs;whnf
    exact Zb rfl
   ·refine Zc rfl ?_ ?_<;>conv=>rhs;whnf
    ·refine Ze _ Zch fun x2 hx2=>?_;conv=>rhs;whnf
     exact Zb rfl
    ·refine Ze _ ZbY fun x3 hx3=>?_;conv=>rhs;whnf
     refine Zc rfl ?_ ?_<;>conv=>rhs;whnf
     ·refine Ze _ ZbP fun x4 hx4=>?_;conv=>rhs;whnf
      refine ZbQ rfl ?_;conv=>rhs;whnf
      refine Ze _ Zc8 fun x5 hx5=>?_
      clear hx5
      rcases x5 with x5 | x5
      ·conv=>rhs;whnf
       exact Zb rfl
      ·conv=>rhs;whnf
       refine Zc rfl ?_ ?_<;>conv=>rhs;whnf
       ·refine Zm rfl rfl fun x6 hx6=>?_;conv=>rhs;whnf
        refine Zh (Zr rfl hx6) ?_;conv=>rhs;whnf
        refine Zm rfl rfl fun x7 hx7=>?_;conv=>rhs;whnf
        refine Zh (Zr rfl hx7) ?_;conv=>rhs;whnf
        refine Zk _ ZK rfl fun x8 hx8=>?_;conv=>rhs;whnf
        refine Zc rfl ?_ ?_<;>conv=>rhs;whnf
        ·refine Ze _ Zu fun x9 hx9=>?_
         clear hx9
         rcases x9 with x9 | x9
         ·conv=>rhs;whnf
          refine ZbQ rfl ?_;conv=>rhs;whnf
          refine Zaw rfl ?_;conv=>rhs;whnf
          refine Zc rfl ?_ ?_<;>conv=>rhs;whnf
          ·refine Zc rfl ?_ ?_<;>conv=>rhs;whnf
           ·refine Ze (Za s0.1 x9.1 s0.2.2.1 x9.2) (hrc s0.1 x9.1 s0.2.2.1 x9.2) fun x10 hx10=>?_;conv=>rhs;whnf
            exact Zf (ih _)
           ·refine Ze (Za s0.1 x9.1 s0.2.2.1 x9.2) (hrc s0.1 x9.1 s0.2.2.1 x9.2) fun x11 hx11=>?_;conv=>rhs;whnf
            exact Zf (ih _)
          ·refine Zc rfl ?_ ?_<;>conv=>rhs;whnf
           ·refine Ze (Za (w64 (x9.1+1)) s0.2.1 s0.2.2.1 x9.2) (hrc (w64 (x9.1+1)) s0.2.1 s0.2.2.1 x9.2) fun x12 hx12=>?_;conv=>rhs;whnf
            exact Zf (ih _)
           ·refine Ze (Za (w64 (x9.1+1)) s0.2.1 s0.2.2.1 x9.2) (hrc (w64 (x9.1+1)) s0.2.1 s0.2.2.1 x9.2) fun x13 hx13=>?_;conv=>rhs;whnf
            exact Zf (ih _)
         ·conv=>rhs;whnf
          refine Zaw rfl ?_;conv=>rhs;whnf
          refine Zaw rfl ?_;conv=>rhs;whnf
          refine Zc rfl ?_ ?_<;>conv=>rhs;whnf
          ·refine Zc rfl ?_ ?_<;>conv=>rhs;whnf
           ·refine Ze (Za s0.1 x9.1 s0.2.2.1 x9.2) (hrc s0.1 x9.1 s0.2.2.1 x9.2) fun x14 hx14=>?_;conv=>rhs;whnf
            exact Zf (ih _)
           ·refine Ze (Za s0.1 x9.1 s0.2.2.1 x9.2) (hrc s0.1 x9.1 s0.2.2.1 x9.2) fun x15 hx15=>?_;conv=>rhs;whnf
            exact Zf (ih _)
          ·refine Zc rfl ?_ ?_<;>conv=>rhs;whnf
           ·refine Ze (Za (w64 (x9.1+1)) s0.2.1 s0.2.2.1 x9.2) (hrc (w64 (x9.1+1)) s0.2.1 s0.2.2.1 x9.2) fun x16 hx16=>?_;conv=>rhs;whnf
            exact Zf (ih _)
           ·refine Ze (Za (w64 (x9.1+1)) s0.2.1 s0.2.2.1 x9.2) (hrc (w64 (x9.1+1)) s0.2.1 s0.2.2.1 x9.2) fun x17 hx17=>?_;conv=>rhs;whnf
            exact Zf (ih _)
        ·refine Ze _ ZS fun x18 hx18=>?_;conv=>rhs;whnf
         exact Zf (ih _)
       ·refine Ze _ Zu fun x19 hx19=>?_
        clear hx19
        rcases x19 with x19 | x19
        ·conv=>rhs;whnf
         refine ZbQ rfl ?_;conv=>rhs;whnf
         refine Zaw rfl ?_;conv=>rhs;whnf
         refine Zc rfl ?_ ?_<;>conv=>rhs;whnf
         ·refine Zc rfl ?_ ?_<;>conv=>rhs;whnf
          ·refine Ze (Za s0.1 x19.1 s0.2.2.1 x19.2) (hrc s0.1 x19.1 s0.2.2.1 x19.2) fun x20 hx20=>?_;conv=>rhs;whnf
           exact Zf (ih _)
          ·refine Ze (Za s0.1 x19.1 s0.2.2.1 x19.2) (hrc s0.1 x19.1 s0.2.2.1 x19.2) fun x21 hx21=>?_;conv=>rhs;whnf
           exact Zf (ih _)
         ·refine Zc rfl ?_ ?_<;>conv=>rhs;whnf
          ·refine Ze (Za (w64 (x19.1+1)) s0.2.1 s0.2.2.1 x19.2) (hrc (w64 (x19.1+1)) s0.2.1 s0.2.2.1 x19.2) fun x22 hx22=>?_;conv=>rhs;whnf
           exact Zf (ih _)
          ·refine Ze (Za (w64 (x19.1+1)) s0.2.1 s0.2.2.1 x19.2) (hrc (w64 (x19.1+1)) s0.2.1 s0.2.2.1 x19.2) fun x23 hx23=>?_;conv=>rhs;whnf
           exact Zf (ih _)
        ·conv=>rhs;whnf
         refine Zaw rfl ?_;conv=>rhs;whnf
         refine Zaw rfl ?_;conv=>rhs;whnf
         refine Zc rfl ?_ ?_<;>conv=>rhs;whnf
         ·refine Zc rfl ?_ ?_<;>conv=>rhs;whnf
          ·refine Ze (Za s0.1 x19.1 s0.2.2.1 x19.2) (hrc s0.1 x19.1 s0.2.2.1 x19.2) fun x24 hx24=>?_;conv=>rhs;whnf
           exact Zf (ih _)
          ·refine Ze (Za s0.1 x19.1 s0.2.2.1 x19.2) (hrc s0.1 x19.1 s0.2.2.1 x19.2) fun x25 hx25=>?_;conv=>rhs;whnf
           exact Zf (ih _)
         ·refine Zc rfl ?_ ?_<;>conv=>rhs;whnf
          ·refine Ze (Za (w64 (x19.1+1)) s0.2.1 s0.2.2.1 x19.2) (hrc (w64 (x19.1+1)) s0.2.1 s0.2.2.1 x19.2) fun x26 hx26=>?_;conv=>rhs;whnf
           exact Zf (ih _)
          ·refine Ze (Za (w64 (x19.1+1)) s0.2.1 s0.2.2.1 x19.2) (hrc (w64 (x19.1+1)) s0.2.1 s0.2.2.1 x19.2) fun x27 hx27=>?_;conv=>rhs;whnf
           exact Zf (ih _)
     ·refine Zc rfl ?_ ?_<;>conv=>rhs;whnf
      ·refine Ze _ Zc8 fun x28 hx28=>?_
       clear hx28
       rcases x28 with x28 | x28
       ·conv=>rhs;whnf
        exact Zb rfl
       ·conv=>rhs;whnf
        refine Zc rfl ?_ ?_<;>conv=>rhs;whnf
        ·refine Zm rfl rfl fun x29 hx29=>?_;conv=>rhs;whnf
         refine Zh (Zr rfl hx29) ?_;conv=>rhs;whnf
         refine Zm rfl rfl fun x30 hx30=>?_;conv=>rhs;whnf
         refine Zh (Zr rfl hx30) ?_;conv=>rhs;whnf
         refine Zk _ ZK rfl fun x31 hx31=>?_;conv=>rhs;whnf
         refine Zc rfl ?_ ?_<;>conv=>rhs;whnf
         ·refine Ze _ Zu fun x32 hx32=>?_
          clear hx32
          rcases x32 with x32 | x32
          ·conv=>rhs;whnf
           refine ZbQ rfl ?_;conv=>rhs;whnf
           refine Zaw rfl ?_;conv=>rhs;whnf
           refine Zc rfl ?_ ?_<;>conv=>rhs;whnf
           ·refine Zc rfl ?_ ?_<;>conv=>rhs;whnf
            ·refine Ze (Za s0.1 x32.1 s0.2.2.1 x32.2) (hrc s0.1 x32.1 s0.2.2.1 x32.2) fun x33 hx33=>?_;conv=>rhs;whnf
             exact Zf (ih _)
            ·refine Ze (Za s0.1 x32.1 s0.2.2.1 x32.2) (hrc s0.1 x32.1 s0.2.2.1 x32.2) fun x34 hx34=>?_;conv=>rhs;whnf
             exact Zf (ih _)
           ·refine Zc rfl ?_ ?_<;>conv=>rhs;whnf
            ·refine Ze (Za (w64 (x32.1+1)) s0.2.1 s0.2.2.1 x32.2) (hrc (w64 (x32.1+1)) s0.2.1 s0.2.2.1 x32.2) fun x35 hx35=>?_;conv=>rhs;whnf
             exact Zf (ih _)
            ·refine Ze (Za (w64 (x32.1+1)) s0.2.1 s0.2.2.1 x32.2) (hrc (w64 (x32.1+1)) s0.2.1 s0.2.2.1 x32.2) fun x36 hx36=>?_;conv=>rhs;whnf
             exact Zf (ih _)
          ·conv=>rhs;whnf
           refine Zaw rfl ?_;conv=>rhs;whnf
           refine Zaw rfl ?_;conv=>rhs;whnf
           refine Zc rfl ?_ ?_<;>conv=>rhs;whnf
           ·refine Zc rfl ?_ ?_<;>conv=>rhs;whnf
            ·refine Ze (Za s0.1 x32.1 s0.2.2.1 x32.2) (hrc s0.1 x32.1 s0.2.2.1 x32.2) fun x37 hx37=>?_;conv=>rhs;whnf
             exact Zf (ih _)
            ·refine Ze (Za s0.1 x32.1 s0.2.2.1 x32.2) (hrc s0.1 x32.1 s0.2.2.1 x32.2) fun x38 hx38=>?_;conv=>rhs;whnf
             exact Zf (ih _)
           ·refine Zc rfl ?_ ?_<;>conv=>rhs;whnf
            ·refine Ze (Za (w64 (x32.1+1)) s0.2.1 s0.2.2.1 x32.2) (hrc (w64 (x32.1+1)) s0.2.1 s0.2.2.1 x32.2) fun x39 hx39=>?_;conv=>rhs;whnf
             exact Zf (ih _)
            ·refine Ze (Za (w64 (x32.1+1)) s0.2.1 s0.2.2.1 x32.2) (hrc (w64 (x32.1+1)) s0.2.1 s0.2.2.1 x32.2) fun x40 hx40=>?_;conv=>rhs;whnf
             exact Zf (ih _)
         ·refine Ze _ ZS fun x41 hx41=>?_;conv=>rhs;whnf
          exact Zf (ih _)
        ·refine Ze _ Zu fun x42 hx42=>?_
         clear hx42
         rcases x42 with x42 | x42
         ·conv=>rhs;whnf
          refine ZbQ rfl ?_;conv=>rhs;whnf
          refine Zaw rfl ?_;conv=>rhs;whnf
          refine Zc rfl ?_ ?_<;>conv=>rhs;whnf
          ·refine Zc rfl ?_ ?_<;>conv=>rhs;whnf
           ·refine Ze (Za s0.1 x42.1 s0.2.2.1 x42.2) (hrc s0.1 x42.1 s0.2.2.1 x42.2) fun x43 hx43=>?_;conv=>rhs;whnf
            exact Zf (ih _)
           ·refine Ze (Za s0.1 x42.1 s0.2.2.1 x42.2) (hrc s0.1 x42.1 s0.2.2.1 x42.2) fun x44 hx44=>?_;conv=>rhs;whnf
            exact Zf (ih _)
          ·refine Zc rfl ?_ ?_<;>conv=>rhs;whnf
           ·refine Ze (Za (w64 (x42.1+1)) s0.2.1 s0.2.2.1 x42.2) (hrc (w64 (x42.1+1)) s0.2.1 s0.2.2.1 x42.2) fun x45 hx45=>?_;conv=>rhs;whnf
            exact Zf (ih _)
           ·refine Ze (Za (w64 (x42.1+1)) s0.2.1 s0.2.2.1 x42.2) (hrc (w64 (x42.1+1)) s0.2.1 s0.2.2.1 x42.2) fun x46 hx46=>?_;conv=>rhs;whnf
            exact Zf (ih _)
         ·conv=>rhs;whnf
          refine Zaw rfl ?_;conv=>rhs;whnf
          refine Zaw rfl ?_;conv=>rhs;whnf
          refine Zc rfl ?_ ?_<;>conv=>rhs;whnf
          ·refine Zc rfl ?_ ?_<;>conv=>rhs;whnf
           ·refine Ze (Za s0.1 x42.1 s0.2.2.1 x42.2) (hrc s0.1 x42.1 s0.2.2.1 x42.2) fun x47 hx47=>?_;conv=>rhs;whnf
            exact Zf (ih _)
           ·refine Ze (Za s0.1 x42.1 s0.2.2.1 x42.2) (hrc s0.1 x42.1 s0.2.2.1 x42.2) fun x48 hx48=>?_;conv=>rhs;whnf
            exact Zf (ih _)
          ·refine Zc rfl ?_ ?_<;>conv=>rhs;whnf
           ·refine Ze (Za (w64 (x42.1+1)) s0.2.1 s0.2.2.1 x42.2) (hrc (w64 (x42.1+1)) s0.2.1 s0.2.2.1 x42.2) fun x49 hx49=>?_;conv=>rhs;whnf
            exact Zf (ih _)
           ·refine Ze (Za (w64 (x42.1+1)) s0.2.1 s0.2.2.1 x42.2) (hrc (w64 (x42.1+1)) s0.2.1 s0.2.2.1 x42.2) fun x50 hx50=>?_;conv=>rhs;whnf
            exact Zf (ih _)
      ·refine Zc rfl ?_ ?_<;>conv=>rhs;whnf
       ·refine Zm rfl rfl fun x51 hx51=>?_;conv=>rhs;whnf
        refine Zh (Zr rfl hx51) ?_;conv=>rhs;whnf
        refine Zm rfl rfl fun x52 hx52=>?_;conv=>rhs;whnf
        refine Zh (Zr rfl hx52) ?_;conv=>rhs;whnf
        refine Zk _ ZK rfl fun x53 hx53=>?_;conv=>rhs;whnf
        refine Zc rfl ?_ ?_<;>conv=>rhs;whnf
        ·refine Ze _ Zu fun x54 hx54=>?_
         clear hx54
         rcases x54 with x54 | x54
         ·conv=>rhs;whnf
          refine ZbQ rfl ?_;conv=>rhs;whnf
          refine Zaw rfl ?_;conv=>rhs;whnf
          refine Zc rfl ?_ ?_<;>conv=>rhs;whnf
          ·refine Zc rfl ?_ ?_<;>conv=>rhs;whnf
           ·refine Ze (Za s0.1 x54.1 s0.2.2.1 x54.2) (hrc s0.1 x54.1 s0.2.2.1 x54.2) fun x55 hx55=>?_;conv=>rhs;whnf
            exact Zf (ih _)
           ·refine Ze (Za s0.1 x54.1 s0.2.2.1 x54.2) (hrc s0.1 x54.1 s0.2.2.1 x54.2) fun x56 hx56=>?_;conv=>rhs;whnf
            exact Zf (ih _)
          ·refine Zc rfl ?_ ?_<;>conv=>rhs;whnf
           ·refine Ze (Za (w64 (x54.1+1)) s0.2.1 s0.2.2.1 x54.2) (hrc (w64 (x54.1+1)) s0.2.1 s0.2.2.1 x54.2) fun x57 hx57=>?_;conv=>rhs;whnf
            exact Zf (ih _)
           ·refine Ze (Za (w64 (x54.1+1)) s0.2.1 s0.2.2.1 x54.2) (hrc (w64 (x54.1+1)) s0.2.1 s0.2.2.1 x54.2) fun x58 hx58=>?_;conv=>rhs;whnf
            exact Zf (ih _)
         ·conv=>rhs;whnf
          refine Zaw rfl ?_;conv=>rhs;whnf
          refine Zaw rfl ?_;conv=>rhs;whnf
          refine Zc rfl ?_ ?_<;>conv=>rhs;whnf
          ·refine Zc rfl ?_ ?_<;>conv=>rhs;whnf
           ·refine Ze (Za s0.1 x54.1 s0.2.2.1 x54.2) (hrc s0.1 x54.1 s0.2.2.1 x54.2) fun x59 hx59=>?_;conv=>rhs;whnf
            exact Zf (ih _)
           ·refine Ze (Za s0.1 x54.1 s0.2.2.1 x54.2) (hrc s0.1 x54.1 s0.2.2.1 x54.2) fun x60 hx60=>?_;conv=>rhs;whnf
            exact Zf (ih _)
          ·refine Zc rfl ?_ ?_<;>conv=>rhs;whnf
           ·refine Ze (Za (w64 (x54.1+1)) s0.2.1 s0.2.2.1 x54.2) (hrc (w64 (x54.1+1)) s0.2.1 s0.2.2.1 x54.2) fun x61 hx61=>?_;conv=>rhs;whnf
            exact Zf (ih _)
           ·refine Ze (Za (w64 (x54.1+1)) s0.2.1 s0.2.2.1 x54.2) (hrc (w64 (x54.1+1)) s0.2.1 s0.2.2.1 x54.2) fun x62 hx62=>?_;conv=>rhs;whnf
            exact Zf (ih _)
        ·refine Ze _ ZS fun x63 hx63=>?_;conv=>rhs;whnf
         exact Zf (ih _)
       ·refine Ze _ Zu fun x64 hx64=>?_
        clear hx64
        rcases x64 with x64 | x64
        ·conv=>rhs;whnf
         refine ZbQ rfl ?_;conv=>rhs;whnf
         refine Zaw rfl ?_;conv=>rhs;whnf
         refine Zc rfl ?_ ?_<;>conv=>rhs;whnf
         ·refine Zc rfl ?_ ?_<;>conv=>rhs;whnf
          ·refine Ze (Za s0.1 x64.1 s0.2.2.1 x64.2) (hrc s0.1 x64.1 s0.2.2.1 x64.2) fun x65 hx65=>?_;conv=>rhs;whnf
           exact Zf (ih _)
          ·refine Ze (Za s0.1 x64.1 s0.2.2.1 x64.2) (hrc s0.1 x64.1 s0.2.2.1 x64.2) fun x66 hx66=>?_;conv=>rhs;whnf
           exact Zf (ih _)
         ·refine Zc rfl ?_ ?_<;>conv=>rhs;whnf
          ·refine Ze (Za (w64 (x64.1+1)) s0.2.1 s0.2.2.1 x64.2) (hrc (w64 (x64.1+1)) s0.2.1 s0.2.2.1 x64.2) fun x67 hx67=>?_;conv=>rhs;whnf
           exact Zf (ih _)
          ·refine Ze (Za (w64 (x64.1+1)) s0.2.1 s0.2.2.1 x64.2) (hrc (w64 (x64.1+1)) s0.2.1 s0.2.2.1 x64.2) fun x68 hx68=>?_;conv=>rhs;whnf
           exact Zf (ih _)
        ·conv=>rhs;whnf
         refine Zaw rfl ?_;conv=>rhs;whnf
         refine Zaw rfl ?_;conv=>rhs;whnf
         refine Zc rfl ?_ ?_<;>conv=>rhs;whnf
         ·refine Zc rfl ?_ ?_<;>conv=>rhs;whnf
          ·refine Ze (Za s0.1 x64.1 s0.2.2.1 x64.2) (hrc s0.1 x64.1 s0.2.2.1 x64.2) fun x69 hx69=>?_;conv=>rhs;whnf
           exact Zf (ih _)
          ·refine Ze (Za s0.1 x64.1 s0.2.2.1 x64.2) (hrc s0.1 x64.1 s0.2.2.1 x64.2) fun x70 hx70=>?_;conv=>rhs;whnf
           exact Zf (ih _)
         ·refine Zc rfl ?_ ?_<;>conv=>rhs;whnf
          ·refine Ze (Za (w64 (x64.1+1)) s0.2.1 s0.2.2.1 x64.2) (hrc (w64 (x64.1+1)) s0.2.1 s0.2.2.1 x64.2) fun x71 hx71=>?_;conv=>rhs;whnf
           exact Zf (ih _)
          ·refine Ze (Za (w64 (x64.1+1)) s0.2.1 s0.2.2.1 x64.2) (hrc (w64 (x64.1+1)) s0.2.1 s0.2.2.1 x64.2) fun x72 hx72=>?_;conv=>rhs;whnf
           exact Zf (ih _)
theorem Zh0 (rc:Int→Int→Int→(List Int)→Option (List Int)) (hrc:∀(b:Int) (c:Int) (d:Int) (m0_0:List Int) (r:List Int),rc b c d m0_0=some r→evW ctx 178 [(.sl 0 1),(.d (Zd b)),(.d (Zd c)),(.d (Zd d))] [(.arr 1 (List.map Zd m0_0))]=some ((Za b c d m0_0) r)) (b:Int) (c:Int) (d:Int) (m0_0:List Int):∀r,(ZbT rc b c d m0_0)=some r→evW ctx 178 [(.sl 0 1),(.d (Zd b)),(.d (Zd c)),(.d (Zd d))] [(.arr 1 (List.map Zd m0_0))]=some ((Za b c d m0_0) r):=by
 show ZD _ (fun r rhs=>rhs=some ((Za b c d m0_0) r)) _
 unfold ZbT
 rw[ZcR ctx 178 ZAi _ _ rfl rfl]
 conv=>rhs;whnf
 refine Ze _ (ZhI hrc _) fun r219 hr219=>?_;conv=>rhs;whnf
 exact Zb rfl
theorem Ze3:∀(n:Nat) (b:Int) (c:Int) (d:Int) (m0_0:List Int) (r:List Int),ZaU n b c d m0_0=some r→evW ctx 178 [(.sl 0 1),(.d (Zd b)),(.d (Zd c)),(.d (Zd d))] [(.arr 1 (List.map Zd m0_0))]=some ((Za b c d m0_0) r)
  | 0,b,c,d,m0_0,r,h=>by cases h
  | n+1,b,c,d,m0_0,r,h=>Zh0 (ZaU n) (Ze3 n) b c d m0_0 r h
theorem Zis {b c d:Int}{m0_0:List Int}:∀r,Zd6 b c d m0_0=some r→evW ctx 178 [(.sl 0 1),(.d (Zd b)),(.d (Zd c)),(.d (Zd d))] [(.arr 1 (List.map Zd m0_0))]=some ((Za b c d m0_0) r):=fun r h=>by
  obtain⟨n,hn⟩:=ZBW h
  exact Ze3 n b c d m0_0 r hn
def Zg5 (m0_0:List Int):(List Int)→V×Zn
  | r=>((.d (D.tup [])),[(.arr 1 (List.map Zd r))])
theorem ZgA {m0_0:List Int}:∀r,(ZbL m0_0)=some r→evW ctx 146 [(.sl 0 1)] [(.arr 1 (List.map Zd m0_0))]=some ((Zg5 m0_0) r):=by
 show ZD _ (fun r rhs=>rhs=some ((Zg5 m0_0) r)) _
 unfold ZbL
 rw[ZcR ctx 146 ZA7 _ _ rfl rfl]
 conv=>rhs;whnf
 refine Zl (ZE _ _) ?_;conv=>rhs;whnf
 refine Zk _ Zj0 rfl fun x0 hx0=>?_;conv=>rhs;whnf
 refine Ze _ Zis fun x1 hx1=>?_;conv=>rhs;whnf
 exact Zb rfl
def ZnC (m0_0:List Int) (m1_0:List Int):((List Int)×(List Int)×(List Int))→V×Zn
  | r=>((.sl 2 1),[(.arr 1 (List.map Zd r.1)),(.arr 1 (List.map Zd r.2.1)),(.arr 1 (List.map Zd r.2.2))])
def ZkM (m0_0:List Int):((List Int)×(List Int)×(List Int))→Ex×List V×Zn
  | r=>(.exit 0,[(.sl 2 1)],[(.arr 1 (List.map Zd r.1)),(.arr 1 (List.map Zd r.2.1)),(.arr 1 (List.map Zd r.2.2))])
theorem ZoR {m0_0:List Int}:∀(s0:Int×(List Int)×(List Int)×(List Int)) (r:((List Int)×(List Int)×(List Int))),lp (ZeF m0_0) s0=some r→lpW ctx 2 [1,3,7,8,9] [3] Zyv [(.ptr 2 0),(.sl 3 1),(.sl 0 1),(.d (Zd (m0_0.length:Int))),(.d (Zd s0.1))] [(.arr 1 (List.map Zd s0.2.1)),(.arr 1 (List.map Zd s0.2.2.1)),(.cells [(.sl 0 1),(.sl 1 1)]),(.arr 1 (List.map Zd s0.2.2.2))]=some ((ZkM m0_0) r):=by
 refine Za7 (ZkM m0_0) ?_
 intro s0 rcl ih
 show ZD _ _ (lpW _ _ _ _ _ _ _)
 unfold ZeF
 rw[Za9]
 conv=>rhs;whnf
 refine Zc rfl ?_ ?_<;>conv=>rhs;whnf
 ·refine Zm rfl rfl fun x1 hx1=>?_;conv=>rhs;whnf
  refine Zh (Zr rfl hx1) ?_;conv=>rhs;whnf
  refine Zc rfl ?_ ?_<;>conv=>rhs;whnf
  ·exact Zf (ih _)
  ·refine Zm rfl rfl fun x2 hx2=>?_;conv=>rhs;whnf
   refine Zh (Zr rfl hx2) ?_;conv=>rhs;whnf
   refine Zh (ZaX rfl hx2) ?_;conv=>rhs;whnf
   refine Zh (Zr rfl hx2) ?_;conv=>rhs;whnf
   refine Zl (Zaq Zd s0.2.2.1 x1.toNat (w64 (x2-1))) ?_;conv=>rhs;whnf
   refine Zk _ ZgH rfl fun x3 hx3=>?_;conv=>rhs;whnf
   refine Zc rfl ?_ ?_<;>conv=>rhs;whnf
   ·refine Zh (ZaX rfl hx1) ?_;conv=>rhs;whnf
    refine Zh (Zr rfl hx1) ?_;conv=>rhs;whnf
    refine Zl (Zaq Zd s0.2.1 s0.1.toNat (-1)) ?_;conv=>rhs;whnf
    refine ZbQ rfl ?_;conv=>rhs;whnf
    refine Zc (ZgY Zd s0.2.2.2 1) ?_ ?_
    ·conv=>rhs;whnf
     refine Zl (ZgV Zd s0.2.2.2 [x1]) ?_;conv=>rhs;whnf
     exact Zf (ih _)
    ·exact ZI
   ·exact Zf (ih _)
 ·exact Zb rfl
theorem Zq9 {m0_0:List Int}{m1_0:List Int}:∀r,(Zks m0_0 m1_0)=some r→evW ctx 88 [(.agg [(.sl 0 1),(.sl 1 1)])] [(.arr 1 (List.map Zd m0_0)),(.arr 1 (List.map Zd m1_0))]=some ((ZnC m0_0 m1_0) r):=by
 show ZD _ (fun r rhs=>rhs=some ((ZnC m0_0 m1_0) r)) _
 unfold Zks
 rw[ZcR ctx 88 ZDq _ _ rfl rfl]
 conv=>rhs;whnf
 refine Zl (ZE _ _) ?_;conv=>rhs;whnf
 refine Ze _ (ZoR _) fun r4 hr4=>?_;conv=>rhs;whnf
 refine Ze _ ZgA fun x5 hx5=>?_;conv=>rhs;whnf
 exact Zb rfl
def ZnX (t0:Bool) (t1:Bool) (t2:Bool) (t3:Bool) (a:ZB) (b:Z6):(Int⊕((List Int)×(List Int)×(List Int)))→V×Zn
  | (.inl r)=>((.tup [(.agg [(.nilsl 1),(.nilsl 1)]),(.nilsl 1),(.d (Zd r))]),[])
  | (.inr r)=>((.tup [(.agg [(.sl 0 1),(.sl 1 1)]),(.sl 2 1),(.d (Zd 0))]),[(.arr 1 (List.map Zd r.1)),(.arr 1 (List.map Zd r.2.1)),(.arr 1 (List.map Zd r.2.2))])
theorem ZqW {t0 t1:Bool}{t2 t3:Bool}{a:ZB}{b:Z6}:∀r,(ZiD a b)=some r→evW ctx 96 [(.d (D.agg [(zL t0 a.work),(D.list t1 (List.map ZQ a.edges))])),(.d (D.agg [(zL t2 b.on),(zL t3 b.left)]))] []=some ((ZnX t0 t1 t2 t3 a b) r):=by
 show ZD _ (fun r rhs=>rhs=some ((ZnX t0 t1 t2 t3 a b) r)) _
 unfold ZiD
 rw[ZcR ctx 96 ZCW _ _ rfl rfl]
 conv=>rhs;whnf
 refine Zk _ Zi2 rfl fun x0 hx0=>?_;conv=>rhs;whnf
 refine Zc rfl ?_ ?_<;>conv=>rhs;whnf
 ·exact Zb rfl
 ·refine Ze _ Zsf fun x1 hx1=>?_;conv=>rhs;whnf
  refine Ze _ Zq9 fun x2 hx2=>?_;conv=>rhs;whnf
  exact Zb rfl
def Zmd (r:(Int×Bool)):D:=(D.tup [(Zd r.1),(D.bool r.2)])
theorem ZpJ {a:ZZ}{b0:Int}:∀r,(Zfl a b0)=some r→evD ctx 150 [(.d (D.agg [(Zd a.src),(Zd a.dst)])),(.d (D.rptr [(Zd b0)]))]=some (Zmd r):=by
 show ZD _ (fun r rhs=>rhs=some (Zmd r)) _
 unfold Zfl
 rw[ZaF ctx 150 ZyS _ rfl rfl]
 conv=>rhs;whnf
 refine Zc rfl ?_ ?_<;>conv=>rhs;whnf
 ·exact Zb rfl
 ·exact Zb rfl
def Zhi (r:List Int):D:=(zL true r)
def Zgi (t1:Bool) (a:ZB) (b0:Int):(List Int)→Ex×List V×Zn
  | r=>(.exit 0,[(.sl 0 1)],[(.arr 1 (List.map Zd r))])
theorem Zi1 {t1:Bool}{a:ZB}{b0:Int}:∀(s0:Int×(List Int)) (r:List Int),lp (ZgX a (fun z0=>Zfl z0 b0)) s0=some r→lpW ctx 0 [1,5,11,12,13] [5] Zxe [(.d (D.fn 150 [(D.rptr [(Zd b0)])])),(.sl 0 1),(.d (D.list t1 (List.map ZQ a.edges))),(.d (Zd (a.edges.length:Int))),(.d (Zd s0.1))] [(.arr 1 (List.map Zd s0.2))]=some ((Zgi t1 a b0) r):=by
 refine Za7 (Zgi t1 a b0) ?_
 intro s0 rcl ih
 show ZD _ _ (lpW _ _ _ _ _ _ _)
 unfold ZgX
 rw[Za9]
 conv=>rhs;whnf
 refine Zc rfl ?_ ?_<;>conv=>rhs;whnf
 ·refine Zm rfl rfl fun x1 hx1=>?_;conv=>rhs;whnf
  refine Zk _ ZpJ rfl fun x2 hx2=>?_;conv=>rhs;whnf
  refine Zc rfl ?_ ?_<;>conv=>rhs;whnf
  ·refine ZbQ rfl ?_;conv=>rhs;whnf
   refine Zc (ZgY Zd s0.2 1) ?_ ?_
   ·conv=>rhs;whnf
    refine Zl (ZgV Zd s0.2 [x2.1]) ?_;conv=>rhs;whnf
    exact Zf (ih _)
   ·exact ZI
  ·exact Zf (ih _)
 ·exact Zb rfl
theorem Zj9 {t0 t1:Bool}{a:ZB}{b0:Int}:∀r,(Zng a (fun z0=>Zfl z0 b0))=some r→evD ctx 149 [(.d (D.agg [(zL t0 a.work),(D.list t1 (List.map ZQ a.edges))])),(.d (D.fn 150 [(D.rptr [(Zd b0)])]))]=some (Zhi r):=by
 show ZD _ (fun r rhs=>rhs=some (Zhi r)) _
 unfold Zng
 rw[ZaF ctx 149 ZAD _ rfl rfl]
 conv=>rhs;whnf
 refine Zl (ZE _ _) ?_;conv=>rhs;whnf
 refine Ze _ (Zi1 _) fun r3 hr3=>?_;conv=>rhs;whnf
 refine Ze _ ZgA fun x4 hx4=>?_;conv=>rhs;whnf
 exact Zb rfl
def ZnF (r:List Int):D:=(zL true r)
theorem ZrD {t0 t1:Bool}{a:ZB}{b:Int}:∀r,(ZiH a b)=some r→evD ctx 97 [(.d (D.agg [(zL t0 a.work),(D.list t1 (List.map ZQ a.edges))])),(.d (Zd b))]=some (ZnF r):=by
 show ZD _ (fun r rhs=>rhs=some (ZnF r)) _
 unfold ZiH
 rw[ZaF ctx 97 ZDe _ rfl rfl]
 conv=>rhs;whnf
 refine Zk _ ZjX rfl fun x0 hx0=>?_;conv=>rhs;whnf
 refine Zc rfl ?_ ?_<;>conv=>rhs;whnf
 ·exact Zb rfl
 ·refine Zk _ Zj9 rfl fun x1 hx1=>?_;conv=>rhs;whnf
  exact Zb rfl
def Zjm (t0:Bool) (t1:Bool) (m0_0:List Int) (m0_1:List ZZ) (m0_2:Int) (m1_0:List Int) (m2_0:List Int) (m3_0:List Zi) (m4_0:List Zp) (m5_0:List Int):(Int⊕(((List Zi)×(List Int)×(List Int))⊕((List Zi)×(List Int)×(List Int)×(List Int))))→V×Zn
  | (.inl r)=>((.tup [(.nilsl 1),(.d (Zd r))]),[(.cells [(.sl 1 1),(.sl 2 1),(.sl 3 3),(.sl 4 6),(.sl 5 1),(.d (zL t0 m0_0)),(.d (D.list t1 (List.map ZQ m0_1))),(.d (Zd m0_2))]),(.arr 1 (List.map Zd m1_0)),(.arr 1 (List.map Zd m2_0)),(.arr 3 (List.map ZN m3_0)),(.arr 6 (List.map ZR m4_0)),(.arr 1 (List.map Zd m5_0))])
  | (.inr (.inl r))=>((.tup [(.nilsl 1),(.d (Zd 130))]),[(.cells [(.sl 6 1),(.sl 7 1),(.sl 3 3),(.sl 4 6),(.sl 5 1),(.d (zL t0 m0_0)),(.d (D.list t1 (List.map ZQ m0_1))),(.d (Zd m0_2))]),(.arr 1 (List.map Zd m1_0)),(.arr 1 (List.map Zd m2_0)),(.arr 3 (List.map ZN r.1)),(.arr 6 (List.map ZR m4_0)),(.arr 1 (List.map Zd m5_0)),(.arr 1 (List.map Zd r.2.1)),(.arr 1 (List.map Zd r.2.2))])
  | (.inr (.inr r))=>((.tup [(.sl 6 1),(.d (Zd 0))]),[(.cells [(.sl 7 1),(.sl 8 1),(.sl 3 3),(.sl 4 6),(.sl 5 1),(.d (zL t0 m0_0)),(.d (D.list t1 (List.map ZQ m0_1))),(.d (Zd m0_2))]),(.arr 1 (List.map Zd m1_0)),(.arr 1 (List.map Zd m2_0)),(.arr 3 (List.map ZN r.1)),(.arr 6 (List.map ZR m4_0)),(.arr 1 (List.map Zd m5_0)),(.arr 1 (List.map Zd r.2.1)),(.arr 1 (List.map Zd r.2.2.1)),(.arr 1 (List.map Zd r.2.2.2))])
def ZhN (t0:Bool) (t1:Bool) (m0_0:List Int) (m0_1:List ZZ) (m0_2:Int) (m1_0:List Int) (m2_0:List Int) (m4_0:List Zp) (m5_0:List Int) (x1:((List Int)×(List Int)×(List Int))) (x2:List Int) (s3:Int×(List Zi)×(List Int)) (x6:List Int):(((List Zi)×(List Int))⊕((List Zi)×(List Int)))→Ex×List V×Zn
  | (.inl r)=>(.ret,[(.ptr 0 0),(.nilsl 1),(.d (Zd 130)),(.sl 6 1),(.d (zL true x2)),(.fn 1000054 [(.ptr 0 0)]),(.sl 7 1),(.sl 8 1),(.d (Zd (m1_0.length:Int))),(.d (Zd s3.1))],[(.cells [(.sl 9 1),(.sl 10 1),(.sl 3 3),(.sl 4 6),(.sl 5 1),(.d (zL t0 m0_0)),(.d (D.list t1 (List.map ZQ m0_1))),(.d (Zd m0_2))]),(.arr 1 (List.map Zd m1_0)),(.arr 1 (List.map Zd m2_0)),(.arr 3 (List.map ZN r.1)),(.arr 6 (List.map ZR m4_0)),(.arr 1 (List.map Zd m5_0)),(.arr 1 (List.map Zd x1.2.2)),(.arr 1 (List.map Zd r.2)),(.arr 1 (List.map Zd m1_0)),(.arr 1 (List.map Zd x1.1)),(.arr 1 (List.map Zd x1.2.1))])
  | (.inr r)=>(.exit 2,[(.ptr 0 0),.bad,.bad,(.sl 6 1),(.d (zL true x2)),(.fn 1000054 [(.ptr 0 0)]),(.sl 7 1),(.sl 8 1),(.d (Zd (m1_0.length:Int))),(.d (Zd s3.1))],[(.cells [(.sl 9 1),(.sl 10 1),(.sl 3 3),(.sl 4 6),(.sl 5 1),(.d (zL t0 m0_0)),(.d (D.list t1 (List.map ZQ m0_1))),(.d (Zd m0_2))]),(.arr 1 (List.map Zd m1_0)),(.arr 1 (List.map Zd m2_0)),(.arr 3 (List.map ZN r.1)),(.arr 6 (List.map ZR m4_0)),(.arr 1 (List.map Zd m5_0)),(.arr 1 (List.map Zd x1.2.2)),(.arr 1 (List.map Zd r.2)),(.arr 1 (List.map Zd m1_0)),(.arr 1 (List.map Zd x1.1)),(.arr 1 (List.map Zd x1.2.1))])
theorem Zlh {t0 t1:Bool}{m0_0:List Int}{m0_1:List ZZ}{m0_2:Int}{m1_0:List Int}{m2_0:List Int}{m4_0:List Zp}{m5_0:List Int}{x1:((List Int)×(List Int)×(List Int))}{x2:List Int}{s3:Int×(List Zi)×(List Int)}{x6:List Int}:∀(s7:Int×(List Zi)×(List Int)) (r:(((List Zi)×(List Int))⊕((List Zi)×(List Int)))),lp (Zck x2 s3 x6) s7=some r→lpW ctx 6 [0,6,8,9,10,11,52,53,54,78,79,80] [0,2,3,6,8,9,10,52,53,54] ZBb [(.ptr 0 0),(.sl 6 1),(.d (zL true x2)),(.fn 1000054 [(.ptr 0 0)]),(.sl 7 1),(.d (Zd s3.1)),(.sl 8 1),(.d (Zd (m1_0.length:Int))),(.d (Zd s3.1)),(.d (zL true x6)),(.d (Zd (x6.length:Int))),(.d (Zd s7.1))] [(.cells [(.sl 9 1),(.sl 10 1),(.sl 3 3),(.sl 4 6),(.sl 5 1),(.d (zL t0 m0_0)),(.d (D.list t1 (List.map ZQ m0_1))),(.d (Zd m0_2))]),(.arr 1 (List.map Zd m1_0)),(.arr 1 (List.map Zd m2_0)),(.arr 3 (List.map ZN s7.2.1)),(.arr 6 (List.map ZR m4_0)),(.arr 1 (List.map Zd m5_0)),(.arr 1 (List.map Zd x1.2.2)),(.arr 1 (List.map Zd s7.2.2)),(.arr 1 (List.map Zd m1_0)),(.arr 1 (List.map Zd x1.1)),(.arr 1 (List.map Zd x1.2.1))]=some ((ZhN t0 t1 m0_0 m0_1 m0_2 m1_0 m2_0 m4_0 m5_0 x1 x2 s3 x6) r):=by
 refine Za7 (ZhN t0 t1 m0_0 m0_1 m0_2 m1_0 m2_0 m4_0 m5_0 x1 x2 s3 x6) ?_
 intro s7 rcl ih
 show ZD _ _ (lpW _ _ _ _ _ _ _)
 unfold Zck
 rw[Za9]
 conv=>rhs;whnf
 refine Zc rfl ?_ ?_<;>conv=>rhs;whnf
 ·refine Zm rfl rfl fun x8 hx8=>?_;conv=>rhs;whnf
  refine Zk _ Zbn rfl fun x9 hx9=>?_;conv=>rhs;whnf
  refine Zc rfl ?_ ?_<;>conv=>rhs;whnf
  ·refine Zk _ Zbn rfl fun x10 hx10=>?_;conv=>rhs;whnf
   refine Zc rfl ?_ ?_<;>conv=>rhs;whnf
   ·exact Zf (ih _)
   ·refine Ze _ ZiL fun x11 hx11=>?_
    clear hx11
    rcases x11 with x11 | x11
    ·conv=>rhs;whnf
     refine ZbQ rfl ?_;conv=>rhs;whnf
     refine Zc (ZgY Zd s7.2.2 1) ?_ ?_
     ·conv=>rhs;whnf
      refine Zl (ZgV Zd s7.2.2 [x8]) ?_;conv=>rhs;whnf
      exact Zf (ih _)
     ·exact ZI
    ·conv=>rhs;whnf
     exact Zb rfl
  ·exact Zf (ih _)
 ·exact Zb rfl
def ZhK (t0:Bool) (t1:Bool) (m0_0:List Int) (m0_1:List ZZ) (m0_2:Int) (m1_0:List Int) (m2_0:List Int) (m4_0:List Zp) (m5_0:List Int) (x1:((List Int)×(List Int)×(List Int))) (x2:List Int):((List Zi)⊕(List Zi))→Ex×List V×Zn
  | (.inl r)=>(.ret,[(.nilsl 1),(.d (Zd 130)),(.sl 6 1)],[(.cells [(.sl 7 1),(.sl 8 1),(.sl 3 3),(.sl 4 6),(.sl 5 1),(.d (zL t0 m0_0)),(.d (D.list t1 (List.map ZQ m0_1))),(.d (Zd m0_2))]),(.arr 1 (List.map Zd m1_0)),(.arr 1 (List.map Zd m2_0)),(.arr 3 (List.map ZN r)),(.arr 6 (List.map ZR m4_0)),(.arr 1 (List.map Zd m5_0)),(.arr 1 (List.map Zd x1.2.2)),(.arr 1 (List.map Zd x1.1)),(.arr 1 (List.map Zd x1.2.1))])
  | (.inr r)=>(.exit 0,[.bad,.bad,(.sl 6 1)],[(.cells [(.sl 7 1),(.sl 8 1),(.sl 3 3),(.sl 4 6),(.sl 5 1),(.d (zL t0 m0_0)),(.d (D.list t1 (List.map ZQ m0_1))),(.d (Zd m0_2))]),(.arr 1 (List.map Zd m1_0)),(.arr 1 (List.map Zd m2_0)),(.arr 3 (List.map ZN r)),(.arr 6 (List.map ZR m4_0)),(.arr 1 (List.map Zd m5_0)),(.arr 1 (List.map Zd x1.2.2)),(.arr 1 (List.map Zd x1.1)),(.arr 1 (List.map Zd x1.2.1))])
theorem Zk2 {t0 t1:Bool}{m0_0:List Int}{m0_1:List ZZ}{m0_2:Int}{m1_0:List Int}{m2_0:List Int}{m4_0:List Zp}{m5_0:List Int}{x1:((List Int)×(List Int)×(List Int))}{x2:List Int}:∀(s3:Int×(List Zi)×(List Int)) (r:((List Zi)⊕(List Zi))),lp (Zcm m0_0 m0_1 m1_0 x1 x2) s3=some r→lpW ctx 6 [0,6,8,9,10,52,53,54] [2,3,6] Zzr [(.ptr 0 0),(.sl 6 1),(.d (zL true x2)),(.fn 1000054 [(.ptr 0 0)]),(.sl 7 1),(.sl 8 1),(.d (Zd (m1_0.length:Int))),(.d (Zd s3.1))] [(.cells [(.sl 9 1),(.sl 10 1),(.sl 3 3),(.sl 4 6),(.sl 5 1),(.d (zL t0 m0_0)),(.d (D.list t1 (List.map ZQ m0_1))),(.d (Zd m0_2))]),(.arr 1 (List.map Zd m1_0)),(.arr 1 (List.map Zd m2_0)),(.arr 3 (List.map ZN s3.2.1)),(.arr 6 (List.map ZR m4_0)),(.arr 1 (List.map Zd m5_0)),(.arr 1 (List.map Zd x1.2.2)),(.arr 1 (List.map Zd s3.2.2)),(.arr 1 (List.map Zd m1_0)),(.arr 1 (List.map Zd x1.1)),(.arr 1 (List.map Zd x1.2.1))]=some ((ZhK t0 t1 m0_0 m0_1 m0_2 m1_0 m2_0 m4_0 m5_0 x1 x2) r):=by
 refine Za7 (ZhK t0 t1 m0_0 m0_1 m0_2 m1_0 m2_0 m4_0 m5_0 x1 x2) ?_
 intro s3 rcl ih
 show ZD _ _ (lpW _ _ _ _ _ _ _)
 unfold Zcm
 rw[Za9]
 conv=>rhs;whnf
 refine Zc rfl ?_ ?_<;>conv=>rhs;whnf
 ·refine Zm rfl rfl fun x4 hx4=>?_;conv=>rhs;whnf
  refine Zh (Zr rfl hx4) ?_;conv=>rhs;whnf
  refine Zc rfl ?_ ?_<;>conv=>rhs;whnf
  ·exact Zf (ih _)
  ·refine Zm rfl rfl fun x5 hx5=>?_;conv=>rhs;whnf
   refine Zh (Zr rfl hx5) ?_;conv=>rhs;whnf
   refine Zc rfl ?_ ?_<;>conv=>rhs;whnf
   ·exact Zf (ih _)
   ·refine Zk _ ZrD rfl fun x6 hx6=>?_;conv=>rhs;whnf
    refine Zl (ZE _ _) ?_;conv=>rhs;whnf
    refine Ze _ (Zlh _) fun r12 hr12=>?_
    clear hr12
    rcases r12 with r12 | r12
    ·conv=>rhs;whnf
     exact Zb rfl
    ·conv=>rhs;whnf
     exact Zf (ih _)
 ·exact Zb rfl
theorem Zm7 {t0 t1:Bool}{m0_0:List Int}{m0_1:List ZZ}{m0_2:Int}{m1_0:List Int}{m2_0:List Int}{m3_0:List Zi}{m4_0:List Zp}{m5_0:List Int}:∀r,(Ze9 m0_0 m0_1 m1_0 m2_0 m3_0)=some r→evW ctx 48 [(.ptr 0 0)] [(.cells [(.sl 1 1),(.sl 2 1),(.sl 3 3),(.sl 4 6),(.sl 5 1),(.d (zL t0 m0_0)),(.d (D.list t1 (List.map ZQ m0_1))),(.d (Zd m0_2))]),(.arr 1 (List.map Zd m1_0)),(.arr 1 (List.map Zd m2_0)),(.arr 3 (List.map ZN m3_0)),(.arr 6 (List.map ZR m4_0)),(.arr 1 (List.map Zd m5_0))]=some ((Zjm t0 t1 m0_0 m0_1 m0_2 m1_0 m2_0 m3_0 m4_0 m5_0) r):=by
 show ZD _ (fun r rhs=>rhs=some ((Zjm t0 t1 m0_0 m0_1 m0_2 m1_0 m2_0 m3_0 m4_0 m5_0) r)) _
 unfold Ze9
 rw[ZcR ctx 48 ZDr _ _ rfl rfl]
 conv=>rhs;whnf
 refine Ze _ Zay fun x0 hx0=>?_;conv=>rhs;whnf
 refine Ze _ ZqW fun x1 hx1=>?_
 clear hx1
 rcases x1 with x1 | x1
 ·conv=>rhs;whnf
  refine Zc rfl ?_ ?_
  ·conv=>rhs;whnf
   exact Zb rfl
  ·exact ZI
 ·conv=>rhs;whnf
  refine Zaw rfl ?_;conv=>rhs;whnf
  refine Zk _ Zi5 rfl fun x2 hx2=>?_;conv=>rhs;whnf
  refine Zl (ZE _ _) ?_;conv=>rhs;whnf
  refine Ze _ (Zk2 _) fun r13 hr13=>?_
  clear hr13
  rcases r13 with r13 | r13
  ·conv=>rhs;whnf
   exact Zb rfl
  ·conv=>rhs;whnf
   exact Zb rfl
def ZmO (r:(Zao×(List Int)×Int)):D:=(D.tup [(D.agg [(zL true r.1.crew.on),(zL true r.1.crew.left),(D.list true (List.map ZN r.1.deques)),(D.list true (List.map ZR r.1.takers)),(zL true r.1.from_)]),(zL true r.2.1),(Zd r.2.2)])
theorem Zl3 {t0 t1:Bool}{t2 t3:Bool}{t4 t5 t6:Bool}{a:ZB}{b:Zao}:∀r,(ZfX a b)=some r→evD ctx 41 [(.d (D.agg [(zL t0 a.work),(D.list t1 (List.map ZQ a.edges))])),(.d (D.agg [(zL t2 b.crew.on),(zL t3 b.crew.left),(D.list t4 (List.map ZN b.deques)),(D.list t5 (List.map ZR b.takers)),(zL t6 b.from_)]))]=some (ZmO r):=by
 show ZD _ (fun r rhs=>rhs=some (ZmO r)) _
 unfold ZfX
 rw[ZaF ctx 41 ZDg _ rfl rfl]
 conv=>rhs;whnf
 refine Zk _ ZgT rfl fun x0 hx0=>?_;conv=>rhs;whnf
 refine Zc rfl ?_ ?_<;>conv=>rhs;whnf
 ·exact Zb rfl
 ·refine Ze _ Zj1 fun x1 hx1=>?_;conv=>rhs;whnf
  refine Ze _ Zm7 fun x2 hx2=>?_
  clear hx2
  rcases x2 with x2 | (x2 | x2)
  ·conv=>rhs;whnf
   refine Zc rfl ?_ ?_
   ·conv=>rhs;whnf
    exact Zb rfl
   ·exact ZI
  ·conv=>rhs;whnf
   refine ZbQ rfl ?_;conv=>rhs;whnf
   exact Zb rfl
  ·conv=>rhs;whnf
   refine Zaw rfl ?_;conv=>rhs;whnf
   exact Zb rfl
def Zl4 (r:(Zao×Bool)):D:=(D.tup [(D.agg [(zL true r.1.crew.on),(zL true r.1.crew.left),(D.list true (List.map ZN r.1.deques)),(D.list true (List.map ZR r.1.takers)),(zL true r.1.from_)]),(D.bool r.2)])
def Zj7 (t0:Bool) (t1:Bool) (t3:Bool) (a:ZB) (d:List Int) (e:Int) (x2:Int):Unit→Ex×List V×Zn
  | r=>(.exit 0,[(.ptr 0 0),.bad,(.ptr 1 0),(.d (Zd x2))],[(.cells [(.sl 2 1),(.sl 3 1),(.sl 4 3),(.sl 5 6),(.sl 6 1)]),(.cells [(.sl 7 1),(.sl 8 1),(.sl 9 3),(.sl 10 6),(.sl 11 1)]),(.arr 1 []),(.arr 1 []),(.arr 3 []),(.arr 6 []),(.arr 1 []),(.arr 1 []),(.arr 1 []),(.arr 3 []),(.arr 6 []),(.arr 1 [])])
theorem Znu {t0 t1 t3:Bool}{a:ZB}{d:List Int}{e x2:Int}:∀(s3:Unit) (r:Unit),lp (ZfB e x2) s3=some r→lpW ctx 0 [3,4,5,10,12,13,14] [10,11,12,13] ZtK [(.d (zL t3 d)),(.d (Zd e)),(.ptr 0 0),(.ptr 1 0),(.ptr 2 0),(.d (Zd x2)),(.d (Zd 0))] [(.cells [(.d (zL t0 a.work)),(.d (D.list t1 (List.map ZQ a.edges)))]),(.cells [(.sl 3 1),(.sl 4 1),(.sl 5 3),(.sl 6 6),(.sl 7 1)]),(.cells [(.sl 8 1),(.sl 9 1),(.sl 10 3),(.sl 11 6),(.sl 12 1)]),(.arr 1 []),(.arr 1 []),(.arr 3 []),(.arr 6 []),(.arr 1 []),(.arr 1 []),(.arr 1 []),(.arr 3 []),(.arr 6 []),(.arr 1 [])]=some ((Zj7 t0 t1 t3 a d e x2) r):=by
 refine Za7 (Zj7 t0 t1 t3 a d e x2) ?_
 intro s3 rcl ih
 show ZD _ _ (lpW _ _ _ _ _ _ _)
 unfold ZfB
 rw[Za9]
 conv=>rhs;whnf
 refine Zc rfl ?_ ?_<;>conv=>rhs;whnf
 ·refine Zc rfl ?_ ?_
  ·exact ZI
  ·conv=>rhs;whnf
   exact Zb rfl
 ·exact Zb rfl
def ZiC (t0:Bool) (t1:Bool) (t3:Bool) (a:ZB) (d:List Int) (e:Int):(((List Int)×(List Int)×(List Zi)×(List Zp)×(List Int)×(List Int)×(List Int)×(List Zi)×(List Zp)×(List Int))⊕((List Int)×(List Int)×(List Zi)×(List Zp)×(List Int)))→Ex×List V×Zn
  | (.inl r)=>(.ret,[(.ptr 0 0),(.d (D.bool false)),(.ptr 1 0),(.d (Zd 0))],[(.cells [(.d (zL true r.1)),(.d (zL true r.2.1)),(.d (D.list true (List.map ZN r.2.2.1))),(.d (D.list true (List.map ZR r.2.2.2.1))),(.d (zL true r.2.2.2.2.1))]),(.cells [(.d (zL true r.2.2.2.2.2.1)),(.d (zL true r.2.2.2.2.2.2.1)),(.d (D.list true (List.map ZN r.2.2.2.2.2.2.2.1))),(.d (D.list true (List.map ZR r.2.2.2.2.2.2.2.2.1))),(.d (zL true r.2.2.2.2.2.2.2.2.2))])])
  | (.inr r)=>(.exit 0,[(.ptr 0 0),.bad,(.ptr 1 0),(.d (Zd 0))],[(.cells [(.sl 2 1),(.sl 3 1),(.sl 4 3),(.sl 5 6),(.sl 6 1)]),(.cells [(.d (zL true r.1)),(.d (zL true r.2.1)),(.d (D.list true (List.map ZN r.2.2.1))),(.d (D.list true (List.map ZR r.2.2.2.1))),(.d (zL true r.2.2.2.2))]),(.arr 1 []),(.arr 1 []),(.arr 3 []),(.arr 6 []),(.arr 1 [])])
theorem Zmg {t0 t1 t3:Bool}{a:ZB}{d:List Int}{e:Int}:∀(s13:Int×(List Int)×(List Int)×(List Zi)×(List Zp)×(List Int)) (r:(((List Int)×(List Int)×(List Zi)×(List Zp)×(List Int)×(List Int)×(List Int)×(List Zi)×(List Zp)×(List Int))⊕((List Int)×(List Int)×(List Zi)×(List Zp)×(List Int)))),lp (ZcW a d e) s13=some r→lpW ctx 0 [3,4,5,10,12,13,14] [10,11,12,13] ZtK [(.d (zL t3 d)),(.d (Zd e)),(.ptr 0 0),(.ptr 1 0),(.ptr 2 0),(.d (Zd 0)),(.d (Zd s13.1))] [(.cells [(.d (zL t0 a.work)),(.d (D.list t1 (List.map ZQ a.edges)))]),(.cells [(.sl 3 1),(.sl 4 1),(.sl 5 3),(.sl 6 6),(.sl 7 1)]),(.cells [(.d (zL true s13.2.1)),(.d (zL true s13.2.2.1)),(.d (D.list true (List.map ZN s13.2.2.2.1))),(.d (D.list true (List.map ZR s13.2.2.2.2.1))),(.d (zL true s13.2.2.2.2.2))]),(.arr 1 []),(.arr 1 []),(.arr 3 []),(.arr 6 []),(.arr 1 [])]=some ((ZiC t0 t1 t3 a d e) r):=by
 refine Za7 (ZiC t0 t1 t3 a d e) ?_
 intro s13 rcl ih
 show ZD _ _ (lpW _ _ _ _ _ _ _)
 unfold ZcW
 rw[Za9]
 conv=>rhs;whnf
 refine Zc rfl ?_ ?_<;>conv=>rhs;whnf
 ·refine ZbQ rfl ?_;conv=>rhs;whnf
  refine Ze _ ZgM fun x14 hx14=>?_;conv=>rhs;whnf
  refine Ze _ ZfE fun x15 hx15=>?_;conv=>rhs;whnf
  refine Ze _ ZiZ fun x16 hx16=>?_;conv=>rhs;whnf
  refine Zk _ ZlV rfl fun x17 hx17=>?_;conv=>rhs;whnf
  refine Ze _ ZgM fun x18 hx18=>?_;conv=>rhs;whnf
  refine Ze _ ZfE fun x19 hx19=>?_;conv=>rhs;whnf
  refine Zk _ Zl3 rfl fun x20 hx20=>?_;conv=>rhs;whnf
  refine Zc rfl ?_ ?_<;>conv=>rhs;whnf
  ·exact Zb rfl
  ·refine Zc rfl ?_ ?_<;>conv=>rhs;whnf
   ·exact Zb rfl
   ·exact Zf (ih _)
 ·exact Zb rfl
def ZiM (t0:Bool) (t1:Bool) (t3:Bool) (a:ZB) (b:List Int) (c:Int) (d:List Int) (e:Int) (x2:((List Int)×(List Zi))):(((List Int)×(List Int)×(List Zi)×(List Zp)×(List Int)×(List Int)×(List Int)×(List Zi)×(List Zp)×(List Int))⊕(((List Int)×(List Int)×(List Zi)×(List Zp)×(List Int))⊕Unit))→Ex×List V×Zn
  | (.inl r)=>(.ret,[(.ptr 0 0),(.d (D.bool false)),(.ptr 1 0),(.d (Zd 0))],[(.cells [(.d (zL true r.1)),(.d (zL true r.2.1)),(.d (D.list true (List.map ZN r.2.2.1))),(.d (D.list true (List.map ZR r.2.2.2.1))),(.d (zL true r.2.2.2.2.1))]),(.cells [(.d (zL true r.2.2.2.2.2.1)),(.d (zL true r.2.2.2.2.2.2.1)),(.d (D.list true (List.map ZN r.2.2.2.2.2.2.2.1))),(.d (D.list true (List.map ZR r.2.2.2.2.2.2.2.2.1))),(.d (zL true r.2.2.2.2.2.2.2.2.2))])])
  | (.inr (.inl r))=>(.exit 0,[(.ptr 0 0),.bad,(.ptr 1 0),(.d (Zd 0))],[(.cells [(.sl 2 1),(.sl 3 1),(.sl 4 3),(.sl 5 6),(.sl 6 1)]),(.cells [(.d (zL true r.1)),(.d (zL true r.2.1)),(.d (D.list true (List.map ZN r.2.2.1))),(.d (D.list true (List.map ZR r.2.2.2.1))),(.d (zL true r.2.2.2.2))]),(.arr 1 []),(.arr 1 []),(.arr 3 []),(.arr 6 []),(.arr 1 [])])
  | (.inr (.inr r))=>(.exit 0,[(.ptr 0 0),.bad,(.ptr 1 0),(.d (Zd 0))],[(.cells [(.sl 2 1),(.sl 3 1),(.sl 4 3),(.sl 5 6),(.sl 6 1)]),(.cells [(.sl 7 1),(.sl 8 1),(.sl 9 3),(.sl 10 6),(.sl 11 1)]),(.arr 1 []),(.arr 1 []),(.arr 3 []),(.arr 6 []),(.arr 1 []),(.arr 1 (List.map Zd x2.1)),(.arr 1 (List.map Zd b)),(.arr 3 (List.map ZN x2.2)),(.arr 6 (List.map ZR (List.replicate c.toNat ((Zp.mk false 0 0 0 0 0):Zp)))),(.arr 1 (List.map Zd (List.replicate c.toNat (0:Int))))])
theorem Zmi {t0 t1 t3:Bool}{a:ZB}{b:List Int}{c:Int}{d:List Int}{e:Int}{x2:((List Int)×(List Zi))}:∀(s5:Unit) (r:(((List Int)×(List Int)×(List Zi)×(List Zp)×(List Int)×(List Int)×(List Int)×(List Zi)×(List Zp)×(List Int))⊕(((List Int)×(List Int)×(List Zi)×(List Zp)×(List Int))⊕Unit))),lp (ZcY a b c d e x2) s5=some r→lpW ctx 0 [3,4,5,10,12,13,14] [10,11,12,13] ZtK [(.d (zL t3 d)),(.d (Zd e)),(.ptr 0 0),(.ptr 1 0),(.ptr 2 0),(.d (Zd 0)),(.d (Zd 0))] [(.cells [(.d (zL t0 a.work)),(.d (D.list t1 (List.map ZQ a.edges)))]),(.cells [(.sl 3 1),(.sl 4 1),(.sl 5 3),(.sl 6 6),(.sl 7 1)]),(.cells [(.sl 8 1),(.sl 9 1),(.sl 10 3),(.sl 11 6),(.sl 12 1)]),(.arr 1 []),(.arr 1 []),(.arr 3 []),(.arr 6 []),(.arr 1 []),(.arr 1 (List.map Zd x2.1)),(.arr 1 (List.map Zd b)),(.arr 3 (List.map ZN x2.2)),(.arr 6 (List.map ZR (List.replicate c.toNat ((Zp.mk false 0 0 0 0 0):Zp)))),(.arr 1 (List.map Zd (List.replicate c.toNat (0:Int))))]=some ((ZiM t0 t1 t3 a b c d e x2) r):=by
 refine Za7 (ZiM t0 t1 t3 a b c d e x2) ?_
 intro s5 rcl ih
 show ZD _ _ (lpW _ _ _ _ _ _ _)
 unfold ZcY
 rw[Za9]
 conv=>rhs;whnf
 refine Zc rfl ?_ ?_<;>conv=>rhs;whnf
 ·refine ZbQ rfl ?_;conv=>rhs;whnf
  refine Ze _ ZgM fun x6 hx6=>?_;conv=>rhs;whnf
  refine Ze _ ZfE fun x7 hx7=>?_;conv=>rhs;whnf
  refine Ze _ ZiZ fun x8 hx8=>?_;conv=>rhs;whnf
  refine Zk _ ZlV rfl fun x9 hx9=>?_;conv=>rhs;whnf
  refine Ze _ ZgM fun x10 hx10=>?_;conv=>rhs;whnf
  refine Ze _ ZfE fun x11 hx11=>?_;conv=>rhs;whnf
  refine Zk _ Zl3 rfl fun x12 hx12=>?_;conv=>rhs;whnf
  refine Zc rfl ?_ ?_<;>conv=>rhs;whnf
  ·exact Zb rfl
  ·refine Zc rfl ?_ ?_<;>conv=>rhs;whnf
   ·exact Zb rfl
   ·refine Ze _ (Zmg _) fun r21 hr21=>?_
    clear hr21
    rcases r21 with r21 | r21
    ·conv=>rhs;whnf
     exact Zb rfl
    ·conv=>rhs;whnf
     exact Zb rfl
 ·exact Zb rfl
theorem Zpv {t0 t1:Bool}{t2 t3:Bool}{a:ZB}{b:List Int}{c:Int}{d:List Int}{e:Int}:∀r,(Zfg a b c d e)=some r→evD ctx 20 [(.d (D.agg [(zL t0 a.work),(D.list t1 (List.map ZQ a.edges))])),(.d (zL t2 b)),(.d (Zd c)),(.d (zL t3 d)),(.d (Zd e))]=some (Zl4 r):=by
 show ZD _ (fun r rhs=>rhs=some (Zl4 r)) _
 unfold Zfg
 rw[ZaF ctx 20 ZC7 _ rfl rfl]
 conv=>rhs;whnf
 refine Ze _ ZgM fun x0 hx0=>?_;conv=>rhs;whnf
 refine Ze _ ZiZ fun x1 hx1=>?_;conv=>rhs;whnf
 refine Ze _ Zq2 fun x2 hx2=>?_
 clear hx2
 rcases x2 with x2 | x2
 ·conv=>rhs;whnf
  refine Ze _ (Znu _) fun r4 hr4=>?_;conv=>rhs;whnf
  refine Zc rfl ?_ ?_
  ·exact ZI
  ·conv=>rhs;whnf
   exact Zb rfl
 ·conv=>rhs;whnf
  refine Ze _ (Zmi _) fun r22 hr22=>?_
  clear hr22
  rcases r22 with r22 | (r22 | r22)
  ·conv=>rhs;whnf
   exact Zb rfl
  ·conv=>rhs;whnf
   refine ZbQ rfl ?_;conv=>rhs;whnf
   exact Zb rfl
  ·conv=>rhs;whnf
   refine ZbQ rfl ?_;conv=>rhs;whnf
   exact Zb rfl
def ZlZ (r:List Int):D:=(zL true r)
theorem ZpZ {t0 t1:Bool}{t2 t3:Bool}{t4 t5 t6:Bool}{a:ZB}{b:Zao}:∀r,(Zhp a b)=some r→evD ctx 23 [(.d (D.agg [(zL t0 a.work),(D.list t1 (List.map ZQ a.edges))])),(.d (D.agg [(zL t2 b.crew.on),(zL t3 b.crew.left),(D.list t4 (List.map ZN b.deques)),(D.list t5 (List.map ZR b.takers)),(zL t6 b.from_)]))]=some (ZlZ r):=by
 show ZD _ (fun r rhs=>rhs=some (ZlZ r)) _
 unfold Zhp
 rw[ZaF ctx 23 ZDR _ rfl rfl]
 conv=>rhs;whnf
 refine Zk _ ZgT rfl fun x0 hx0=>?_;conv=>rhs;whnf
 refine Zc rfl ?_ ?_<;>conv=>rhs;whnf
 ·exact Zb rfl
 ·refine Zk _ Zgc rfl fun x1 hx1=>?_;conv=>rhs;whnf
  exact Zb rfl
def ZnV (r:Bool):D:=(D.bool r)
def Zk5 (t0:Bool) (a:List Int) (b:Int):(Unit⊕Unit)→Ex×List V×Zn
  | (.inl r)=>(.ret,[(.d (D.bool true))],[])
  | (.inr r)=>(.exit 0,[.bad],[])
theorem Zo1 {t0:Bool}{a:List Int}{b:Int}:∀(s0:Int) (r:(Unit⊕Unit)),lp (ZfJ a b) s0=some r→lpW ctx 0 [0,1,5] [4] ZzW [(.d (zL t0 a)),(.d (Zd b)),(.d (Zd s0))] []=some ((Zk5 t0 a b) r):=by
 refine Za7 (Zk5 t0 a b) ?_
 intro s0 rcl ih
 show ZD _ _ (lpW _ _ _ _ _ _ _)
 unfold ZfJ
 rw[Za9]
 conv=>rhs;whnf
 refine Zl (ZE _ _) ?_;conv=>rhs;whnf
 refine Zc rfl ?_ ?_<;>conv=>rhs;whnf
 ·refine Zm rfl rfl fun x1 hx1=>?_;conv=>rhs;whnf
  refine Zc rfl ?_ ?_<;>conv=>rhs;whnf
  ·exact Zb rfl
  ·exact Zf (ih _)
 ·exact Zb rfl
theorem ZjT {t0:Bool}{a:List Int}{b:Int}:∀r,(ZgK a b)=some r→evD ctx 25 [(.d (zL t0 a)),(.d (Zd b))]=some (ZnV r):=by
 show ZD _ (fun r rhs=>rhs=some (ZnV r)) _
 unfold ZgK
 rw[ZaF ctx 25 ZDE _ rfl rfl]
 conv=>rhs;whnf
 refine Ze _ (Zo1 _) fun r2 hr2=>?_
 clear hr2
 rcases r2 with r2 | r2
 ·conv=>rhs;whnf
  exact Zb rfl
 ·conv=>rhs;whnf
  exact Zb rfl
def ZmH (r:Bool):D:=(D.bool r)
def Zkz (t0:Bool) (t1:Bool) (a:ZB) (b:Int) (c:Int):(Unit⊕Unit)→Ex×List V×Zn
  | (.inl r)=>(.ret,[(.d (D.bool true))],[])
  | (.inr r)=>(.exit 0,[.bad],[])
theorem Zou {t0 t1:Bool}{a:ZB}{b c:Int}:∀(s0:Int) (r:(Unit⊕Unit)),lp (ZeW a b c) s0=some r→lpW ctx 0 [1,2,3,7] [6] Zwn [(.d (Zd b)),(.d (Zd c)),(.ptr 0 0),(.d (Zd s0))] [(.cells [(.d (zL t0 a.work)),(.d (D.list t1 (List.map ZQ a.edges)))])]=some ((Zkz t0 t1 a b c) r):=by
 refine Za7 (Zkz t0 t1 a b c) ?_
 intro s0 rcl ih
 show ZD _ _ (lpW _ _ _ _ _ _ _)
 unfold ZeW
 rw[Za9]
 conv=>rhs;whnf
 refine Zl (ZE _ _) ?_;conv=>rhs;whnf
 refine Zc rfl ?_ ?_<;>conv=>rhs;whnf
 ·refine Zm rfl rfl fun x1 hx1=>?_;conv=>rhs;whnf
  refine Zc rfl ?_ ?_<;>conv=>rhs;whnf
  ·refine Zh (ZaX rfl hx1) ?_;conv=>rhs;whnf
   refine Zc rfl ?_ ?_<;>conv=>rhs;whnf
   ·exact Zb rfl
   ·exact Zf (ih _)
  ·exact Zf (ih _)
 ·exact Zb rfl
theorem Zqp {t0 t1:Bool}{a:ZB}{b c:Int}:∀r,(ZhR a b c)=some r→evD ctx 155 [(.d (D.agg [(zL t0 a.work),(D.list t1 (List.map ZQ a.edges))])),(.d (Zd b)),(.d (Zd c))]=some (ZmH r):=by
 show ZD _ (fun r rhs=>rhs=some (ZmH r)) _
 unfold ZhR
 rw[ZaF ctx 155 ZyZ _ rfl rfl]
 conv=>rhs;whnf
 refine Ze _ (Zou _) fun r2 hr2=>?_
 clear hr2
 rcases r2 with r2 | r2
 ·conv=>rhs;whnf
  exact Zb rfl
 ·conv=>rhs;whnf
  exact Zb rfl
def Zme (r:List Int):D:=(zL true r)
def ZjU (t0:Bool) (t1:Bool) (a:ZB) (b:Int):(List Int)→Ex×List V×Zn
  | r=>(.exit 0,[(.sl 0 1)],[(.arr 1 (List.map Zd r))])
theorem Znv {t0 t1:Bool}{a:ZB}{b:Int}:∀(s0:Int×(List Int)) (r:List Int),lp (Zel a b) s0=some r→lpW ctx 0 [1,2,5,6] [5] ZwH [(.d (Zd b)),(.ptr 0 0),(.sl 1 1),(.d (Zd s0.1))] [(.cells [(.d (zL t0 a.work)),(.d (D.list t1 (List.map ZQ a.edges)))]),(.arr 1 (List.map Zd s0.2))]=some ((ZjU t0 t1 a b) r):=by
 refine Za7 (ZjU t0 t1 a b) ?_
 intro s0 rcl ih
 show ZD _ _ (lpW _ _ _ _ _ _ _)
 unfold Zel
 rw[Za9]
 conv=>rhs;whnf
 refine Zl (ZE _ _) ?_;conv=>rhs;whnf
 refine Zc rfl ?_ ?_<;>conv=>rhs;whnf
 ·refine Zk _ Zqp rfl fun x1 hx1=>?_;conv=>rhs;whnf
  refine Zc rfl ?_ ?_<;>conv=>rhs;whnf
  ·refine ZbQ rfl ?_;conv=>rhs;whnf
   refine Zc (ZgY Zd s0.2 1) ?_ ?_
   ·conv=>rhs;whnf
    refine Zl (ZgV Zd s0.2 [s0.1]) ?_;conv=>rhs;whnf
    exact Zf (ih _)
   ·exact ZI
  ·exact Zf (ih _)
 ·exact Zb rfl
theorem ZpB {t0 t1:Bool}{a:ZB}{b:Int}:∀r,(Zho a b)=some r→evD ctx 113 [(.d (D.agg [(zL t0 a.work),(D.list t1 (List.map ZQ a.edges))])),(.d (Zd b))]=some (Zme r):=by
 show ZD _ (fun r rhs=>rhs=some (Zme r)) _
 unfold Zho
 rw[ZaF ctx 113 ZA3 _ rfl rfl]
 conv=>rhs;whnf
 refine Ze _ (Znv _) fun r2 hr2=>?_;conv=>rhs;whnf
 exact Zb rfl
def Zmx (r:Bool):D:=(D.bool r)
def Zki (t2:Bool) (t3:Bool) (b:Z6) (x0:List Int):(Unit⊕Unit)→Ex×List V×Zn
  | (.inl r)=>(.ret,[(.d (D.bool false))],[])
  | (.inr r)=>(.exit 0,[.bad],[])
theorem Zol {t2 t3:Bool}{b:Z6}{x0:List Int}:∀(s1:Int) (r:(Unit⊕Unit)),lp (ZeX b x0) s1=some r→lpW ctx 0 [4,7,8] [6] ZyV [(.ptr 0 0),(.d (zL true x0)),(.d (Zd s1))] [(.cells [(.d (zL t2 b.on)),(.d (zL t3 b.left))])]=some ((Zki t2 t3 b x0) r):=by
 refine Za7 (Zki t2 t3 b x0) ?_
 intro s1 rcl ih
 show ZD _ _ (lpW _ _ _ _ _ _ _)
 unfold ZeX
 rw[Za9]
 conv=>rhs;whnf
 refine Zl (ZE _ _) ?_;conv=>rhs;whnf
 refine Zc rfl ?_ ?_<;>conv=>rhs;whnf
 ·refine Zm rfl rfl fun x2 hx2=>?_;conv=>rhs;whnf
  refine Zm rfl rfl fun x3 hx3=>?_;conv=>rhs;whnf
  refine Zc rfl ?_ ?_<;>conv=>rhs;whnf
  ·exact Zb rfl
  ·exact Zf (ih _)
 ·exact Zb rfl
theorem Zqs {t0 t1:Bool}{t2 t3:Bool}{a:ZB}{b:Z6}{c:Int}:∀r,(ZhM a b c)=some r→evD ctx 64 [(.d (D.agg [(zL t0 a.work),(D.list t1 (List.map ZQ a.edges))])),(.d (D.agg [(zL t2 b.on),(zL t3 b.left)])),(.d (Zd c))]=some (Zmx r):=by
 show ZD _ (fun r rhs=>rhs=some (Zmx r)) _
 unfold ZhM
 rw[ZaF ctx 64 ZC1 _ rfl rfl]
 conv=>rhs;whnf
 refine Zk _ ZpB rfl fun x0 hx0=>?_;conv=>rhs;whnf
 refine Ze _ (Zol _) fun r4 hr4=>?_
 clear hr4
 rcases r4 with r4 | r4
 ·conv=>rhs;whnf
  exact Zb rfl
 ·conv=>rhs;whnf
  exact Zb rfl
def Zmf (r:List Int):D:=(zL true r)
def ZjO (t0:Bool) (t1:Bool) (t2:Bool) (t3:Bool) (a:ZB) (b:Z6):(List Int)→Ex×List V×Zn
  | r=>(.exit 0,[(.sl 0 1)],[(.arr 1 (List.map Zd r))])
theorem ZnA {t0 t1:Bool}{t2 t3:Bool}{a:ZB}{b:Z6}:∀(s0:Int×(List Int)) (r:List Int),lp (Zem a b) s0=some r→lpW ctx 0 [2,3,5,6] [5] Zzi [(.ptr 0 0),(.ptr 1 0),(.sl 2 1),(.d (Zd s0.1))] [(.cells [(.d (zL t0 a.work)),(.d (D.list t1 (List.map ZQ a.edges)))]),(.cells [(.d (zL t2 b.on)),(.d (zL t3 b.left))]),(.arr 1 (List.map Zd s0.2))]=some ((ZjO t0 t1 t2 t3 a b) r):=by
 refine Za7 (ZjO t0 t1 t2 t3 a b) ?_
 intro s0 rcl ih
 show ZD _ _ (lpW _ _ _ _ _ _ _)
 unfold Zem
 rw[Za9]
 conv=>rhs;whnf
 refine Zl (ZE _ _) ?_;conv=>rhs;whnf
 refine Zc rfl ?_ ?_<;>conv=>rhs;whnf
 ·refine Zm rfl rfl fun x1 hx1=>?_;conv=>rhs;whnf
  refine Zc rfl ?_ ?_<;>conv=>rhs;whnf
  ·refine Zk _ ZjT rfl fun x2 hx2=>?_;conv=>rhs;whnf
   refine Zc rfl ?_ ?_<;>conv=>rhs;whnf
   ·exact Zf (ih _)
   ·refine Zk _ Zqs rfl fun x3 hx3=>?_;conv=>rhs;whnf
    refine Zc rfl ?_ ?_<;>conv=>rhs;whnf
    ·refine ZbQ rfl ?_;conv=>rhs;whnf
     refine Zc (ZgY Zd s0.2 1) ?_ ?_
     ·conv=>rhs;whnf
      refine Zl (ZgV Zd s0.2 [s0.1]) ?_;conv=>rhs;whnf
      exact Zf (ih _)
     ·exact ZI
    ·exact Zf (ih _)
  ·exact Zf (ih _)
 ·exact Zb rfl
theorem Zpz {t0 t1:Bool}{t2 t3:Bool}{a:ZB}{b:Z6}:∀r,(Zhh a b)=some r→evD ctx 24 [(.d (D.agg [(zL t0 a.work),(D.list t1 (List.map ZQ a.edges))])),(.d (D.agg [(zL t2 b.on),(zL t3 b.left)]))]=some (Zmf r):=by
 show ZD _ (fun r rhs=>rhs=some (Zmf r)) _
 unfold Zhh
 rw[ZaF ctx 24 ZCM _ rfl rfl]
 conv=>rhs;whnf
 refine Ze _ (ZnA _) fun r4 hr4=>?_;conv=>rhs;whnf
 exact Zb rfl
def Zm8 (r:(Zao×Int)):D:=(D.tup [(D.agg [(zL true r.1.crew.on),(zL true r.1.crew.left),(D.list true (List.map ZN r.1.deques)),(D.list true (List.map ZR r.1.takers)),(zL true r.1.from_)]),(Zd r.2)])
theorem Zqx {t0 t1:Bool}{t2 t3:Bool}{t4 t5 t6:Bool}{a:ZB}{b:Zao}{c:Int}:∀r,(ZhV a b c)=some r→evD ctx 27 [(.d (D.agg [(zL t0 a.work),(D.list t1 (List.map ZQ a.edges))])),(.d (D.agg [(zL t2 b.crew.on),(zL t3 b.crew.left),(D.list t4 (List.map ZN b.deques)),(D.list t5 (List.map ZR b.takers)),(zL t6 b.from_)])),(.d (Zd c))]=some (Zm8 r):=by
 show ZD _ (fun r rhs=>rhs=some (Zm8 r)) _
 unfold ZhV
 rw[ZaF ctx 27 ZCE _ rfl rfl]
 conv=>rhs;whnf
 refine Zk _ ZgT rfl fun x0 hx0=>?_;conv=>rhs;whnf
 refine Zc rfl ?_ ?_<;>conv=>rhs;whnf
 ·exact Zb rfl
 ·refine Zc rfl ?_ ?_<;>conv=>rhs;whnf
  ·exact Zb rfl
  ·refine Zl (ZE _ _) ?_;conv=>rhs;whnf
   refine Zc rfl ?_ ?_<;>conv=>rhs;whnf
   ·exact Zb rfl
   ·refine Zm rfl rfl fun x1 hx1=>?_;conv=>rhs;whnf
    refine Zc rfl ?_ ?_<;>conv=>rhs;whnf
    ·exact Zb rfl
    ·refine Ze _ Zj1 fun x2 hx2=>?_;conv=>rhs;whnf
     refine Ze _ ZiO fun x3 hx3=>?_;conv=>rhs;whnf
     refine Zc rfl ?_ ?_<;>conv=>rhs;whnf
     ·exact Zb rfl
     ·exact Zb rfl
def Zna (r:Bool):D:=(D.bool r)
def Zkg (t2:Bool) (t3:Bool) (t4:Bool) (t5:Bool) (t6:Bool) (b:Zao) (x0:List Int) (s1:Int×Int×(List Int)) (x2:Zi):(List Int)→Ex×List V×Zn
  | r=>(.exit 2,[(.ptr 0 0),(.d (zL true x0)),(.sl 1 1),(.d (Zd s1.1)),(.d (Zd s1.2.1)),(.ptr 2 0)],[(.cells [(.d (zL t2 b.crew.on)),(.d (zL t3 b.crew.left)),(.d (D.list t4 (List.map ZN b.deques))),(.d (D.list t5 (List.map ZR b.takers))),(.d (zL t6 b.from_))]),(.arr 1 (List.map Zd r)),(.cells [(.d (zL true x2.ring)),(.d (Zd x2.top)),(.d (Zd x2.bottom))])])
theorem Zos {t2 t3:Bool}{t4 t5 t6:Bool}{b:Zao}{x0:List Int}{s1:Int×Int×(List Int)}{x2:Zi}:∀(s3:Int×(List Int)) (r:List Int),lp (ZeY x2) s3=some r→lpW ctx 0 [3,5,6,7,8,9,10] [3,5,6,7,8,9] Zyl [(.ptr 0 0),(.d (zL true x0)),(.sl 1 1),(.d (Zd s1.1)),(.d (Zd s1.2.1)),(.ptr 2 0),(.d (Zd s3.1))] [(.cells [(.d (zL t2 b.crew.on)),(.d (zL t3 b.crew.left)),(.d (D.list t4 (List.map ZN b.deques))),(.d (D.list t5 (List.map ZR b.takers))),(.d (zL t6 b.from_))]),(.arr 1 (List.map Zd s3.2)),(.cells [(.d (zL true x2.ring)),(.d (Zd x2.top)),(.d (Zd x2.bottom))])]=some ((Zkg t2 t3 t4 t5 t6 b x0 s1 x2) r):=by
 refine Za7 (Zkg t2 t3 t4 t5 t6 b x0 s1 x2) ?_
 intro s3 rcl ih
 show ZD _ _ (lpW _ _ _ _ _ _ _)
 unfold ZeY
 rw[Za9]
 conv=>rhs;whnf
 refine Zc rfl ?_ ?_<;>conv=>rhs;whnf
 ·refine Zaw rfl ?_;conv=>rhs;whnf
  refine Zm rfl rfl fun x4 hx4=>?_;conv=>rhs;whnf
  refine ZbQ rfl ?_;conv=>rhs;whnf
  refine Zc (ZgY Zd s3.2 1) ?_ ?_
  ·conv=>rhs;whnf
   refine Zl (ZgV Zd s3.2 [x4]) ?_;conv=>rhs;whnf
   exact Zf (ih _)
  ·exact ZI
 ·exact Zb rfl
def Zkb (t2:Bool) (t3:Bool) (t4:Bool) (t5:Bool) (t6:Bool) (b:Zao) (x0:List Int):(Int×(List Int))→Ex×List V×Zn
  | r=>(.exit 0,[(.d (zL true x0)),(.sl 0 1),(.d (Zd r.1))],[(.arr 1 (List.map Zd r.2))])
theorem Zoe {t2 t3:Bool}{t4 t5 t6:Bool}{b:Zao}{x0:List Int}:∀(s1:Int×Int×(List Int)) (r:(Int×(List Int))),lp (ZcM b) s1=some r→lpW ctx 0 [3,5,6,7,8] [5,6,7] ZzS [(.ptr 0 0),(.d (zL true x0)),(.sl 1 1),(.d (Zd s1.1)),(.d (Zd s1.2.1))] [(.cells [(.d (zL t2 b.crew.on)),(.d (zL t3 b.crew.left)),(.d (D.list t4 (List.map ZN b.deques))),(.d (D.list t5 (List.map ZR b.takers))),(.d (zL t6 b.from_))]),(.arr 1 (List.map Zd s1.2.2))]=some ((Zkb t2 t3 t4 t5 t6 b x0) r):=by
 refine Za7 (Zkb t2 t3 t4 t5 t6 b x0) ?_
 intro s1 rcl ih
 show ZD _ _ (lpW _ _ _ _ _ _ _)
 unfold ZcM
 rw[Za9]
 conv=>rhs;whnf
 refine Zl (ZE _ _) ?_;conv=>rhs;whnf
 refine Zc rfl ?_ ?_<;>conv=>rhs;whnf
 ·refine Zm rfl rfl fun x2 hx2=>?_;conv=>rhs;whnf
  refine Ze _ (Zos _) fun r5 hr5=>?_;conv=>rhs;whnf
  refine Zm rfl rfl fun x6 hx6=>?_;conv=>rhs;whnf
  refine Zm rfl rfl fun x7 hx7=>?_;conv=>rhs;whnf
  refine Zc rfl ?_ ?_<;>conv=>rhs;whnf
  ·refine Zc rfl ?_ ?_<;>conv=>rhs;whnf
   ·exact Zf (ih _)
   ·refine Zc rfl ?_ ?_<;>conv=>rhs;whnf
    ·refine Zc rfl ?_ ?_<;>conv=>rhs;whnf
     ·exact Zf (ih _)
     ·refine Zc rfl ?_ ?_<;>conv=>rhs;whnf
      ·refine Zc rfl ?_ ?_<;>conv=>rhs;whnf
       ·exact Zf (ih _)
       ·exact Zf (ih _)
      ·exact Zf (ih _)
    ·exact Zf (ih _)
  ·exact Zf (ih _)
 ·exact Zb rfl
def Zke (x0:List Int) (r8:(Int×(List Int))):(Unit⊕Unit)→Ex×List V×Zn
  | (.inl r)=>(.ret,[(.d (D.bool false)),(.d (zL true x0)),(.sl 0 1),(.d (Zd r8.1))],[(.arr 1 (List.map Zd r8.2))])
  | (.inr r)=>(.exit 4,[.bad,(.d (zL true x0)),(.sl 0 1),(.d (Zd r8.1))],[(.arr 1 (List.map Zd r8.2))])
theorem Zor {x0:List Int}{r8:(Int×(List Int))}:∀(s9:Int) (r:(Unit⊕Unit)),lp (ZeU x0 r8) s9=some r→lpW ctx 0 [5,6,7,12] [4,5,6,7] Zyy [(.d (zL true x0)),(.sl 0 1),(.d (Zd r8.1)),(.d (Zd s9))] [(.arr 1 (List.map Zd r8.2))]=some ((Zke x0 r8) r):=by
 refine Za7 (Zke x0 r8) ?_
 intro s9 rcl ih
 show ZD _ _ (lpW _ _ _ _ _ _ _)
 unfold ZeU
 rw[Za9]
 conv=>rhs;whnf
 refine Zl (ZE _ _) ?_;conv=>rhs;whnf
 refine Zc rfl ?_ ?_<;>conv=>rhs;whnf
 ·refine Zc rfl ?_ ?_
  ·conv=>rhs;whnf
   refine Zc (ZwK Zd r8.2 s9.toNat) ?_ ?_
   ·conv=>rhs;whnf
    refine Zl (x':=0) rfl ?_;conv=>rhs;whnf
    refine Zl (x':=s9.toNat) (by first | rfl | rw[List.length_map] | rw[ZtM,List.length_map]) ?_;conv=>rhs;whnf
    refine Zm rfl rfl fun x10 hx10=>?_;conv=>rhs;whnf
    refine Zh (Zr rfl hx10) ?_;conv=>rhs;whnf
    refine Zk _ ZjT (by first | rfl | (simp only[ZtM];done) | (simp only[ZtM];rfl)) fun x11 hx11=>?_;conv=>rhs;whnf
    refine Zc rfl ?_ ?_<;>conv=>rhs;whnf
    ·exact Zb rfl
    ·refine Zh (ZaX rfl hx10) ?_;conv=>rhs;whnf
     refine Zh (Zr rfl hx10) ?_;conv=>rhs;whnf
     refine Zk _ ZjT rfl fun x12 hx12=>?_;conv=>rhs;whnf
     refine Zc rfl ?_ ?_<;>conv=>rhs;whnf
     ·exact Zf (ih _)
     ·exact Zb rfl
   ·exact ZI
  ·exact ZI
 ·exact Zb rfl
theorem Zqt {t0 t1:Bool}{t2 t3:Bool}{t4 t5 t6:Bool}{a:ZB}{b:Zao}:∀r,(Zh2 a b)=some r→evD ctx 28 [(.d (D.agg [(zL t0 a.work),(D.list t1 (List.map ZQ a.edges))])),(.d (D.agg [(zL t2 b.crew.on),(zL t3 b.crew.left),(D.list t4 (List.map ZN b.deques)),(D.list t5 (List.map ZR b.takers)),(zL t6 b.from_)]))]=some (Zna r):=by
 show ZD _ (fun r rhs=>rhs=some (Zna r)) _
 unfold Zh2
 rw[ZaF ctx 28 ZCZ _ rfl rfl]
 conv=>rhs;whnf
 refine Zk _ Zpz rfl fun x0 hx0=>?_;conv=>rhs;whnf
 refine Ze _ (Zoe _) fun r8 hr8=>?_;conv=>rhs;whnf
 refine Ze _ (Zor _) fun r13 hr13=>?_
 clear hr13
 rcases r13 with r13 | r13
 ·conv=>rhs;whnf
  exact Zb rfl
 ·conv=>rhs;whnf
  refine Zl (ZE _ _) ?_;conv=>rhs;whnf
  refine Zl (ZE _ _) ?_;conv=>rhs;whnf
  refine Zc rfl ?_ ?_<;>conv=>rhs;whnf
  ·exact Zb rfl
  ·exact Zb rfl
def Zi9 (r:Bool):D:=(D.bool r)
def Zh4 (t0:Bool) (t1:Bool) (t3:Bool) (a:ZB) (d:List Int) (s6:Int×(List Int)×(List Int)×(List Zi)×(List Zp)×(List Int)) (x12:(Zao×Int)):(Unit⊕Unit)→Ex×List V×Zn
  | (.inl r)=>(.ret,[(.d (zL t3 d)),(.ptr 0 0),(.d (D.bool false)),(.ptr 1 0),(.d (Zd s6.1)),(.ptr 2 0)],[(.cells [(.d (zL t0 a.work)),(.d (D.list t1 (List.map ZQ a.edges)))]),(.cells [(.d (zL true s6.2.1)),(.d (zL true s6.2.2.1)),(.d (D.list true (List.map ZN s6.2.2.2.1))),(.d (D.list true (List.map ZR s6.2.2.2.2.1))),(.d (zL true s6.2.2.2.2.2))]),(.cells [(.d (zL true x12.1.crew.on)),(.d (zL true x12.1.crew.left)),(.d (D.list true (List.map ZN x12.1.deques))),(.d (D.list true (List.map ZR x12.1.takers))),(.d (zL true x12.1.from_))])])
  | (.inr r)=>(.exit 2,[(.d (zL t3 d)),(.ptr 0 0),.bad,(.ptr 1 0),(.d (Zd s6.1)),(.ptr 2 0)],[(.cells [(.d (zL t0 a.work)),(.d (D.list t1 (List.map ZQ a.edges)))]),(.cells [(.d (zL true s6.2.1)),(.d (zL true s6.2.2.1)),(.d (D.list true (List.map ZN s6.2.2.2.1))),(.d (D.list true (List.map ZR s6.2.2.2.2.1))),(.d (zL true s6.2.2.2.2.2))]),(.cells [(.d (zL true x12.1.crew.on)),(.d (zL true x12.1.crew.left)),(.d (D.list true (List.map ZN x12.1.deques))),(.d (D.list true (List.map ZR x12.1.takers))),(.d (zL true x12.1.from_))])])
theorem Zll {t0 t1 t3:Bool}{a:ZB}{d:List Int}{s6:Int×(List Int)×(List Int)×(List Zi)×(List Zp)×(List Int)}{x12:(Zao×Int)}:∀(s13:Int) (r:(Unit⊕Unit)),lp (Zc4 s6 x12) s13=some r→lpW ctx 0 [3,5,11,13,15,17] [3,5,10,11,13,15] ZCb [(.d (zL t3 d)),(.ptr 0 0),(.ptr 1 0),(.d (Zd s6.1)),(.ptr 2 0),(.d (Zd s13))] [(.cells [(.d (zL t0 a.work)),(.d (D.list t1 (List.map ZQ a.edges)))]),(.cells [(.d (zL true s6.2.1)),(.d (zL true s6.2.2.1)),(.d (D.list true (List.map ZN s6.2.2.2.1))),(.d (D.list true (List.map ZR s6.2.2.2.2.1))),(.d (zL true s6.2.2.2.2.2))]),(.cells [(.d (zL true x12.1.crew.on)),(.d (zL true x12.1.crew.left)),(.d (D.list true (List.map ZN x12.1.deques))),(.d (D.list true (List.map ZR x12.1.takers))),(.d (zL true x12.1.from_))])]=some ((Zh4 t0 t1 t3 a d s6 x12) r):=by
 refine Za7 (Zh4 t0 t1 t3 a d s6 x12) ?_
 intro s13 rcl ih
 show ZD _ _ (lpW _ _ _ _ _ _ _)
 unfold Zc4
 rw[Za9]
 conv=>rhs;whnf
 refine Zl (ZE _ _) ?_;conv=>rhs;whnf
 refine Zc rfl ?_ ?_<;>conv=>rhs;whnf
 ·refine Zm rfl rfl fun x14 hx14=>?_;conv=>rhs;whnf
  refine Zc rfl ?_ ?_<;>conv=>rhs;whnf
  ·refine Zm rfl rfl fun x15 hx15=>?_;conv=>rhs;whnf
   refine Zh (ZaX rfl hx14) ?_;conv=>rhs;whnf
   refine Zc rfl ?_ ?_<;>conv=>rhs;whnf
   ·exact Zb rfl
   ·exact Zf (ih _)
  ·exact Zf (ih _)
 ·exact Zb rfl
def ZhO (t0:Bool) (t1:Bool) (t3:Bool) (a:ZB) (d:List Int):(Unit⊕(Unit⊕Unit))→Ex×List V×Zn
  | (.inl r)=>(.ret,[(.d (D.bool true))],[])
  | (.inr (.inl r))=>(.ret,[(.d (D.bool false))],[])
  | (.inr (.inr r))=>(.exit 0,[.bad],[])
theorem ZkS {t0 t1 t3:Bool}{a:ZB}{d:List Int}:∀(s6:Int×(List Int)×(List Int)×(List Zi)×(List Zp)×(List Int)) (r:(Unit⊕(Unit⊕Unit))),lp (Zcl a d) s6=some r→lpW ctx 0 [3,5,11,13] [10] ZCd [(.d (zL t3 d)),(.ptr 0 0),(.ptr 1 0),(.d (Zd s6.1))] [(.cells [(.d (zL t0 a.work)),(.d (D.list t1 (List.map ZQ a.edges)))]),(.cells [(.d (zL true s6.2.1)),(.d (zL true s6.2.2.1)),(.d (D.list true (List.map ZN s6.2.2.2.1))),(.d (D.list true (List.map ZR s6.2.2.2.2.1))),(.d (zL true s6.2.2.2.2.2))])]=some ((ZhO t0 t1 t3 a d) r):=by
 refine Za7 (ZhO t0 t1 t3 a d) ?_
 intro s6 rcl ih
 show ZD _ _ (lpW _ _ _ _ _ _ _)
 unfold Zcl
 rw[Za9]
 conv=>rhs;whnf
 refine Zl (ZE _ _) ?_;conv=>rhs;whnf
 refine Zc rfl ?_ ?_<;>conv=>rhs;whnf
 ·refine Ze _ ZfE fun x7 hx7=>?_;conv=>rhs;whnf
  refine Zk _ ZpZ rfl fun x8 hx8=>?_;conv=>rhs;whnf
  refine Zl (ZE _ _) ?_;conv=>rhs;whnf
  refine Zc rfl ?_ ?_<;>conv=>rhs;whnf
  ·exact Zb rfl
  ·refine Ze _ ZfE fun x9 hx9=>?_;conv=>rhs;whnf
   refine Zm rfl rfl fun x10 hx10=>?_;conv=>rhs;whnf
   refine Zl (ZE _ _) ?_;conv=>rhs;whnf
   refine Zc rfl ?_ ?_
   ·exact ZI
   ·conv=>rhs;whnf
    refine Zm rfl rfl fun x11 hx11=>?_;conv=>rhs;whnf
    refine Zk _ Zqx rfl fun x12 hx12=>?_;conv=>rhs;whnf
    refine Zc rfl ?_ ?_<;>conv=>rhs;whnf
    ·exact Zb rfl
    ·refine Ze _ (Zll _) fun r16 hr16=>?_
     clear hr16
     rcases r16 with r16 | r16
     ·conv=>rhs;whnf
      exact Zb rfl
     ·conv=>rhs;whnf
      refine Zk _ Zqt rfl fun x17 hx17=>?_;conv=>rhs;whnf
      refine Zc rfl ?_ ?_<;>conv=>rhs;whnf
      ·exact Zf (ih _)
      ·exact Zb rfl
 ·exact Zb rfl
theorem ZmX {t0 t1:Bool}{t2 t3:Bool}{a:ZB}{b:List Int}{c:Int}{d:List Int}{e:Int}:∀r,(Zgo a b c d e)=some r→evD ctx 5 [(.d (D.agg [(zL t0 a.work),(D.list t1 (List.map ZQ a.edges))])),(.d (zL t2 b)),(.d (Zd c)),(.d (zL t3 d)),(.d (D.int .u8 e))]=some (Zi9 r):=by
 show ZD _ (fun r rhs=>rhs=some (Zi9 r)) _
 unfold Zgo
 rw[ZaF ctx 5 fn5 _ rfl rfl]
 conv=>rhs;whnf
 refine Zk _ Zej rfl fun x0 hx0=>?_;conv=>rhs;whnf
 refine Zc rfl ?_ ?_<;>conv=>rhs;whnf
 ·refine Zk _ Zq7 rfl fun x1 hx1=>?_;conv=>rhs;whnf
  refine Zc rfl ?_ ?_<;>conv=>rhs;whnf
  ·refine Zl (ZE _ _) ?_;conv=>rhs;whnf
   refine Zc rfl ?_ ?_<;>conv=>rhs;whnf
   ·refine Zk _ Zej rfl fun x2 hx2=>?_;conv=>rhs;whnf
    refine Zc rfl ?_ ?_<;>conv=>rhs;whnf
    ·exact Zb rfl
    ·exact Zb rfl
   ·refine Zk _ Zpf rfl fun x3 hx3=>?_;conv=>rhs;whnf
    refine Zc rfl ?_ ?_<;>conv=>rhs;whnf
    ·refine Zl (ZE _ _) ?_;conv=>rhs;whnf
     refine Zc rfl ?_ ?_<;>conv=>rhs;whnf
     ·refine Zk _ Zej rfl fun x4 hx4=>?_;conv=>rhs;whnf
      refine Zc rfl ?_ ?_<;>conv=>rhs;whnf
      ·exact Zb rfl
      ·exact Zb rfl
     ·refine Zaw rfl ?_;conv=>rhs;whnf
      refine Zk _ Zpv rfl fun x5 hx5=>?_;conv=>rhs;whnf
      refine Zc rfl ?_ ?_<;>conv=>rhs;whnf
      ·refine Ze _ (ZkS _) fun r18 hr18=>?_
       clear hr18
       rcases r18 with r18 | (r18 | r18)
       ·conv=>rhs;whnf
        exact Zb rfl
       ·conv=>rhs;whnf
        exact Zb rfl
       ·conv=>rhs;whnf
        exact Zb rfl
      ·exact Zb rfl
    ·refine Zk _ Zej rfl fun x19 hx19=>?_;conv=>rhs;whnf
     refine Zc rfl ?_ ?_<;>conv=>rhs;whnf
     ·exact Zb rfl
     ·exact Zb rfl
  ·refine Zk _ Zej rfl fun x20 hx20=>?_;conv=>rhs;whnf
   refine Zc rfl ?_ ?_<;>conv=>rhs;whnf
   ·exact Zb rfl
   ·exact Zb rfl
 ·refine Zk _ Zej rfl fun x21 hx21=>?_;conv=>rhs;whnf
  refine Zc rfl ?_ ?_<;>conv=>rhs;whnf
  ·exact Zb rfl
  ·exact Zb rfl
abbrev ZzN:List Lf×Bool:=([.int .i64],false)
abbrev ZA6:List Lf×Bool:=([.int .u8],false)
abbrev ZnY:List Lf×Bool:=([.sl false [.int .i64]],false)
abbrev ZuQ:List Lf×Bool:=([.sl false [.int .i64],.sl true [.int .i64,.int .i64]],true)
theorem Zvs {g:ZB}{m:Nat} (h:Zb6 g=0) {picks:List Int} (hp:picks.length≤300):∀(k i:Nat) (on left fs:List Int) (ds:List Zi) (ts:List Zp),i+k=picks.length→GangIn g m left on ds ts fs →
  ∃r,lp (Zcl g picks) ((i:Int),on,left,ds,ts,fs)=some r∧(r = .inl ()∨r = .inr (.inr ())):=by
 obtain⟨hG,hA⟩:=Zcf h
 intro k
 induction k with
 | zero=>
  intro i on left fs ds ts hi G
  have:i=picks.length:=by omega
  subst this
  refine⟨_,?_,.inr rfl⟩
  rw[Zbk]
  simp only[Zcl,ZgZ,cond_false]
 | succ k ih=>
  intro i on left fs ds ts hi G
  have hi':i<picks.length:=by omega
  have hx:=List.getElem?_eq_getElem hi'
  generalize picks[i]=x at hx
  have h8:m≤8:=by rw[← G.ol];exact G.crew.o8
  have hwl:=Zxa m (vw on ds ts fs)
  rw[Zbk]
  simp only[Zcl,ZgS hi',cond_true,Zmw hG G,Option.bind_some,Zvz h G,Zaf hx]
  by_cases h0:(wlV m (vw on ds ts fs)).length=0
  ·rw[show(((wlV m (vw on ds ts fs)).length:Int)==0)=true from beq_iff_eq.2 (by omega),cond_true]
   exact⟨_,rfl,.inl rfl⟩
  ·rw[show(((wlV m (vw on ds ts fs)).length:Int)==0)=false from beq_eq_false_iff_ne.2 (by omega),cond_false,cond_false]
   have hz:(0:Int)≤(bif decide (x<0) then 0 else x):=by
    by_cases h:x<0
    ·rw[decide_eq_true h];exact Int.le_refl _
    ·rw[decide_eq_false h];show 0≤x;omega
   have h1:=Int.tmod_nonneg ((wlV m (vw on ds ts fs)).length:Int) hz
   have h2:=Int.tmod_lt_of_pos (bif decide (x<0) then 0 else x) (show(0:Int)<((wlV m (vw on ds ts fs)).length:Int) by omega)
   have h3:(Int.tmod (bif decide (x<0) then 0 else x) ((wlV m (vw on ds ts fs)).length:Int)).toNat<(wlV m (vw on ds ts fs)).length:=by omega
   have hy:=List.getElem?_eq_getElem h3
   rw[ZtY h1 hy,Option.bind_some]
   obtain⟨w0,w1⟩:=Zkm.1 (List.mem_of_getElem? hy)
   obtain⟨on',ds',ts',fs',q1,q2,q3⟩:=ZxX h G w1
   rw[Int.toNat_of_nonneg w0] at q1
   rw[q1,Option.bind_some]
   dsimp only
   rw[show((0:Int) != 0)=false from rfl,cond_false]
   have hL0:lp (Zc4 ((i:Int),on,left,ds,ts,fs) (⟨⟨on',left⟩,ds',ts',fs'⟩,0)) 0=some (.inr ()):=Zq1 on _ _ (fun j n hj hn=>by
    have hj':j<on'.length:=by rw[q2.ol,← G.ol];exact hj
    have hn':=List.getElem?_eq_getElem hj'
    simp only[Zc4,ZgS hj,cond_true,Zaf hn,Option.bind_some,Zaf hn',ZaD hj (show on.length<9223372036854775808 by have:=G.ol;omega)]
    by_cases hnn:0≤n
    ·have hk:=q3.row j n hn (by omega)
     rw[hn'] at hk
     have hk:on'[j]=n:=Option.some.inj hk
     rw[decide_eq_true hnn,cond_true,show(on'[j] != n)=false by rw[hk];simp]
     rfl
    ·rw[decide_eq_false hnn];rfl) (by simp only[Zc4,ZgZ];rfl)
   rw[hL0,Option.bind_some]
   dsimp only
   rw[ZDT h q2,Option.bind_some,cond_true,ZaD hi' (show picks.length<9223372036854775808 by omega)]
   exact ih (i+1) on' left fs' ds' ts' (by omega) q2
theorem Zr9 (g:ZB) (need:List Int) (c:Int) (picks:List Int) (ticks:Int) (hu:0≤ticks∧ticks≤255):Zgo g need c picks ticks=some true:=by
 unfold Zgo
 simp only[Zee,ZDD,Option.bind_some,cond_true]
 cases hf:Zt0 g with
 | false=>rfl
 | true=>
 obtain⟨hw,he,hsh⟩:=Zxj hf
 rw[cond_true]
 by_cases hl:70<(need.length:Int)
 ·rw[decide_eq_true hl];rfl
 rw[decide_eq_false hl,cond_false]
 obtain⟨b,hb,hb2⟩:=Zzx need (by omega)
 rw[hb,Option.bind_some]
 cases b with
 | false=>rfl
 | true=>
 rw[cond_true]
 by_cases hp:300<(picks.length:Int)
 ·rw[decide_eq_true hp];rfl
 rw[decide_eq_false hp,cond_false,Zc5 (by omega) (by omega)]
 have ht0:=Int.tmod_nonneg 20 hu.1
 have ht1:=Int.tmod_lt_of_pos ticks (show(0:Int)<20 by omega)
 by_cases h1:ZmY g need c=0
 ·have hin:=ZqJ.1 h1
  obtain⟨on,left,ds,ts,fs,b1,GB⟩:=Zzn (picks:=[]) (e:=Int.tmod ticks 20) hin hf (by omega) (by simp) (by omega)
  obtain⟨r,r1,r2⟩:=Zvs hin.ck (show picks.length≤300 by omega) picks.length 0 on left fs ds ts (by omega) GB.toGangIn
  rw[b1,Option.bind_some]
  dsimp only
  rw[cond_true,show(lp (Zcl g picks) (0,on,left,ds,ts,fs))=_ from r1,Option.bind_some]
  rcases r2 with rfl | rfl<;>rfl
 ·obtain⟨G,hG⟩:=Zx7 (picks:=[]) (e:=Int.tmod ticks 20) hsh h1 hf (by omega)
  rw[hG,Option.bind_some,cond_false]
theorem ZtD (xs:List D) (h:Zg2 ZuQ.1 xs) (ys:List D) (k:Zg2 ZnY.1 ys) (zs:List D) (m:Zg2 ZzN.1 zs) (vs:List D) (n:Zg2 ZnY.1 vs) (ws:List D) (r:Zg2 ZA6.1 ws) :
  ∃H',evW ctx 5 (Zdq [Zlz ZuQ.2 xs,Zlz ZnY.2 ys,Zlz ZzN.2 zs,Zlz ZnY.2 vs,Zlz ZA6.2 ws]) []=some (.d (.bool true),H'):=by
 obtain⟨d,hd,_⟩:=Zyc h
 obtain⟨a,ha,_⟩:=Zrq k
 obtain⟨c,hc,_⟩:=ZDn m
 obtain⟨p,hp,_⟩:=Zrq n
 obtain⟨t,ht,hu⟩:=ZFU r
 show ∃H',evW ctx 5 [.d (D.agg xs),.d (Zlz false ys),.d (Zlz false zs),.d (Zlz false vs),.d (Zlz false ws)] []=_
 rw[hd,ha,hc,hp,ht]
 exact ZAZ (ZmX true (Zr9 d a c p t hu))
end Go.Proofs.YtgcfmiajkbbmeaaGreatDoor
namespace Go.Proofs.YtgcfmiajkbbmeaaGreatDoor.LawStealOnce
open Go.ChangeShapes Go.WideShapes Go.ChangeAt Go.RowKit Go.Proofs.YtgcfmiajkbbmeaaGreatDoorE
theorem own:ownKnob Tryz.prog.godebug=none:=by kernel_rfl
theorem Zo5:laidOutB Tryz.prog=true:=by kernel_rfl
def Zr4 : List (String × DataW Unit) := [("math/bits.deBruijn32tab", Rows.laid_math_bits_deBruijn32tab), ("math/bits.deBruijn64tab", Rows.laid_math_bits_deBruijn64tab)]
theorem ZAB (os:Os) (args:Array Value):laidMetH Tryz.prog Zr4 ((World.doorLaid Tryz.prog 19 os).forCall (fun _ _=>0) ⟨#[],args,[]⟩).memory:=
 laidMetH_of_parts3 (fuel:=8) (laidMet_of_run' 8 (by kernel_rfl) (by kernel_rfl)) (by kernel_rfl) (by kernel_rfl)
theorem Zy3 {W:World} (h:laidMetH Tryz.prog Zr4 W):GOK Zo R0 W:=by
 intro g l hg
 unfold Zo at hg
 split at hg
 ·cases hg
  exact ZrO (t := 246) (N := 32) (e := 5) (k := .u8) h (by kernel_rfl) (n := "math/bits.deBruijn32tab") (by rw [show DataW.agg (Zon ZCr) = Rows.laid_math_bits_deBruijn32tab by kernel_rfl]; simp [Zr4]) (by kernel_rfl) (by kernel_rfl) (by kernel_rfl) (by kernel_rfl) (by kernel_rfl) (by kernel_rfl) (by decide)
 ·cases hg
  exact ZrO (t := 247) (N := 64) (e := 5) (k := .u8) h (by kernel_rfl) (n := "math/bits.deBruijn64tab") (by rw [show DataW.agg (Zon ZCe) = Rows.laid_math_bits_deBruijn64tab by kernel_rfl]; simp [Zr4]) (by kernel_rfl) (by kernel_rfl) (by kernel_rfl) (by kernel_rfl) (by kernel_rfl) (by kernel_rfl) (by decide)
 ·cases hg
theorem ZDu (os:Os) (started:os.Started) (H:Type) (enc:TypeId×Value→H) :
  ReturnsInHanded {} Tryz.checked os 5 .any (fun w args=>(Rows.stealOnceSpec.pre enc Tryz.prog Tryz.f5 [] false w args∧laidMetH Tryz.prog Zr4 w)∧sizedMet enc Tryz.prog Tryz.f5 (OpenSpec.ofChange Rows.stealOnceSpec) false w args) (Rows.stealOnceSpec.post enc Tryz.prog Tryz.f5 false true false false):=by
 refine returnsInHanded_of_change_and (C:=Tryz.checked) (X:=fun w _=>laidMetH Tryz.prog Zr4 w) (fun _ _ _ hh h=>h.of_heap hh) own started (by kernel_rfl) Tryz.func5
  (ChangeSpec.witness_shaped (enc:=enc) (C:=Tryz.checked) (os:=os) (X:=fun w _=>laidMetH Tryz.prog Zr4 w) false (World.doorLaid Tryz.prog 19 os) #[.agg #[.slice none 0 0,.slice none 0 0],.slice none 0 0,.int .i64 0,.slice none 0 0,.int .u8 0] 8 rfl (World.shaped_of_RefB (by kernel_rfl) (by kernel_rfl)) (by kernel_rfl) (by kernel_rfl) (by kernel_rfl) (ZAB os _)) ?_
 intro W base args ds gs before hval0 hW _ _ hL _
 have hval:∀(j:Nat) t v,Tryz.f5.params[j]? = some t→args[j]? = some v→Value.okWide Tryz.prog W .any base t v:=hval0
 have hW':=hW
 obtain⟨p,q,hA0,hV,rfl,hfz,hnd⟩:=hW
 have hA:DataW.TrodAll enc Tryz.prog W 0 (fun _=>true) true Tryz.f5.params.toList args.toList ds p:=hA0
 rw[Tryz.params5] at hA hval
 obtain⟨v0,vs0,d0,ds0,p0,q0,hargs,rfl,rfl,h0,r0⟩:=trodAll_cons hA
 obtain⟨v1,vs1,d1,ds1,p1,q1,rfl,rfl,rfl,h1,r1⟩:=trodAll_cons r0
 obtain⟨v2,vs2,d2,ds2,p2,q2,rfl,rfl,rfl,h2,r2⟩:=trodAll_cons r1
 obtain⟨v3,vs3,d3,ds3,p3,q3,rfl,rfl,rfl,h3,r3⟩:=trodAll_cons r2
 obtain⟨v4,vs4,d4,ds4,p4,q4,rfl,rfl,rfl,h4,r4⟩:=trodAll_cons r3
 obtain⟨rfl,rfl,rfl⟩:=trodAll_nil r4
 obtain rfl:args = #[v0,v1,v2,v3,v4]:=by cases args;simp_all
 obtain⟨rfl,rfl⟩:=trodVars_none hV
 have lt0:∀x∈p0,x.block<W.heap.size:=by obtain⟨m,hm⟩:=h0;exact DataW.trod_lt m _ _ _ hm
 obtain⟨x0,ok0,den0⟩:=Zrd (P:=Tryz.prog) (n:=8) (t:=25) (l:=ZuQ.1) (ag:=ZuQ.2) (by kernel_rfl) (hval 0 25 v0 rfl rfl) h0
 have lt1:∀x∈p1,x.block<W.heap.size:=by obtain⟨m,hm⟩:=h1;exact DataW.trod_lt m _ _ _ hm
 obtain⟨x1,ok1,den1⟩:=Zrd (P:=Tryz.prog) (n:=8) (t:=22) (l:=ZnY.1) (ag:=ZnY.2) (by kernel_rfl) (hval 1 22 v1 rfl rfl) h1
 have lt2:∀x∈p2,x.block<W.heap.size:=by obtain⟨m,hm⟩:=h2;exact DataW.trod_lt m _ _ _ hm
 obtain⟨x2,ok2,den2⟩:=Zrd (P:=Tryz.prog) (n:=8) (t:=3) (l:=ZzN.1) (ag:=ZzN.2) (by kernel_rfl) (hval 2 3 v2 rfl rfl) h2
 have lt3:∀x∈p3,x.block<W.heap.size:=by obtain⟨m,hm⟩:=h3;exact DataW.trod_lt m _ _ _ hm
 obtain⟨x3,ok3,den3⟩:=Zrd (P:=Tryz.prog) (n:=8) (t:=22) (l:=ZnY.1) (ag:=ZnY.2) (by kernel_rfl) (hval 3 22 v3 rfl rfl) h3
 have lt4:∀x∈p4,x.block<W.heap.size:=by obtain⟨m,hm⟩:=h4;exact DataW.trod_lt m _ _ _ hm
 obtain⟨x4,ok4,den4⟩:=Zrd (P:=Tryz.prog) (n:=8) (t:=5) (l:=ZA6.1) (ag:=ZA6.2) (by kernel_rfl) (hval 4 5 v4 rfl rfl) h4
 obtain⟨H1,ev⟩:=ZtD x0 ok0 x1 ok1 x2 ok2 x3 ok3 x4 ok4
 have den:ZbA All All All W [Zlz ZuQ.2 x0,Zlz ZnY.2 x1,Zlz ZzN.2 x2,Zlz ZnY.2 x3,Zlz ZA6.2 x4] [v0,v1,v2,v3,v4]:=⟨_,_,rfl,den0,⟨_,_,rfl,den1,⟨_,_,rfl,den2,⟨_,_,rfl,den3,⟨_,_,rfl,den4,rfl⟩⟩⟩⟩⟩
 refine(Zx5 ZFy (Zy3 hL) den ev).mono fun e W' ⟨he,bel⟩=>?_
 subst he
 exact⟨_,rfl,_,_,_,[],_,[],hW',trodAll_mk1 (shut_bool Tryz.underlying4 _),(trodAll_cons_mk (Below.trod Zo5 (by kernel_rfl) (of_decide_eq_true (by kernel_rfl)) h0 bel lt0) (trodAll_cons_mk (Below.trod Zo5 (by kernel_rfl) (of_decide_eq_true (by kernel_rfl)) h1 bel lt1) (trodAll_cons_mk (Below.trod Zo5 (by kernel_rfl) (of_decide_eq_true (by kernel_rfl)) h2 bel lt2) (trodAll_cons_mk (Below.trod Zo5 (by kernel_rfl) (of_decide_eq_true (by kernel_rfl)) h3 bel lt3) (trodAll_cons_mk (Below.trod Zo5 (by kernel_rfl) (of_decide_eq_true (by kernel_rfl)) h4 bel lt4) trodAll_mk0))))),rfl,bel.frame _,fun h=>by cases h⟩
theorem over:Rows.stealOnceRow.holds Tryz.pinned (OpenSpec.ofChange Rows.stealOnceSpec):=
 OpenClaim.holds_of_wide 5 Tryz.f5 rfl rfl rfl rfl rfl rfl rfl ⟨rfl,rfl,rfl,rfl,rfl⟩ rfl rfl rfl rfl rfl (by kernel_rfl) Tryz.func5 (by kernel_rfl)
  (of_decide_eq_true (by kernel_rfl)) (by unfold Func.isWrapper;first | (rw[if_pos (by decide +kernel)];kernel_rfl) | (rw[if_neg (by decide +kernel)];exact⟨rfl,rfl⟩))
  (fun os started H enc _=>ZDu os started H enc)
theorem proved:Rows.StealOnceSaid:=over
theorem carded:Rows.StealOnceCardSaid:=
 Claim7.holds_tied_plain_at .later [] [.data, .data] true (true, "d6d7d9d5c807326625a91c6e0083beb2768bae7db06b561411ca8dd5dfe6ff89") false
  proved (fun _ h=>by cases h) (by kernel_rfl) (fun _ h=>by cases h) stealOnce_row_tie rfl ⟨rfl,rfl⟩ (by kernel_rfl) rfl
  (fun f fn hf hfn=>by
   obtain rfl : f = 5 := Option.some.inj ((show Tryz.prog.funcNamed "trefoil/trefoillaw13.StealOnce" = some 5 by kernel_rfl).symm.trans hf) |>.symm
   obtain rfl:fn=Tryz.f5:=(Option.some.inj (Tryz.func5.symm.trans hfn)).symm
   exact⟨by kernel_rfl,fun j t ht=>by
    rw[Tryz.params5] at ht
    have hm:t∈[25,22,3,22,5]:=by simpa using Array.mem_of_getElem? ht
    have hall:([25,22,3,22,5].all fun u=>!Tryz.prog.wantsStandIn u)=true:=by kernel_rfl
    exact(show Tryz.prog.wantsStandIn t=false by simpa using List.all_eq_true.1 hall t hm)⟩)
  (by kernel_rfl)
end Go.Proofs.YtgcfmiajkbbmeaaGreatDoor.LawStealOnce
namespace Go.Proofs.YtgcfmiajkbbmeaaGreatDoor
theorem stealOnce_holds:Rows.StealOnceCardSaid:=LawStealOnce.carded
#print axioms stealOnce_holds
end Go.Proofs.YtgcfmiajkbbmeaaGreatDoor
