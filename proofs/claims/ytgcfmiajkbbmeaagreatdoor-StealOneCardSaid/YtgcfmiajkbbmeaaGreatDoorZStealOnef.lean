/- StealOne: part 6 of 6 of the proof: the row and the card of the law, out of what the evaluator says of it; without conditions. -/
import Derived.Test.YtgcfmiajkbbmeaaGreatDoorZStealOnee
import Derived.KernelRfl
import Derived.Test.YtgcfmiajkbbmeaaGreatDoorRows
import Derived.Test.YtgcfmiajkbbmeaaGreatDoorCards
import Derived.Test.YtgcfmiajkbbmeaaGreatDoorTie
import Derived.WalkKit
import Derived.ProofKit
import Derived.OpenShut
import Derived.ShutString
import Derived.ChangeOld
import Derived.Below
import Derived.SizedLaws
import Derived.Handed
import Derived.LaidMore
import Derived.Stop.Joined
import Derived.ChangeShapes
import Derived.Carry
import Derived.SevenTiedAt
set_option maxRecDepth 100000
set_option maxHeartbeats 40000000
set_option linter.unusedVariables false
set_option linter.unusedSimpArgs false
namespace Go.Proofs.YtgcfmiajkbbmeaaGreatDoor
open Go Go.Proofs.YtgcfmiajkbbmeaaGreatDoorE
open Go.IntKind (u64 i64 u32 i32 u8)
theorem Zer:∀r,Zeo=some r→evD ctx 9 []=some (D.bool r):=fun r h=>by
  cases h
  exact ZCv 100 (by kernel_rfl)
def ZnH (r:Bool):D:=(D.bool r)
theorem Zqv {t0 t1:Bool}{a:ZL}:∀r,(ZiE a)=some r→evD ctx 10 [(.d (D.agg [(D.list t0 (List.map Zb a.work)),(D.list t1 (List.map ZH a.edges))]))]=some (ZnH r):=by
 show ZF _ (fun r rhs=>rhs=some (ZnH r)) _
 unfold ZiE
 rw[ZaJ ctx 10 ZBL _ rfl rfl]
 conv=>rhs;whnf
 refine Zk (ZE _ _) ?_;conv=>rhs;whnf
 refine Zd rfl ?_ ?_<;>conv=>rhs;whnf
 ·refine Zk (ZE _ _) ?_;conv=>rhs;whnf
  refine Zd rfl ?_ ?_<;>conv=>rhs;whnf
  ·exact Zc rfl
  ·exact Zc rfl
 ·exact Zc rfl
def ZkT (r:Bool):D:=(D.bool r)
def Zjd (t0:Bool) (a:List Int):(Unit⊕(Unit⊕Unit))→Ex×List V×Zn
  | (.inl r)=>(.ret,[(.d (D.bool true))],[])
  | (.inr (.inl r))=>(.ret,[(.d (D.bool false))],[])
  | (.inr (.inr r))=>(.exit 0,[.bad],[])
theorem Zmo {t0:Bool}{a:List Int}:∀(s0:Int×Int) (r:(Unit⊕(Unit⊕Unit))),lp (Zdg a) s0=some r→lpW ctx 0 [0,3,4] [2] ZzM [(.d (D.list t0 (List.map Zb a))),(.d (Zb s0.1)),(.d (Zb s0.2))] []=some ((Zjd t0 a) r):=by
 refine ZaR (Zjd t0 a) ?_
 intro s0 rcl ih
 show ZF _ _ (lpW _ _ _ _ _ _ _)
 unfold Zdg
 rw[ZaT]
 conv=>rhs;whnf
 refine Zk (ZE _ _) ?_;conv=>rhs;whnf
 refine Zd rfl ?_ ?_<;>conv=>rhs;whnf
 ·refine Zm rfl rfl fun x1 hx1=>?_;conv=>rhs;whnf
  refine Zd rfl ?_ ?_<;>conv=>rhs;whnf
  ·refine Zh (Zbe rfl hx1) ?_;conv=>rhs;whnf
   refine Zd rfl ?_ ?_<;>conv=>rhs;whnf
   ·exact Zc rfl
   ·exact Zc rfl
  ·refine Zh (Zbe rfl hx1) ?_;conv=>rhs;whnf
   refine Zd rfl ?_ ?_<;>conv=>rhs;whnf
   ·refine Zh (Zbe rfl hx1) ?_;conv=>rhs;whnf
    refine Zd rfl ?_ ?_<;>conv=>rhs;whnf
    ·exact Zc rfl
    ·exact Zc rfl
   ·refine Zh (Zbe rfl hx1) ?_;conv=>rhs;whnf
    exact Zf (ih _)
 ·exact Zc rfl
theorem ZoN {t0:Bool}{a:List Int}:∀r,(ZgH a)=some r→evD ctx 11 [(.d (D.list t0 (List.map Zb a)))]=some (ZkT r):=by
 show ZF _ (fun r rhs=>rhs=some (ZkT r)) _
 unfold ZgH
 rw[ZaJ ctx 11 ZCB _ rfl rfl]
 conv=>rhs;whnf
 refine Ze _ (Zmo _) fun r2 hr2=>?_
 clear hr2
 rcases r2 with r2 | (r2 | r2)
 ·conv=>rhs;whnf
  exact Zc rfl
 ·conv=>rhs;whnf
  exact Zc rfl
 ·conv=>rhs;whnf
  exact Zc rfl
def ZnC (t0:Bool) (t1:Bool) (a:ZL):Unit→V×Zn
  | r=>((.agg [(.sl 0 1),(.sl 1 2)]),[(.arr 1 (List.map Zb a.work)),(.arr 2 (List.map ZH a.edges))])
theorem ZmH {t0 t1:Bool}{a:ZL}:∀r,(ZhA a)=some r→evW ctx 13 [(.d (D.agg [(D.list t0 (List.map Zb a.work)),(D.list t1 (List.map ZH a.edges))]))] []=some ((ZnC t0 t1 a) r):=by
 show ZF _ (fun r rhs=>rhs=some ((ZnC t0 t1 a) r)) _
 unfold ZhA
 rw[Zc5 ctx 13 ZCu _ _ rfl rfl]
 conv=>rhs;whnf
 refine ZcI (ZmT (f:=Zb) (fun _=>⟨rfl,rfl⟩) a.work 0) ?_;conv=>rhs;whnf
 refine Zd (ZoV Zb a.work) ?_ ?_
 ·conv=>rhs;whnf
  refine Zk (rfl:_=List.map Zb a.work) ?_;conv=>rhs;whnf
  refine ZcI (ZmT (f:=ZH) (fun _=>⟨rfl,rfl⟩) a.edges 0) ?_;conv=>rhs;whnf
  refine Zd (ZoV ZH a.edges) ?_ ?_
  ·conv=>rhs;whnf
   refine Zk (rfl:_=List.map ZH a.edges) ?_;conv=>rhs;whnf
   exact Zc rfl
  ·exact ZR
 ·exact ZR
def Zmi (t0:Bool) (a:List Int):Unit→V×Zn
  | r=>((.sl 0 1),[(.arr 1 (List.map Zb a))])
theorem Zhn {t0:Bool}{a:List Int}:∀r,(Zfb a)=some r→evW ctx 14 [(.d (D.list t0 (List.map Zb a)))] []=some ((Zmi t0 a) r):=by
 show ZF _ (fun r rhs=>rhs=some ((Zmi t0 a) r)) _
 unfold Zfb
 rw[Zc5 ctx 14 ZCK _ _ rfl rfl]
 conv=>rhs;whnf
 refine ZcI (ZmT (f:=Zb) (fun _=>⟨rfl,rfl⟩) a 0) ?_;conv=>rhs;whnf
 refine Zd (ZoV Zb a) ?_ ?_
 ·conv=>rhs;whnf
  refine Zk (rfl:_=List.map Zb a) ?_;conv=>rhs;whnf
  exact Zc rfl
 ·exact ZR
def Zl0 (r:Bool):D:=(D.bool r)
theorem Zpa {a:Int}:∀r,(ZdD a)=some r→evD ctx 142 [(.d (Zb a))]=some (Zl0 r):=by
 show ZF _ (fun r rhs=>rhs=some (Zl0 r)) _
 unfold ZdD
 rw[ZaJ ctx 142 Zy7 _ rfl rfl]
 conv=>rhs;whnf
 refine Zd rfl ?_ ?_<;>conv=>rhs;whnf
 ·exact Zc rfl
 ·refine Zd rfl ?_ ?_<;>conv=>rhs;whnf
  ·exact Zc rfl
  ·exact Zc rfl
def Zc8 (r:Int):D:=(Zb r)
def ZcJ (t0:Bool) (a:List Int):(Int⊕Unit)→Ex×List V×Zn
  | (.inl r)=>(.ret,[(.d (Zb r))],[])
  | (.inr r)=>(.exit 0,[.bad],[])
theorem Ze7 {t0:Bool}{a:List Int}:∀(s0:Int) (r:(Int⊕Unit)),lp (Zw a (fun z0=>ZdD z0)) s0=some r→lpW ctx 0 [0,1,7,8] [4] ZnR [(.d (D.list t0 (List.map Zb a))),(.d (D.fn 142 [])),(.d (Zb (a.length:Int))),(.d (Zb s0))] []=some ((ZcJ t0 a) r):=by
 refine ZaR (ZcJ t0 a) ?_
 intro s0 rcl ih
 show ZF _ _ (lpW _ _ _ _ _ _ _)
 unfold Zw
 rw[ZaT]
 conv=>rhs;whnf
 refine Zd rfl ?_ ?_<;>conv=>rhs;whnf
 ·refine Zm rfl rfl fun x1 hx1=>?_;conv=>rhs;whnf
  refine Zj _ Zpa rfl fun x2 hx2=>?_;conv=>rhs;whnf
  refine Zd rfl ?_ ?_<;>conv=>rhs;whnf
  ·exact Zc rfl
  ·exact Zf (ih _)
 ·exact Zc rfl
theorem ZfJ {t0:Bool}{a:List Int}:∀r,(Zz a (fun z0=>ZdD z0))=some r→evD ctx 94 [(.d (D.list t0 (List.map Zb a))),(.d (D.fn 142 []))]=some (Zc8 r):=by
 show ZF _ (fun r rhs=>rhs=some (Zc8 r)) _
 unfold Zz
 rw[ZaJ ctx 94 Zuf _ rfl rfl]
 conv=>rhs;whnf
 refine Zk (ZE _ _) ?_;conv=>rhs;whnf
 refine Ze _ (Ze7 _) fun r3 hr3=>?_
 clear hr3
 rcases r3 with r3 | r3
 ·conv=>rhs;whnf
  exact Zc rfl
 ·conv=>rhs;whnf
  exact Zc rfl
def ZcK (r:Bool):D:=(D.bool r)
theorem Zfa {t0:Bool}{a:List Int}:∀r,(ZC a (fun z0=>ZdD z0))=some r→evD ctx 44 [(.d (D.list t0 (List.map Zb a))),(.d (D.fn 142 []))]=some (ZcK r):=by
 show ZF _ (fun r rhs=>rhs=some (ZcK r)) _
 unfold ZC
 rw[ZaJ ctx 44 Zxg _ rfl rfl]
 conv=>rhs;whnf
 refine Zj _ ZfJ rfl fun x0 hx0=>?_;conv=>rhs;whnf
 refine Zd rfl ?_ ?_<;>conv=>rhs;whnf
 ·exact Zc rfl
 ·exact Zc rfl
def Zl4 (r:Bool):D:=(D.bool r)
theorem ZkR {t0 t1:Bool}{a:Int}{b0:List Int}{b1:List ZG}:∀r,(Zf2 a b0)=some r→evD ctx 143 [(.d (Zb a)),(.d (D.rptr [(D.list t0 (List.map Zb b0)),(D.list t1 (List.map ZH b1))]))]=some (Zl4 r):=by
 show ZF _ (fun r rhs=>rhs=some (Zl4 r)) _
 unfold Zf2
 rw[ZaJ ctx 143 Zzq _ rfl rfl]
 conv=>rhs;whnf
 refine Zd rfl ?_ ?_<;>conv=>rhs;whnf
 ·refine Zk (ZE _ _) ?_;conv=>rhs;whnf
  refine Zd rfl ?_ ?_<;>conv=>rhs;whnf
  ·exact Zc rfl
  ·exact Zc rfl
 ·exact Zc rfl
def ZfZ (r:Int):D:=(Zb r)
def Zfr (t0:Bool) (a:List ZG) (b:ZG):(Int⊕Unit)→Ex×List V×Zn
  | (.inl r)=>(.ret,[(.d (Zb r))],[])
  | (.inr r)=>(.exit 0,[.bad],[])
theorem ZhX {t0:Bool}{a:List ZG}{b:ZG}:∀(s0:Int) (r:(Int⊕Unit)),lp (ZbS a b) s0=some r→lpW ctx 0 [0,3,7,8] [4] ZvA [(.d (D.list t0 (List.map ZH a))),(.ptr 0 0),(.d (Zb (a.length:Int))),(.d (Zb s0))] [(.cells [(.d (Zb b.src)),(.d (Zb b.dst))])]=some ((Zfr t0 a b) r):=by
 refine ZaR (Zfr t0 a b) ?_
 intro s0 rcl ih
 show ZF _ _ (lpW _ _ _ _ _ _ _)
 unfold ZbS
 rw[ZaT]
 conv=>rhs;whnf
 refine Zd rfl ?_ ?_<;>conv=>rhs;whnf
 ·refine Zm rfl rfl fun x1 hx1=>?_;conv=>rhs;whnf
  refine Zd rfl ?_ ?_<;>conv=>rhs;whnf
  ·exact Zc rfl
  ·exact Zf (ih _)
 ·exact Zc rfl
theorem ZiO {t0:Bool}{a:List ZG}{b:ZG}:∀r,(Zdb a b)=some r→evD ctx 174 [(.d (D.list t0 (List.map ZH a))),(.d (D.agg [(Zb b.src),(Zb b.dst)]))]=some (ZfZ r):=by
 show ZF _ (fun r rhs=>rhs=some (ZfZ r)) _
 unfold Zdb
 rw[ZaJ ctx 174 Zzu _ rfl rfl]
 conv=>rhs;whnf
 refine Zk (ZE _ _) ?_;conv=>rhs;whnf
 refine Ze _ (ZhX _) fun r2 hr2=>?_
 clear hr2
 rcases r2 with r2 | r2
 ·conv=>rhs;whnf
  exact Zc rfl
 ·conv=>rhs;whnf
  exact Zc rfl
def Zft (r:Bool):D:=(D.bool r)
theorem ZhY {t0:Bool}{a:List ZG}{b:ZG}:∀r,(ZbX a b)=some r→evD ctx 136 [(.d (D.list t0 (List.map ZH a))),(.d (D.agg [(Zb b.src),(Zb b.dst)]))]=some (Zft r):=by
 show ZF _ (fun r rhs=>rhs=some (Zft r)) _
 unfold ZbX
 rw[ZaJ ctx 136 Zy5 _ rfl rfl]
 conv=>rhs;whnf
 refine Zj _ ZiO rfl fun x0 hx0=>?_;conv=>rhs;whnf
 refine Zd rfl ?_ ?_<;>conv=>rhs;whnf
 ·exact Zc rfl
 ·exact Zc rfl
def Znr (r:((List Int)×Bool)):D:=(D.tup [(D.list true (List.map Zb r.1)),(D.bool r.2)])
def Zlg (t0:Bool) (t1:Bool) (a:ZL) (s0:(List Int)×(List Bool)) (s1:Int):(Unit⊕Unit)→Ex×List V×Zn
  | (.inl r)=>(.exit 3,[(.ptr 0 0),(.sl 1 1),(.sl 2 1),(.d (Zb s1)),(.d (Zb (a.work.length:Int))),(.d (Zb s1))],[(.cells [(.d (D.list t0 (List.map Zb a.work))),(.d (D.list t1 (List.map ZH a.edges)))]),(.arr 1 (List.map Zb s0.1)),(.arr 1 (List.map D.bool s0.2))])
  | (.inr r)=>(.exit 4,[(.ptr 0 0),(.sl 1 1),(.sl 2 1),(.d (Zb s1)),(.d (Zb (a.work.length:Int))),(.d (Zb s1))],[(.cells [(.d (D.list t0 (List.map Zb a.work))),(.d (D.list t1 (List.map ZH a.edges)))]),(.arr 1 (List.map Zb s0.1)),(.arr 1 (List.map D.bool s0.2))])
theorem ZoC {t0 t1:Bool}{a:ZL}{s0:(List Int)×(List Bool)}{s1:Int}:∀(s3:Int) (r:(Unit⊕Unit)),lp (ZfI a s0 s1) s3=some r→lpW ctx 0 [1,4,5,6,21,22,30,31,32] [1,4,5,6,21,22] ZvV [(.ptr 0 0),(.sl 1 1),(.sl 2 1),(.d (Zb s1)),(.d (Zb (a.work.length:Int))),(.d (Zb s1)),(.d (D.list t1 (List.map ZH a.edges))),(.d (Zb (a.edges.length:Int))),(.d (Zb s3))] [(.cells [(.d (D.list t0 (List.map Zb a.work))),(.d (D.list t1 (List.map ZH a.edges)))]),(.arr 1 (List.map Zb s0.1)),(.arr 1 (List.map D.bool s0.2))]=some ((Zlg t0 t1 a s0 s1) r):=by
 refine ZaR (Zlg t0 t1 a s0 s1) ?_
 intro s3 rcl ih
 show ZF _ _ (lpW _ _ _ _ _ _ _)
 unfold ZfI
 rw[ZaT]
 conv=>rhs;whnf
 refine Zd rfl ?_ ?_<;>conv=>rhs;whnf
 ·refine Zm rfl rfl fun x4 hx4=>?_;conv=>rhs;whnf
  refine Zd rfl ?_ ?_<;>conv=>rhs;whnf
  ·refine Zm rfl rfl fun x5 hx5=>?_;conv=>rhs;whnf
   refine Zh (Zq rfl hx5) ?_;conv=>rhs;whnf
   refine Zd rfl ?_ ?_<;>conv=>rhs;whnf
   ·exact Zf (ih _)
   ·exact Zc rfl
  ·exact Zf (ih _)
 ·exact Zc rfl
def Zk9 (t0:Bool) (t1:Bool) (a:ZL) (s0:(List Int)×(List Bool)):(((List Int)×(List Bool))⊕Unit)→Ex×List V×Zn
  | (.inl r)=>(.exit 1,[(.ptr 0 0),(.sl 1 1),(.sl 2 1)],[(.cells [(.d (D.list t0 (List.map Zb a.work))),(.d (D.list t1 (List.map ZH a.edges)))]),(.arr 1 (List.map Zb r.1)),(.arr 1 (List.map D.bool r.2))])
  | (.inr r)=>(.exit 2,[(.ptr 0 0),(.sl 1 1),(.sl 2 1)],[(.cells [(.d (D.list t0 (List.map Zb a.work))),(.d (D.list t1 (List.map ZH a.edges)))]),(.arr 1 (List.map Zb s0.1)),(.arr 1 (List.map D.bool s0.2))])
theorem ZoH {t0 t1:Bool}{a:ZL}{s0:(List Int)×(List Bool)}:∀(s1:Int) (r:(((List Int)×(List Bool))⊕Unit)),lp (Zet a s0) s1=some r→lpW ctx 0 [1,4,5,21,22] [1,4,5] Zwv [(.ptr 0 0),(.sl 1 1),(.sl 2 1),(.d (Zb (a.work.length:Int))),(.d (Zb s1))] [(.cells [(.d (D.list t0 (List.map Zb a.work))),(.d (D.list t1 (List.map ZH a.edges)))]),(.arr 1 (List.map Zb s0.1)),(.arr 1 (List.map D.bool s0.2))]=some ((Zk9 t0 t1 a s0) r):=by
 refine ZaR (Zk9 t0 t1 a s0) ?_
 intro s1 rcl ih
 show ZF _ _ (lpW _ _ _ _ _ _ _)
 unfold Zet
 rw[ZaT]
 conv=>rhs;whnf
 refine Zd rfl ?_ ?_<;>conv=>rhs;whnf
 ·refine Zm rfl rfl fun x2 hx2=>?_;conv=>rhs;whnf
  refine Zh (Zq rfl hx2) ?_;conv=>rhs;whnf
  refine Zd rfl ?_ ?_<;>conv=>rhs;whnf
  ·exact Zf (ih _)
  ·refine Zk (ZE _ _) ?_;conv=>rhs;whnf
   refine Ze _ (ZoC _) fun r6 hr6=>?_
   clear hr6
   rcases r6 with r6 | r6
   ·conv=>rhs;whnf
    exact Zf (ih _)
   ·conv=>rhs;whnf
    refine Zh (Zbe rfl hx2) ?_;conv=>rhs;whnf
    refine Zh (Zq rfl hx2) ?_;conv=>rhs;whnf
    refine Zk (Zak D.bool s0.2 s1.toNat true) ?_;conv=>rhs;whnf
    refine ZcI rfl ?_;conv=>rhs;whnf
    refine Zd (ZgS Zb s0.1 1) ?_ ?_
    ·conv=>rhs;whnf
     refine Zk (ZgP Zb s0.1 [s1]) ?_;conv=>rhs;whnf
     exact Zc rfl
    ·exact ZR
 ·exact Zc rfl
def ZkN (t0:Bool) (t1:Bool) (a:ZL):((List Int)⊕(List Int))→Ex×List V×Zn
  | (.inl r)=>(.ret,[(.nilsl 1),(.d (D.bool false)),(.sl 0 1)],[(.arr 1 (List.map Zb r))])
  | (.inr r)=>(.exit 0,[.bad,.bad,(.sl 0 1)],[(.arr 1 (List.map Zb r))])
theorem ZoX {t0 t1:Bool}{a:ZL}:∀(s0:(List Int)×(List Bool)) (r:((List Int)⊕(List Int))),lp (ZfK a) s0=some r→lpW ctx 0 [1,4,5] [2,3,4] ZvZ [(.ptr 0 0),(.sl 1 1),(.sl 2 1)] [(.cells [(.d (D.list t0 (List.map Zb a.work))),(.d (D.list t1 (List.map ZH a.edges)))]),(.arr 1 (List.map Zb s0.1)),(.arr 1 (List.map D.bool s0.2))]=some ((ZkN t0 t1 a) r):=by
 refine ZaR (ZkN t0 t1 a) ?_
 intro s0 rcl ih
 show ZF _ _ (lpW _ _ _ _ _ _ _)
 unfold ZfK
 rw[ZaT]
 conv=>rhs;whnf
 refine Zk (ZE _ _) ?_;conv=>rhs;whnf
 refine Zk (ZE _ _) ?_;conv=>rhs;whnf
 refine Zd rfl ?_ ?_<;>conv=>rhs;whnf
 ·refine Zk (ZE _ _) ?_;conv=>rhs;whnf
  refine Ze _ (ZoH _) fun r7 hr7=>?_
  clear hr7
  rcases r7 with r7 | r7
  ·conv=>rhs;whnf
   exact Zf (ih _)
  ·conv=>rhs;whnf
   exact Zc rfl
 ·exact Zc rfl
theorem ZqT {t0 t1:Bool}{a:ZL}:∀r,(Zgq a)=some r→evD ctx 144 [(.d (D.agg [(D.list t0 (List.map Zb a.work)),(D.list t1 (List.map ZH a.edges))]))]=some (Znr r):=by
 show ZF _ (fun r rhs=>rhs=some (Znr r)) _
 unfold Zgq
 rw[ZaJ ctx 144 Zyb _ rfl rfl]
 conv=>rhs;whnf
 refine Zk (ZE _ _) ?_;conv=>rhs;whnf
 refine Zd rfl ?_ ?_
 ·conv=>rhs;whnf
  refine Zk (Zjp D.bool (false:Bool) (a.work.length:Int)) ?_;conv=>rhs;whnf
  refine Ze _ (ZoX _) fun r8 hr8=>?_
  clear hr8
  rcases r8 with r8 | r8
  ·conv=>rhs;whnf
   exact Zc rfl
  ·conv=>rhs;whnf
   exact Zc rfl
 ·exact ZR
def Zny (r:Int):D:=(Zb r)
def ZkS (t0:Bool) (t1:Bool) (a:ZL):(Unit⊕Unit)→Ex×List V×Zn
  | (.inl r)=>(.ret,[(.ptr 0 0),(.d (Zb 42))],[(.cells [(.d (D.list t0 (List.map Zb a.work))),(.d (D.list t1 (List.map ZH a.edges)))])])
  | (.inr r)=>(.exit 0,[(.ptr 0 0),.bad],[(.cells [(.d (D.list t0 (List.map Zb a.work))),(.d (D.list t1 (List.map ZH a.edges)))])])
theorem ZoY {t0 t1:Bool}{a:ZL}:∀(s1:Int) (r:(Unit⊕Unit)),lp (ZeH a) s1=some r→lpW ctx 0 [1,3,23,24,25] [1,2] ZyH [(.ptr 0 0),(.fn 143 [(.ptr 0 0)]),(.d (D.list t1 (List.map ZH a.edges))),(.d (Zb (a.edges.length:Int))),(.d (Zb s1))] [(.cells [(.d (D.list t0 (List.map Zb a.work))),(.d (D.list t1 (List.map ZH a.edges)))])]=some ((ZkS t0 t1 a) r):=by
 refine ZaR (ZkS t0 t1 a) ?_
 intro s1 rcl ih
 show ZF _ _ (lpW _ _ _ _ _ _ _)
 unfold ZeH
 rw[ZaT]
 conv=>rhs;whnf
 refine Zd rfl ?_ ?_<;>conv=>rhs;whnf
 ·refine Zm rfl rfl fun x2 hx2=>?_;conv=>rhs;whnf
  refine Zj _ ZkR rfl fun x3 hx3=>?_;conv=>rhs;whnf
  refine Zd rfl ?_ ?_<;>conv=>rhs;whnf
  ·refine Zj _ ZkR rfl fun x4 hx4=>?_;conv=>rhs;whnf
   refine Zd rfl ?_ ?_<;>conv=>rhs;whnf
   ·refine Zd rfl ?_ ?_<;>conv=>rhs;whnf
    ·exact Zc rfl
    ·refine Zd rfl ?_ ?_
     ·conv=>rhs;whnf
      refine Zd (ZyL ZH a.edges s1.toNat) ?_ ?_
      ·conv=>rhs;whnf
       refine ZcI rfl ?_;conv=>rhs;whnf
       refine Zk (Zs8 ZH a.edges s1.toNat) ?_;conv=>rhs;whnf
       refine Zj _ ZhY rfl fun x5 hx5=>?_;conv=>rhs;whnf
       refine Zd rfl ?_ ?_<;>conv=>rhs;whnf
       ·exact Zc rfl
       ·exact Zf (ih _)
      ·exact ZR
     ·exact ZR
   ·exact Zc rfl
  ·exact Zc rfl
 ·exact Zc rfl
theorem ZjT {t0 t1:Bool}{a:ZL}:∀r,(ZgB a)=some r→evD ctx 85 [(.d (D.agg [(D.list t0 (List.map Zb a.work)),(D.list t1 (List.map ZH a.edges))]))]=some (Zny r):=by
 show ZF _ (fun r rhs=>rhs=some (Zny r)) _
 unfold ZgB
 rw[ZaJ ctx 85 ZBM _ rfl rfl]
 conv=>rhs;whnf
 refine Zk (ZE _ _) ?_;conv=>rhs;whnf
 refine Zd rfl ?_ ?_<;>conv=>rhs;whnf
 ·exact Zc rfl
 ·refine Zk (ZE _ _) ?_;conv=>rhs;whnf
  refine Zd rfl ?_ ?_<;>conv=>rhs;whnf
  ·exact Zc rfl
  ·refine Zj _ Zfa rfl fun x0 hx0=>?_;conv=>rhs;whnf
   refine Zd rfl ?_ ?_<;>conv=>rhs;whnf
   ·exact Zc rfl
   ·refine Zk (ZE _ _) ?_;conv=>rhs;whnf
    refine Ze _ (ZoY _) fun r6 hr6=>?_
    clear hr6
    rcases r6 with r6 | r6
    ·conv=>rhs;whnf
     exact Zc rfl
    ·conv=>rhs;whnf
     refine Zj _ ZqT rfl fun x7 hx7=>?_;conv=>rhs;whnf
     refine Zd rfl ?_ ?_<;>conv=>rhs;whnf
     ·exact Zc rfl
     ·exact Zc rfl
def Zkl (r:Bool):D:=(D.bool r)
theorem Zoa {a:Int}:∀r,(Zdk a)=some r→evD ctx 127 [(.d (Zb a))]=some (Zkl r):=by
 show ZF _ (fun r rhs=>rhs=some (Zkl r)) _
 unfold Zdk
 rw[ZaJ ctx 127 Zzd _ rfl rfl]
 conv=>rhs;whnf
 refine Zd rfl ?_ ?_<;>conv=>rhs;whnf
 ·exact Zc rfl
 ·refine Zd rfl ?_ ?_<;>conv=>rhs;whnf
  ·exact Zc rfl
  ·exact Zc rfl
def ZcW (r:Int):D:=(Zb r)
def Zcx (t0:Bool) (a:List Int):(Int⊕Unit)→Ex×List V×Zn
  | (.inl r)=>(.ret,[(.d (Zb r))],[])
  | (.inr r)=>(.exit 0,[.bad],[])
theorem ZeM {t0:Bool}{a:List Int}:∀(s0:Int) (r:(Int⊕Unit)),lp (Zw a (fun z0=>Zdk z0)) s0=some r→lpW ctx 0 [0,1,7,8] [4] ZnR [(.d (D.list t0 (List.map Zb a))),(.d (D.fn 127 [])),(.d (Zb (a.length:Int))),(.d (Zb s0))] []=some ((Zcx t0 a) r):=by
 refine ZaR (Zcx t0 a) ?_
 intro s0 rcl ih
 show ZF _ _ (lpW _ _ _ _ _ _ _)
 unfold Zw
 rw[ZaT]
 conv=>rhs;whnf
 refine Zd rfl ?_ ?_<;>conv=>rhs;whnf
 ·refine Zm rfl rfl fun x1 hx1=>?_;conv=>rhs;whnf
  refine Zj _ Zoa rfl fun x2 hx2=>?_;conv=>rhs;whnf
  refine Zd rfl ?_ ?_<;>conv=>rhs;whnf
  ·exact Zc rfl
  ·exact Zf (ih _)
 ·exact Zc rfl
theorem Zfo {t0:Bool}{a:List Int}:∀r,(Zz a (fun z0=>Zdk z0))=some r→evD ctx 94 [(.d (D.list t0 (List.map Zb a))),(.d (D.fn 127 []))]=some (ZcW r):=by
 show ZF _ (fun r rhs=>rhs=some (ZcW r)) _
 unfold Zz
 rw[ZaJ ctx 94 Zuf _ rfl rfl]
 conv=>rhs;whnf
 refine Zk (ZE _ _) ?_;conv=>rhs;whnf
 refine Ze _ (ZeM _) fun r3 hr3=>?_
 clear hr3
 rcases r3 with r3 | r3
 ·conv=>rhs;whnf
  exact Zc rfl
 ·conv=>rhs;whnf
  exact Zc rfl
def Zcu (r:Bool):D:=(D.bool r)
theorem ZeN {t0:Bool}{a:List Int}:∀r,(ZC a (fun z0=>Zdk z0))=some r→evD ctx 44 [(.d (D.list t0 (List.map Zb a))),(.d (D.fn 127 []))]=some (Zcu r):=by
 show ZF _ (fun r rhs=>rhs=some (Zcu r)) _
 unfold ZC
 rw[ZaJ ctx 44 Zxg _ rfl rfl]
 conv=>rhs;whnf
 refine Zj _ Zfo rfl fun x0 hx0=>?_;conv=>rhs;whnf
 refine Zd rfl ?_ ?_<;>conv=>rhs;whnf
 ·exact Zc rfl
 ·exact Zc rfl
def ZlU (r:(Bool×Int)):D:=(D.tup [(D.bool r.1),(Zb r.2)])
theorem Zpg {t0 t1 t2:Bool}{a:ZL}{b:List Int}{c:Int}:∀r,(Zhi a b c)=some r→evD ctx 73 [(.d (D.agg [(D.list t0 (List.map Zb a.work)),(D.list t1 (List.map ZH a.edges))])),(.d (D.list t2 (List.map Zb b))),(.d (Zb c))]=some (ZlU r):=by
 show ZF _ (fun r rhs=>rhs=some (ZlU r)) _
 unfold Zhi
 rw[ZaJ ctx 73 ZBS _ rfl rfl]
 conv=>rhs;whnf
 refine Zj _ ZjT rfl fun x0 hx0=>?_;conv=>rhs;whnf
 refine Zd rfl ?_ ?_<;>conv=>rhs;whnf
 ·exact Zc rfl
 ·refine Zk (ZE _ _) ?_;conv=>rhs;whnf
  refine Zk (ZE _ _) ?_;conv=>rhs;whnf
  refine Zd rfl ?_ ?_<;>conv=>rhs;whnf
  ·refine Zj _ ZeN rfl fun x1 hx1=>?_;conv=>rhs;whnf
   refine Zd rfl ?_ ?_<;>conv=>rhs;whnf
   ·exact Zc rfl
   ·refine Zd rfl ?_ ?_<;>conv=>rhs;whnf
    ·refine Zd rfl ?_ ?_<;>conv=>rhs;whnf
     ·exact Zc rfl
     ·exact Zc rfl
    ·exact Zc rfl
  ·exact Zc rfl
def ZkG (r:Bool):D:=(D.bool r)
theorem ZoP {t0:Bool}{a:List Int}{b0:Int}:∀r,(Zez a b0)=some r→evD ctx 118 [(.d (D.list t0 (List.map Zb a))),(.d (D.rptr [(Zb b0)]))]=some (ZkG r):=by
 show ZF _ (fun r rhs=>rhs=some (ZkG r)) _
 unfold Zez
 rw[ZaJ ctx 118 Zzb _ rfl rfl]
 conv=>rhs;whnf
 refine Zk (ZE _ _) ?_;conv=>rhs;whnf
 refine Zd rfl ?_ ?_<;>conv=>rhs;whnf
 ·exact Zc rfl
 ·exact Zc rfl
def ZcN (r:Int):D:=(Zb r)
def Zcp (t0:Bool) (a:(List (List Int))) (b0:Int):(Int⊕Unit)→Ex×List V×Zn
  | (.inl r)=>(.ret,[(.d (Zb r))],[])
  | (.inr r)=>(.exit 0,[.bad],[])
theorem ZeG {t0:Bool}{a:(List (List Int))}{b0:Int}:∀(s0:Int) (r:(Int⊕Unit)),lp (Zc3 a (fun z0=>Zez z0 b0)) s0=some r→lpW ctx 0 [0,1,7,8] [4] Zv6 [(.d (D.list t0 (List.map (Zen true) a))),(.d (D.fn 118 [(D.rptr [(Zb b0)])])),(.d (Zb (a.length:Int))),(.d (Zb s0))] []=some ((Zcp t0 a b0) r):=by
 refine ZaR (Zcp t0 a b0) ?_
 intro s0 rcl ih
 show ZF _ _ (lpW _ _ _ _ _ _ _)
 unfold Zc3
 rw[ZaT]
 conv=>rhs;whnf
 refine Zd rfl ?_ ?_<;>conv=>rhs;whnf
 ·refine Zm rfl rfl fun x1 hx1=>?_;conv=>rhs;whnf
  refine Zj _ ZoP rfl fun x2 hx2=>?_;conv=>rhs;whnf
  refine Zd rfl ?_ ?_<;>conv=>rhs;whnf
  ·exact Zc rfl
  ·exact Zf (ih _)
 ·exact Zc rfl
theorem Zfd {t0:Bool}{a:(List (List Int))}{b0:Int}:∀r,(Zcr a (fun z0=>Zez z0 b0))=some r→evD ctx 170 [(.d (D.list t0 (List.map (Zen true) a))),(.d (D.fn 118 [(D.rptr [(Zb b0)])]))]=some (ZcN r):=by
 show ZF _ (fun r rhs=>rhs=some (ZcN r)) _
 unfold Zcr
 rw[ZaJ ctx 170 Zyw _ rfl rfl]
 conv=>rhs;whnf
 refine Zk (ZE _ _) ?_;conv=>rhs;whnf
 refine Ze _ (ZeG _) fun r3 hr3=>?_
 clear hr3
 rcases r3 with r3 | r3
 ·conv=>rhs;whnf
  exact Zc rfl
 ·conv=>rhs;whnf
  exact Zc rfl
def Zcn (r:Bool):D:=(D.bool r)
theorem Zex {t0:Bool}{a:(List (List Int))}{b0:Int}:∀r,(Zbt a (fun z0=>Zez z0 b0))=some r→evD ctx 119 [(.d (D.list t0 (List.map (Zen true) a))),(.d (D.fn 118 [(D.rptr [(Zb b0)])]))]=some (Zcn r):=by
 show ZF _ (fun r rhs=>rhs=some (Zcn r)) _
 unfold Zbt
 rw[ZaJ ctx 119 Zy4 _ rfl rfl]
 conv=>rhs;whnf
 refine Zj _ Zfd rfl fun x0 hx0=>?_;conv=>rhs;whnf
 refine Zd rfl ?_ ?_<;>conv=>rhs;whnf
 ·exact Zc rfl
 ·exact Zc rfl
def ZlS (t0:Bool) (a:List Int):(List Int)→V×Zn
  | r=>((.ptr 0 0),[(.cells [(.d (D.list t0 (List.map Zb a))),(.sl 1 1),(.sl 2 2),(.sl 3 1)]),(.arr 1 (List.map Zb (List.replicate (a.length:Int).toNat (0:Int)))),(.arr 2 (List.map Zgk (List.replicate (a.length:Int).toNat ((Zcf.mk 0 0):Zcf)))),(.arr 1 (List.map Zb r))])
def Zj4 (t0:Bool) (a:List Int):(List Int)→Ex×List V×Zn
  | r=>(.exit 0,[(.ptr 0 0)],[(.cells [(.d (D.list t0 (List.map Zb a))),(.sl 1 1),(.sl 2 2),(.sl 3 1)]),(.arr 1 (List.map Zb (List.replicate (a.length:Int).toNat (0:Int)))),(.arr 2 (List.map Zgk (List.replicate (a.length:Int).toNat ((Zcf.mk 0 0):Zcf)))),(.arr 1 (List.map Zb r))])
theorem Znj {t0:Bool}{a:List Int}:∀(s0:Int×(List Int)) (r:List Int),lp (ZcY a) s0=some r→lpW ctx 0 [3,18,19] [3] Zwa [(.ptr 0 0),(.d (Zb (a.length:Int))),(.d (Zb s0.1))] [(.cells [(.d (D.list t0 (List.map Zb a))),(.sl 1 1),(.sl 2 2),(.sl 3 1)]),(.arr 1 (List.map Zb (List.replicate (a.length:Int).toNat (0:Int)))),(.arr 2 (List.map Zgk (List.replicate (a.length:Int).toNat ((Zcf.mk 0 0):Zcf)))),(.arr 1 (List.map Zb s0.2))]=some ((Zj4 t0 a) r):=by
 refine ZaR (Zj4 t0 a) ?_
 intro s0 rcl ih
 show ZF _ _ (lpW _ _ _ _ _ _ _)
 unfold ZcY
 rw[ZaT]
 conv=>rhs;whnf
 refine Zd rfl ?_ ?_<;>conv=>rhs;whnf
 ·refine Zm rfl rfl fun x1 hx1=>?_;conv=>rhs;whnf
  refine Zh (Zq rfl hx1) ?_;conv=>rhs;whnf
  refine Zk (Zak Zb s0.2 s0.1.toNat (-1)) ?_;conv=>rhs;whnf
  exact Zf (ih _)
 ·exact Zc rfl
theorem Zpn {t0:Bool}{a:List Int}:∀r,(Zhd a)=some r→evW ctx 120 [(.d (D.list t0 (List.map Zb a)))] []=some ((ZlS t0 a) r):=by
 show ZF _ (fun r rhs=>rhs=some ((ZlS t0 a) r)) _
 unfold Zhd
 rw[Zc5 ctx 120 Zy0 _ _ rfl rfl]
 conv=>rhs;whnf
 refine Zk (ZE _ _) ?_;conv=>rhs;whnf
 refine Zd rfl ?_ ?_
 ·conv=>rhs;whnf
  refine Zk (Zjp Zb (0:Int) (a.length:Int)) ?_;conv=>rhs;whnf
  refine Zk (ZE _ _) ?_;conv=>rhs;whnf
  refine Zd rfl ?_ ?_
  ·conv=>rhs;whnf
   refine Zk (Zjp Zgk ((Zcf.mk 0 0):Zcf) (a.length:Int)) ?_;conv=>rhs;whnf
   refine Zk (ZE _ _) ?_;conv=>rhs;whnf
   refine Zd rfl ?_ ?_
   ·conv=>rhs;whnf
    refine Zk (Zjp Zb (0:Int) (a.length:Int)) ?_;conv=>rhs;whnf
    refine Zk (ZE _ _) ?_;conv=>rhs;whnf
    refine Ze _ (Znj _) fun r2 hr2=>?_;conv=>rhs;whnf
    exact Zc rfl
   ·exact ZR
  ·exact ZR
 ·exact ZR
def ZgG (r:Int):D:=(Zb r)
def ZfR (t0:Bool) (a:List Int) (b:Int):(Int⊕Unit)→Ex×List V×Zn
  | (.inl r)=>(.ret,[(.d (Zb r))],[])
  | (.inr r)=>(.exit 0,[.bad],[])
theorem Zip {t0:Bool}{a:List Int}{b:Int}:∀(s0:Int) (r:(Int⊕Unit)),lp (Zb8 a b) s0=some r→lpW ctx 0 [0,1,7,8] [4] Zvr [(.d (D.list t0 (List.map Zb a))),(.d (Zb b)),(.d (Zb (a.length:Int))),(.d (Zb s0))] []=some ((ZfR t0 a b) r):=by
 refine ZaR (ZfR t0 a b) ?_
 intro s0 rcl ih
 show ZF _ _ (lpW _ _ _ _ _ _ _)
 unfold Zb8
 rw[ZaT]
 conv=>rhs;whnf
 refine Zd rfl ?_ ?_<;>conv=>rhs;whnf
 ·refine Zm rfl rfl fun x1 hx1=>?_;conv=>rhs;whnf
  refine Zd rfl ?_ ?_<;>conv=>rhs;whnf
  ·exact Zc rfl
  ·exact Zf (ih _)
 ·exact Zc rfl
theorem Zju {t0:Bool}{a:List Int}{b:Int}:∀r,(ZdE a b)=some r→evD ctx 123 [(.d (D.list t0 (List.map Zb a))),(.d (Zb b))]=some (ZgG r):=by
 show ZF _ (fun r rhs=>rhs=some (ZgG r)) _
 unfold ZdE
 rw[ZaJ ctx 123 Zzf _ rfl rfl]
 conv=>rhs;whnf
 refine Zk (ZE _ _) ?_;conv=>rhs;whnf
 refine Ze _ (Zip _) fun r2 hr2=>?_
 clear hr2
 rcases r2 with r2 | r2
 ·conv=>rhs;whnf
  exact Zc rfl
 ·conv=>rhs;whnf
  exact Zc rfl
def ZfM (r:Bool):D:=(D.bool r)
theorem Zas {t0:Bool}{a:List Int}{b:Int}:∀r,(Z2 a b)=some r→evD ctx 71 [(.d (D.list t0 (List.map Zb a))),(.d (Zb b))]=some (ZfM r):=by
 show ZF _ (fun r rhs=>rhs=some (ZfM r)) _
 unfold Z2
 rw[ZaJ ctx 71 ZCj _ rfl rfl]
 conv=>rhs;whnf
 refine Zj _ Zju rfl fun x0 hx0=>?_;conv=>rhs;whnf
 refine Zd rfl ?_ ?_<;>conv=>rhs;whnf
 ·exact Zc rfl
 ·exact Zc rfl
def Zi5 (r:Bool):D:=(D.bool r)
theorem ZmV {t0 t1:Bool}{t2 t3:Bool}{a0:List Int}{a1:List Int}{a2:List Zcf}{a3:List Int}{b c:Int}:∀r,(ZhT a3 b c)=some r→evD ctx 126 [(.d (D.rptr [(D.list t0 (List.map Zb a0)),(D.list t1 (List.map Zb a1)),(D.list t2 (List.map Zgk a2)),(D.list t3 (List.map Zb a3))])),(.d (Zb b)),(.d (Zb c))]=some (Zi5 r):=by
 show ZF _ (fun r rhs=>rhs=some (Zi5 r)) _
 unfold ZhT
 rw[ZaJ ctx 126 Zy9 _ rfl rfl]
 conv=>rhs;whnf
 refine Zm rfl rfl fun x0 hx0=>?_;conv=>rhs;whnf
 refine Zd rfl ?_ ?_<;>conv=>rhs;whnf
 ·refine Zh (Zbe rfl hx0) ?_;conv=>rhs;whnf
  refine Zd rfl ?_ ?_<;>conv=>rhs;whnf
  ·exact Zc rfl
  ·exact Zc rfl
 ·exact Zc rfl
def Zif (r:Bool):D:=(D.bool r)
theorem ZlH {t0 t1:Bool}{t2 t3:Bool}{a:ZG}{b0:Int}{c0:List Int}{c1:List Int}{c2:List Zcf}{c3:List Int}{d0:Int}:∀r,(Zdi a b0 c3 d0)=some r→evD ctx 125 [(.d (D.agg [(Zb a.src),(Zb a.dst)])),(.d (D.rptr [(Zb b0)])),(.d (D.rptr [(D.rptr [(D.list t0 (List.map Zb c0)),(D.list t1 (List.map Zb c1)),(D.list t2 (List.map Zgk c2)),(D.list t3 (List.map Zb c3))])])),(.d (D.rptr [(Zb d0)]))]=some (Zif r):=by
 show ZF _ (fun r rhs=>rhs=some (Zif r)) _
 unfold Zdi
 rw[ZaJ ctx 125 ZyT _ rfl rfl]
 conv=>rhs;whnf
 refine Zd rfl ?_ ?_<;>conv=>rhs;whnf
 ·refine Zj _ ZmV rfl fun x0 hx0=>?_;conv=>rhs;whnf
  refine Zd rfl ?_ ?_<;>conv=>rhs;whnf
  ·exact Zc rfl
  ·exact Zc rfl
 ·exact Zc rfl
def Zcg (r:Int):D:=(Zb r)
def Zb1 (t0:Bool) (t1:Bool) (t2:Bool) (t3:Bool) (t4:Bool) (a:List ZG) (b0:Int) (b1:List Int) (b2:List Int) (b3:List Zcf) (b4:List Int) (b5:Int):(Int⊕Unit)→Ex×List V×Zn
  | (.inl r)=>(.ret,[(.d (Zb r))],[])
  | (.inr r)=>(.exit 0,[.bad],[])
theorem ZdS {t0 t1:Bool}{t2 t3 t4:Bool}{a:List ZG}{b0:Int}{b1:List Int}{b2:List Int}{b3:List Zcf}{b4:List Int}{b5:Int}:∀(s0:Int) (r:(Int⊕Unit)),lp (Zav a (fun z0=>Zdi z0 b0 b4 b5)) s0=some r→lpW ctx 0 [0,1,7,8] [4] ZsY [(.d (D.list t0 (List.map ZH a))),(.d (D.fn 125 [(D.rptr [(Zb b0)]),(D.rptr [(D.rptr [(D.list t1 (List.map Zb b1)),(D.list t2 (List.map Zb b2)),(D.list t3 (List.map Zgk b3)),(D.list t4 (List.map Zb b4))])]),(D.rptr [(Zb b5)])])),(.d (Zb (a.length:Int))),(.d (Zb s0))] []=some ((Zb1 t0 t1 t2 t3 t4 a b0 b1 b2 b3 b4 b5) r):=by
 refine ZaR (Zb1 t0 t1 t2 t3 t4 a b0 b1 b2 b3 b4 b5) ?_
 intro s0 rcl ih
 show ZF _ _ (lpW _ _ _ _ _ _ _)
 unfold Zav
 rw[ZaT]
 conv=>rhs;whnf
 refine Zd rfl ?_ ?_<;>conv=>rhs;whnf
 ·refine Zm rfl rfl fun x1 hx1=>?_;conv=>rhs;whnf
  refine Zj _ ZlH rfl fun x2 hx2=>?_;conv=>rhs;whnf
  refine Zd rfl ?_ ?_<;>conv=>rhs;whnf
  ·exact Zc rfl
  ·exact Zf (ih _)
 ·exact Zc rfl
theorem Zeg {t0 t1:Bool}{t2 t3 t4:Bool}{a:List ZG}{b0:Int}{b1:List Int}{b2:List Int}{b3:List Zcf}{b4:List Int}{b5:Int}:∀r,(Zbk a (fun z0=>Zdi z0 b0 b4 b5))=some r→evD ctx 171 [(.d (D.list t0 (List.map ZH a))),(.d (D.fn 125 [(D.rptr [(Zb b0)]),(D.rptr [(D.rptr [(D.list t1 (List.map Zb b1)),(D.list t2 (List.map Zb b2)),(D.list t3 (List.map Zgk b3)),(D.list t4 (List.map Zb b4))])]),(D.rptr [(Zb b5)])]))]=some (Zcg r):=by
 show ZF _ (fun r rhs=>rhs=some (Zcg r)) _
 unfold Zbk
 rw[ZaJ ctx 171 ZvT _ rfl rfl]
 conv=>rhs;whnf
 refine Zk (ZE _ _) ?_;conv=>rhs;whnf
 refine Ze _ (ZdS _) fun r3 hr3=>?_
 clear hr3
 rcases r3 with r3 | r3
 ·conv=>rhs;whnf
  exact Zc rfl
 ·conv=>rhs;whnf
  exact Zc rfl
def Zb3 (r:Bool):D:=(D.bool r)
theorem ZdT {t0 t1:Bool}{t2 t3 t4:Bool}{a:List ZG}{b0:Int}{b1:List Int}{b2:List Int}{b3:List Zcf}{b4:List Int}{b5:Int}:∀r,(Zaf a (fun z0=>Zdi z0 b0 b4 b5))=some r→evD ctx 124 [(.d (D.list t0 (List.map ZH a))),(.d (D.fn 125 [(D.rptr [(Zb b0)]),(D.rptr [(D.rptr [(D.list t1 (List.map Zb b1)),(D.list t2 (List.map Zb b2)),(D.list t3 (List.map Zgk b3)),(D.list t4 (List.map Zb b4))])]),(D.rptr [(Zb b5)])]))]=some (Zb3 r):=by
 show ZF _ (fun r rhs=>rhs=some (Zb3 r)) _
 unfold Zaf
 rw[ZaJ ctx 124 ZwA _ rfl rfl]
 conv=>rhs;whnf
 refine Zj _ Zeg rfl fun x0 hx0=>?_;conv=>rhs;whnf
 refine Zd rfl ?_ ?_<;>conv=>rhs;whnf
 ·exact Zc rfl
 ·exact Zc rfl
def Zjb (r:Bool):D:=(D.bool r)
theorem ZiQ {t0 t1:Bool}{t2 t3:Bool}{t4 t5:Bool}{a0:List Int}{a1:List Int}{a2:List Zcf}{a3:List Int}{b:ZL}{c d:Int}:∀r,(Zgf a3 b c d)=some r→evD ctx 72 [(.d (D.rptr [(D.list t0 (List.map Zb a0)),(D.list t1 (List.map Zb a1)),(D.list t2 (List.map Zgk a2)),(D.list t3 (List.map Zb a3))])),(.d (D.agg [(D.list t4 (List.map Zb b.work)),(D.list t5 (List.map ZH b.edges))])),(.d (Zb c)),(.d (Zb d))]=some (Zjb r):=by
 show ZF _ (fun r rhs=>rhs=some (Zjb r)) _
 unfold Zgf
 rw[ZaJ ctx 72 ZBG _ rfl rfl]
 conv=>rhs;whnf
 refine Zj _ ZdT rfl fun x0 hx0=>?_;conv=>rhs;whnf
 refine Zd rfl ?_ ?_<;>conv=>rhs;whnf
 ·exact Zc rfl
 ·exact Zc rfl
def ZjA (r:Int):D:=(Zb r)
theorem Znk {t0 t1:Bool}{t2 t3:Bool}{t4 t5 t6:Bool}{a0:List Int}{a1:List Int}{a2:List Zcf}{a3:List Int}{b:ZL}{c:List Int}{d e:Int}:∀r,(Zit a0 a1 a2 a3 b c d e)=some r→evD ctx 121 [(.d (D.rptr [(D.list t0 (List.map Zb a0)),(D.list t1 (List.map Zb a1)),(D.list t2 (List.map Zgk a2)),(D.list t3 (List.map Zb a3))])),(.d (D.agg [(D.list t4 (List.map Zb b.work)),(D.list t5 (List.map ZH b.edges))])),(.d (D.list t6 (List.map Zb c))),(.d (Zb d)),(.d (Zb e))]=some (ZjA r):=by
 show ZF _ (fun r rhs=>rhs=some (ZjA r)) _
 unfold Zit
 rw[ZaJ ctx 121 Zx1 _ rfl rfl]
 conv=>rhs;whnf
 refine Zm rfl rfl fun x0 hx0=>?_;conv=>rhs;whnf
 refine Zd rfl ?_ ?_<;>conv=>rhs;whnf
 ·exact Zc rfl
 ·refine Zk (ZE _ _) ?_;conv=>rhs;whnf
  refine Zd rfl ?_ ?_<;>conv=>rhs;whnf
  ·exact Zc rfl
  ·refine Zd rfl ?_ ?_
   ·conv=>rhs;whnf
    refine Zd (ZyL Zb c e.toNat) ?_ ?_
    ·conv=>rhs;whnf
     refine ZcI rfl ?_;conv=>rhs;whnf
     refine Zk (Zs8 Zb c e.toNat) ?_;conv=>rhs;whnf
     refine Zj _ Zas rfl fun x1 hx1=>?_;conv=>rhs;whnf
     refine Zd rfl ?_ ?_<;>conv=>rhs;whnf
     ·exact Zc rfl
     ·refine Zm rfl rfl fun x2 hx2=>?_;conv=>rhs;whnf
      refine Zm rfl rfl fun x3 hx3=>?_;conv=>rhs;whnf
      refine Zd rfl ?_ ?_<;>conv=>rhs;whnf
      ·exact Zc rfl
      ·refine Zh (Zbe rfl hx2) ?_;conv=>rhs;whnf
       refine Zd rfl ?_ ?_<;>conv=>rhs;whnf
       ·refine Zm rfl rfl fun x4 hx4=>?_;conv=>rhs;whnf
        refine Zd rfl ?_ ?_<;>conv=>rhs;whnf
        ·exact Zc rfl
        ·refine Zh (Zbe rfl hx2) ?_;conv=>rhs;whnf
         refine Zd rfl ?_ ?_<;>conv=>rhs;whnf
         ·refine Zj _ ZiQ rfl fun x5 hx5=>?_;conv=>rhs;whnf
          refine Zd rfl ?_ ?_<;>conv=>rhs;whnf
          ·exact Zc rfl
          ·exact Zc rfl
         ·exact Zc rfl
       ·refine Zh (Zbe rfl hx2) ?_;conv=>rhs;whnf
        refine Zd rfl ?_ ?_<;>conv=>rhs;whnf
        ·refine Zj _ ZiQ rfl fun x6 hx6=>?_;conv=>rhs;whnf
         refine Zd rfl ?_ ?_<;>conv=>rhs;whnf
         ·exact Zc rfl
         ·exact Zc rfl
        ·exact Zc rfl
    ·exact ZR
   ·exact ZR
def ZmE (t0:Bool) (t1:Bool) (b:Int) (c:List Int) (m0_0:List Int) (m1_0:List Int) (m2_0:List Zcf) (m3_0:List Int):Unit→V×Zn
  | r=>((.d (D.tup [])),[(.cells [(.d (D.list t1 (List.map Zb m0_0))),(.sl 1 1),(.sl 2 2),(.sl 3 1)]),(.arr 1 (List.map Zb m1_0)),(.arr 2 (List.map Zgk m2_0)),(.arr 1 (List.map Zb m3_0))])
theorem ZpQ {t0 t1:Bool}{b:Int}{c:List Int}{m0_0:List Int}{m1_0:List Int}{m2_0:List Zcf}{m3_0:List Int}:∀r,(Zlz b c)=some r→evW ctx 69 [(.ptr 0 0),(.d (Zb b)),(.d (D.list t0 (List.map Zb c)))] [(.cells [(.d (D.list t1 (List.map Zb m0_0))),(.sl 1 1),(.sl 2 2),(.sl 3 1)]),(.arr 1 (List.map Zb m1_0)),(.arr 2 (List.map Zgk m2_0)),(.arr 1 (List.map Zb m3_0))]=some ((ZmE t0 t1 b c m0_0 m1_0 m2_0 m3_0) r):=by
 show ZF _ (fun r rhs=>rhs=some ((ZmE t0 t1 b c m0_0 m1_0 m2_0 m3_0) r)) _
 unfold Zlz
 rw[Zc5 ctx 69 ZCz _ _ rfl rfl]
 conv=>rhs;whnf
 exact Zc rfl
def ZjK (t0:Bool) (b:Int) (c:Int) (d:Int) (m0_0:List Int) (m1_0:List Int) (m2_0:List Zcf) (m3_0:List Int):((List Int)×(List Int))→V×Zn
  | r=>((.d (D.tup [])),[(.cells [(.d (D.list t0 (List.map Zb m0_0))),(.sl 1 1),(.sl 2 2),(.sl 3 1)]),(.arr 1 (List.map Zb r.1)),(.arr 2 (List.map Zgk (List.set m2_0 b.toNat (Zcf.mk c d)))),(.arr 1 (List.map Zb r.2))])
theorem Zng {t0:Bool}{b c d:Int}{m0_0:List Int}{m1_0:List Int}{m2_0:List Zcf}{m3_0:List Int}:∀r,(Zik b c d m0_0 m1_0 m2_0 m3_0)=some r→evW ctx 122 [(.ptr 0 0),(.d (Zb b)),(.d (Zb c)),(.d (Zb d))] [(.cells [(.d (D.list t0 (List.map Zb m0_0))),(.sl 1 1),(.sl 2 2),(.sl 3 1)]),(.arr 1 (List.map Zb m1_0)),(.arr 2 (List.map Zgk m2_0)),(.arr 1 (List.map Zb m3_0))]=some ((ZjK t0 b c d m0_0 m1_0 m2_0 m3_0) r):=by
 show ZF _ (fun r rhs=>rhs=some ((ZjK t0 b c d m0_0 m1_0 m2_0 m3_0) r)) _
 unfold Zik
 rw[Zc5 ctx 122 ZxI _ _ rfl rfl]
 conv=>rhs;whnf
 refine Zm rfl rfl fun x0 hx0=>?_;conv=>rhs;whnf
 refine Zh (Zq rfl hx0) ?_;conv=>rhs;whnf
 refine Zh (Zbe rfl hx0) ?_;conv=>rhs;whnf
 refine Zh (Zq rfl hx0) ?_;conv=>rhs;whnf
 refine Zk (Zak Zb m1_0 b.toNat (w64 (x0+1))) ?_;conv=>rhs;whnf
 refine Zm rfl rfl fun x1 hx1=>?_;conv=>rhs;whnf
 refine Zh (Zq rfl hx1) ?_;conv=>rhs;whnf
 refine Zk (Zak Zgk m2_0 b.toNat (Zcf.mk c d)) ?_;conv=>rhs;whnf
 refine Zm rfl rfl fun x2 hx2=>?_;conv=>rhs;whnf
 refine Zh (Zq rfl hx2) ?_;conv=>rhs;whnf
 refine Zm rfl rfl fun x3 hx3=>?_;conv=>rhs;whnf
 refine Zd rfl ?_ ?_<;>conv=>rhs;whnf
 ·refine Zm rfl rfl fun x4 hx4=>?_;conv=>rhs;whnf
  refine Zh (Zq rfl hx4) ?_;conv=>rhs;whnf
  refine Zk (Zak Zb m3_0 b.toNat (w64 (c+1))) ?_;conv=>rhs;whnf
  exact Zc rfl
 ·exact Zc rfl
def Zgv (t0:Bool) (t1:Bool) (t2:Bool) (t3:Bool) (a:ZL) (b:List Int) (c:Int) (d:(List (List Int))):(Int⊕(Int×(List Int)×(List Zcf)×(List Int)))→V×Zn
  | (.inl r)=>((.d (D.tup [(D.nilp),(Zb r)])),[])
  | (.inr r)=>((.tup [(.ptr 0 0),(.d (Zb r.1))]),[(.cells [(.d (D.list t2 (List.map Zb b))),(.sl 1 1),(.sl 2 2),(.sl 3 1)]),(.arr 1 (List.map Zb r.2.1)),(.arr 2 (List.map Zgk r.2.2.1)),(.arr 1 (List.map Zb r.2.2.2))])
def ZfN (t0:Bool) (t1:Bool) (t2:Bool) (t3:Bool) (a:ZL) (b:List Int) (d:(List (List Int))) (s3:Int×Int×(List Int)×(List Zcf)×(List Int)) (x4:List Int):(Int⊕Int)→Ex×List V×Zn
  | (.inl r)=>(.exit 0,[(.d (D.fn 69 [])),(.ptr 0 0),(.d (Zb r)),(.ptr 1 0),(.d (Zb s3.2.1)),(.d (D.list true (List.map Zb x4))),(.d (D.list t3 (List.map (Zen true) d))),(.d (Zb (d.length:Int))),(.d (Zb s3.2.1))],[(.cells [(.d (D.list t0 (List.map Zb a.work))),(.d (D.list t1 (List.map ZH a.edges)))]),(.cells [(.d (D.list t2 (List.map Zb b))),(.sl 2 1),(.sl 3 2),(.sl 4 1)]),(.arr 1 (List.map Zb s3.2.2.1)),(.arr 2 (List.map Zgk s3.2.2.2.1)),(.arr 1 (List.map Zb s3.2.2.2.2))])
  | (.inr r)=>(.exit 2,[(.d (D.fn 69 [])),(.ptr 0 0),(.d (Zb r)),(.ptr 1 0),(.d (Zb s3.2.1)),(.d (D.list true (List.map Zb x4))),(.d (D.list t3 (List.map (Zen true) d))),(.d (Zb (d.length:Int))),(.d (Zb s3.2.1))],[(.cells [(.d (D.list t0 (List.map Zb a.work))),(.d (D.list t1 (List.map ZH a.edges)))]),(.cells [(.d (D.list t2 (List.map Zb b))),(.sl 2 1),(.sl 3 2),(.sl 4 1)]),(.arr 1 (List.map Zb s3.2.2.1)),(.arr 2 (List.map Zgk s3.2.2.2.1)),(.arr 1 (List.map Zb s3.2.2.2.2))])
theorem Zij {t0 t1:Bool}{t2 t3:Bool}{a:ZL}{b:List Int}{d:(List (List Int))}{s3:Int×Int×(List Int)×(List Zcf)×(List Int)}{x4:List Int}:∀(s5:Int×Int) (r:(Int⊕Int)),lp (ZiW a b s3 x4) s5=some r→lpW ctx 0 [4,5,13,15,16,17,47,48,49,54,55,56] [4,5,13,15,16,17,47,48,49] Zx0 [(.d (D.fn 69 [])),(.ptr 0 0),(.d (Zb s5.1)),(.ptr 1 0),(.d (Zb s3.2.1)),(.d (D.list true (List.map Zb x4))),(.d (D.list t3 (List.map (Zen true) d))),(.d (Zb (d.length:Int))),(.d (Zb s3.2.1)),(.d (D.list true (List.map Zb x4))),(.d (Zb (x4.length:Int))),(.d (Zb s5.2))] [(.cells [(.d (D.list t0 (List.map Zb a.work))),(.d (D.list t1 (List.map ZH a.edges)))]),(.cells [(.d (D.list t2 (List.map Zb b))),(.sl 2 1),(.sl 3 2),(.sl 4 1)]),(.arr 1 (List.map Zb s3.2.2.1)),(.arr 2 (List.map Zgk s3.2.2.2.1)),(.arr 1 (List.map Zb s3.2.2.2.2))]=some ((ZfN t0 t1 t2 t3 a b d s3 x4) r):=by
 refine ZaR (ZfN t0 t1 t2 t3 a b d s3 x4) ?_
 intro s5 rcl ih
 show ZF _ _ (lpW _ _ _ _ _ _ _)
 unfold ZiW
 rw[ZaT]
 conv=>rhs;whnf
 refine Zd rfl ?_ ?_<;>conv=>rhs;whnf
 ·refine Zm rfl rfl fun x6 hx6=>?_;conv=>rhs;whnf
  refine Zd rfl ?_ ?_<;>conv=>rhs;whnf
  ·exact Zf (ih _)
  ·refine Zj _ Znk rfl fun x7 hx7=>?_;conv=>rhs;whnf
   refine Zd rfl ?_ ?_<;>conv=>rhs;whnf
   ·exact Zc rfl
   ·exact Zf (ih _)
 ·exact Zc rfl
def ZfQ (t0:Bool) (t1:Bool) (t2:Bool) (t3:Bool) (a:ZL) (b:List Int) (d:(List (List Int))) (s3:Int×Int×(List Int)×(List Zcf)×(List Int)) (x4:List Int) (r8:Int):((List Int)×(List Zcf)×(List Int))→Ex×List V×Zn
  | r=>(.exit 4,[(.d (D.fn 69 [])),(.ptr 0 0),(.d (Zb r8)),(.ptr 1 0),(.d (D.list t3 (List.map (Zen true) d))),(.d (Zb (d.length:Int))),(.d (Zb s3.2.1))],[(.cells [(.d (D.list t0 (List.map Zb a.work))),(.d (D.list t1 (List.map ZH a.edges)))]),(.cells [(.d (D.list t2 (List.map Zb b))),(.sl 2 1),(.sl 3 2),(.sl 4 1)]),(.arr 1 (List.map Zb r.1)),(.arr 2 (List.map Zgk r.2.1)),(.arr 1 (List.map Zb r.2.2))])
theorem Zii {t0 t1:Bool}{t2 t3:Bool}{a:ZL}{b:List Int}{d:(List (List Int))}{s3:Int×Int×(List Int)×(List Zcf)×(List Int)}{x4:List Int}{r8:Int}:∀(s10:Int×(List Int)×(List Zcf)×(List Int)) (r:((List Int)×(List Zcf)×(List Int))),lp (ZiV b s3 x4) s10=some r→lpW ctx 0 [4,5,13,15,16,47,48,49,77,78,79] [4,5,13,15,47,48,49] Zyo [(.d (D.fn 69 [])),(.ptr 0 0),(.d (Zb r8)),(.ptr 1 0),(.d (Zb s3.2.1)),(.d (D.list t3 (List.map (Zen true) d))),(.d (Zb (d.length:Int))),(.d (Zb s3.2.1)),(.d (D.list true (List.map Zb x4))),(.d (Zb (x4.length:Int))),(.d (Zb s10.1))] [(.cells [(.d (D.list t0 (List.map Zb a.work))),(.d (D.list t1 (List.map ZH a.edges)))]),(.cells [(.d (D.list t2 (List.map Zb b))),(.sl 2 1),(.sl 3 2),(.sl 4 1)]),(.arr 1 (List.map Zb s10.2.1)),(.arr 2 (List.map Zgk s10.2.2.1)),(.arr 1 (List.map Zb s10.2.2.2))]=some ((ZfQ t0 t1 t2 t3 a b d s3 x4 r8) r):=by
 refine ZaR (ZfQ t0 t1 t2 t3 a b d s3 x4 r8) ?_
 intro s10 rcl ih
 show ZF _ _ (lpW _ _ _ _ _ _ _)
 unfold ZiV
 rw[ZaT]
 conv=>rhs;whnf
 refine Zd rfl ?_ ?_<;>conv=>rhs;whnf
 ·refine Zm rfl rfl fun x11 hx11=>?_;conv=>rhs;whnf
  refine Zd rfl ?_ ?_<;>conv=>rhs;whnf
  ·refine Ze _ Zng fun x12 hx12=>?_;conv=>rhs;whnf
   exact Zf (ih _)
  ·exact Zf (ih _)
 ·exact Zc rfl
def ZfO (t0:Bool) (t1:Bool) (t2:Bool) (t3:Bool) (a:ZL) (b:List Int) (d:(List (List Int))):(Int×(List Int)×(List Zcf)×(List Int))→Ex×List V×Zn
  | r=>(.exit 0,[(.d (Zb r.1)),(.ptr 0 0)],[(.cells [(.d (D.list t2 (List.map Zb b))),(.sl 1 1),(.sl 2 2),(.sl 3 1)]),(.arr 1 (List.map Zb r.2.1)),(.arr 2 (List.map Zgk r.2.2.1)),(.arr 1 (List.map Zb r.2.2.2))])
theorem Ziv {t0 t1:Bool}{t2 t3:Bool}{a:ZL}{b:List Int}{d:(List (List Int))}:∀(s3:Int×Int×(List Int)×(List Zcf)×(List Int)) (r:(Int×(List Int)×(List Zcf)×(List Int))),lp (ZiT a b d) s3=some r→lpW ctx 0 [4,5,13,15,47,48,49] [13,15] Zyu [(.d (D.fn 69 [])),(.ptr 0 0),(.d (Zb s3.1)),(.ptr 1 0),(.d (D.list t3 (List.map (Zen true) d))),(.d (Zb (d.length:Int))),(.d (Zb s3.2.1))] [(.cells [(.d (D.list t0 (List.map Zb a.work))),(.d (D.list t1 (List.map ZH a.edges)))]),(.cells [(.d (D.list t2 (List.map Zb b))),(.sl 2 1),(.sl 3 2),(.sl 4 1)]),(.arr 1 (List.map Zb s3.2.2.1)),(.arr 2 (List.map Zgk s3.2.2.2.1)),(.arr 1 (List.map Zb s3.2.2.2.2))]=some ((ZfO t0 t1 t2 t3 a b d) r):=by
 refine ZaR (ZfO t0 t1 t2 t3 a b d) ?_
 intro s3 rcl ih
 show ZF _ _ (lpW _ _ _ _ _ _ _)
 unfold ZiT
 rw[ZaT]
 conv=>rhs;whnf
 refine Zd rfl ?_ ?_<;>conv=>rhs;whnf
 ·refine Zm rfl rfl fun x4 hx4=>?_;conv=>rhs;whnf
  refine Zk (ZE _ _) ?_;conv=>rhs;whnf
  refine Ze _ (Zij _) fun r8 hr8=>?_
  clear hr8
  rcases r8 with r8 | r8
  ·conv=>rhs;whnf
   exact Zc rfl
  ·conv=>rhs;whnf
   refine Ze _ ZpQ fun x9 hx9=>?_;conv=>rhs;whnf
   refine Zk (ZE _ _) ?_;conv=>rhs;whnf
   refine Ze _ (Zii _) fun r13 hr13=>?_;conv=>rhs;whnf
   exact Zf (ih _)
 ·exact Zc rfl
theorem Zjs {t0 t1:Bool}{t2 t3:Bool}{a:ZL}{b:List Int}{c:Int}{d:(List (List Int))}:∀r,(Zjt a b c d)=some r→evW ctx 68 [(.d (D.agg [(D.list t0 (List.map Zb a.work)),(D.list t1 (List.map ZH a.edges))])),(.d (D.list t2 (List.map Zb b))),(.d (Zb c)),(.d (D.list t3 (List.map (Zen true) d))),(.d (D.fn 69 []))] []=some ((Zgv t0 t1 t2 t3 a b c d) r):=by
 show ZF _ (fun r rhs=>rhs=some ((Zgv t0 t1 t2 t3 a b c d) r)) _
 unfold Zjt
 rw[Zc5 ctx 68 ZBJ _ _ rfl rfl]
 conv=>rhs;whnf
 refine Zj _ Zpg rfl fun x0 hx0=>?_;conv=>rhs;whnf
 refine Zd rfl ?_ ?_<;>conv=>rhs;whnf
 ·refine Zd rfl ?_ ?_<;>conv=>rhs;whnf
  ·exact Zc rfl
  ·refine Zk (ZE _ _) ?_;conv=>rhs;whnf
   refine Zd rfl ?_ ?_<;>conv=>rhs;whnf
   ·exact Zc rfl
   ·refine Zj _ Zex rfl fun x1 hx1=>?_;conv=>rhs;whnf
    refine Zd rfl ?_ ?_<;>conv=>rhs;whnf
    ·exact Zc rfl
    ·refine Ze _ Zpn fun x2 hx2=>?_;conv=>rhs;whnf
     refine Zk (ZE _ _) ?_;conv=>rhs;whnf
     refine Ze _ (Ziv _) fun r14 hr14=>?_;conv=>rhs;whnf
     exact Zc rfl
 ·refine Zd rfl ?_ ?_<;>conv=>rhs;whnf
  ·exact Zc rfl
  ·exact Zc rfl
def Zl2 (r:Int):D:=(Zb r)
theorem Zo4 {t0 t1:Bool}{t2 t3:Bool}{a:ZL}{b:List Int}{c:Int}{d:(List (List Int))}:∀r,(Zhm a b c d)=some r→evD ctx 31 [(.d (D.agg [(D.list t0 (List.map Zb a.work)),(D.list t1 (List.map ZH a.edges))])),(.d (D.list t2 (List.map Zb b))),(.d (Zb c)),(.d (D.list t3 (List.map (Zen true) d)))]=some (Zl2 r):=by
 show ZF _ (fun r rhs=>rhs=some (Zl2 r)) _
 unfold Zhm
 rw[ZaJ ctx 31 ZB2 _ rfl rfl]
 conv=>rhs;whnf
 refine Ze _ Zjs fun x0 hx0=>?_
 clear hx0
 rcases x0 with x0 | x0
 ·conv=>rhs;whnf
  exact Zc rfl
 ·conv=>rhs;whnf
  exact Zc rfl
def Zgt (t0:Bool) (a:List Int):Unit→V×Zn
  | r=>((.sl 0 1),[(.arr 1 (List.map Zb a))])
theorem ZaM {t0:Bool}{a:List Int}:∀r,(Zab a)=some r→evW ctx 47 [(.d (D.list t0 (List.map Zb a)))] []=some ((Zgt t0 a) r):=by
 show ZF _ (fun r rhs=>rhs=some ((Zgt t0 a) r)) _
 unfold Zab
 rw[Zc5 ctx 47 ZBK _ _ rfl rfl]
 conv=>rhs;whnf
 refine ZcI (ZmT (f:=Zb) (fun _=>⟨rfl,rfl⟩) a 0) ?_;conv=>rhs;whnf
 refine Zd (ZoV Zb a) ?_ ?_
 ·conv=>rhs;whnf
  refine Zk (rfl:_=List.map Zb a) ?_;conv=>rhs;whnf
  exact Zc rfl
 ·exact ZR
def ZoQ (t0:Bool) (t1:Bool) (t2:Bool) (a:ZL) (b:List Int) (c:Int):(Int⊕(List Int))→V×Zn
  | (.inl r)=>((.tup [(.agg [(.nilsl 1),(.nilsl 1)]),(.d (Zb r))]),[])
  | (.inr r)=>((.tup [(.agg [(.sl 0 1),(.sl 1 1)]),(.d (Zb 0))]),[(.arr 1 (List.map Zb r)),(.arr 1 (List.map Zb b))])
def ZlQ (b:List Int) (c:Int):(List Int)→Ex×List V×Zn
  | r=>(.exit 0,[(.ptr 0 0),(.ptr 1 0)],[(.cells [(.sl 2 1),(.sl 3 1)]),(.cells [(.sl 4 1),(.sl 5 1)]),(.arr 1 []),(.arr 1 []),(.arr 1 (List.map Zb r)),(.arr 1 (List.map Zb b))])
theorem Zo9 {b:List Int}{c:Int}:∀(s2:Int×(List Int)) (r:List Int),lp (Zfh c) s2=some r→lpW ctx 0 [6,9,21,22] [6,9] ZzZ [(.ptr 0 0),(.ptr 1 0),(.d (Zb c)),(.d (Zb s2.1))] [(.cells [(.sl 2 1),(.sl 3 1)]),(.cells [(.sl 4 1),(.sl 5 1)]),(.arr 1 []),(.arr 1 []),(.arr 1 (List.map Zb s2.2)),(.arr 1 (List.map Zb b))]=some ((ZlQ b c) r):=by
 refine ZaR (ZlQ b c) ?_
 intro s2 rcl ih
 show ZF _ _ (lpW _ _ _ _ _ _ _)
 unfold Zfh
 rw[ZaT]
 conv=>rhs;whnf
 refine Zd rfl ?_ ?_<;>conv=>rhs;whnf
 ·refine ZcI rfl ?_;conv=>rhs;whnf
  refine Zd (ZgS Zb s2.2 1) ?_ ?_
  ·conv=>rhs;whnf
   refine Zk (ZgP Zb s2.2 [(-1)]) ?_;conv=>rhs;whnf
   exact Zf (ih _)
  ·exact ZR
 ·exact Zc rfl
theorem Zrw {t0 t1 t2:Bool}{a:ZL}{b:List Int}{c:Int}:∀r,(Zj3 a b c)=some r→evW ctx 51 [(.d (D.agg [(D.list t0 (List.map Zb a.work)),(D.list t1 (List.map ZH a.edges))])),(.d (D.list t2 (List.map Zb b))),(.d (Zb c))] []=some ((ZoQ t0 t1 t2 a b c) r):=by
 show ZF _ (fun r rhs=>rhs=some ((ZoQ t0 t1 t2 a b c) r)) _
 unfold Zj3
 rw[Zc5 ctx 51 ZCc _ _ rfl rfl]
 conv=>rhs;whnf
 refine Zj _ Zo4 rfl fun x0 hx0=>?_;conv=>rhs;whnf
 refine Zd rfl ?_ ?_<;>conv=>rhs;whnf
 ·exact Zc rfl
 ·refine Ze _ ZaM fun x1 hx1=>?_;conv=>rhs;whnf
  refine Ze _ (Zo9 _) fun r3 hr3=>?_;conv=>rhs;whnf
  exact Zc rfl
def ZnA (r:Int):D:=(Zb r)
theorem Zmm {a:Int}:∀r,(Zhy a)=some r→evD ctx 156 [(.d (Zb a))]=some (ZnA r):=by
 show ZF _ (fun r rhs=>rhs=some (ZnA r)) _
 unfold Zhy
 rw[ZaJ ctx 156 Zzy _ rfl rfl]
 conv=>rhs;whnf
 refine Zd rfl ?_ ?_<;>conv=>rhs;whnf
 ·exact Zc rfl
 ·refine Zd rfl ?_ ?_<;>conv=>rhs;whnf
  ·exact Zc rfl
  ·exact Zc rfl
def Zg0 (r:Int):D:=(Zb r)
theorem Zjz {a:Int}:∀r,(Zc1 a)=some r→evD ctx 184 [(.d (D.int .u64 a))]=some (Zg0 r):=by
 show ZF _ (fun r rhs=>rhs=some (Zg0 r)) _
 unfold Zc1
 rw[ZaJ ctx 184 ZxA _ rfl rfl]
 conv=>rhs;whnf
 refine Zam rfl ?_;conv=>rhs;whnf
 refine Zam rfl ?_;conv=>rhs;whnf
 refine Zam rfl ?_;conv=>rhs;whnf
 refine Zam rfl ?_;conv=>rhs;whnf
 refine Zam rfl ?_;conv=>rhs;whnf
 refine Zam rfl ?_;conv=>rhs;whnf
 exact Zc rfl
def ZhF (r:Int):D:=(Zb r)
theorem ZkB {a:Int}:∀r,(Zdo a)=some r→evD ctx 157 [(.d (D.int .u64 a))]=some (ZhF r):=by
 show ZF _ (fun r rhs=>rhs=some (ZhF r)) _
 unfold Zdo
 rw[ZaJ ctx 157 ZzT _ rfl rfl]
 conv=>rhs;whnf
 refine Zj _ Zjz rfl fun x0 hx0=>?_;conv=>rhs;whnf
 exact Zc rfl
theorem ZDw (n:Int):0≤u64.wrap n∧u64.wrap n<18446744073709551616:=by
  have:u64.wrap n=n % 18446744073709551616:=by
    show(if (false&&decide (n % 18446744073709551616 ≥ 9223372036854775808))=true then n % 18446744073709551616-18446744073709551616 else n % 18446744073709551616)=_
    simp
  rw[this]
  omega
theorem ZEX (n:Int):∃j:Nat,j<64∧(u64.wrap n).fdiv (2 ^ (min (Int.toNat 58) u64.bits))=(j:Int):=by
  obtain⟨h1,h2⟩:=ZDw n
  have e:(2:Int) ^ (min (Int.toNat 58) u64.bits)=288230376151711744:=by decide
  rw[e,Int.fdiv_eq_ediv_of_nonneg _ (by omega)]
  refine⟨((u64.wrap n) / 288230376151711744).toNat,?_,?_⟩<;>omega
theorem ZFi:∀j:Nat,j<64→Zea [] 1 false (.d (.rptr (ZyY.drop (j*1))))=some (.d (.int .u8 (Ztf.getD j 0))):=by
  have key:((List.range 64).all fun j=>match Zea [] 1 false (.d (.rptr (ZyY.drop (j*1)))) with | some (.d (.int .u8 z))=>z==Ztf.getD j 0 | _=>false)=true:=by rfl
  intro j hj
  have:=List.all_eq_true.1 key j (by simpa using hj)
  split at this
  · rename_i z hz
    rw[hz,eq_of_beq this]
  · cases this
def ZiL (r:Int):D:=Zb r
theorem Zih (a:Int):∀r,Zef a=some r→evD ctx 186 [.d (.int .u64 a)]=some (ZiL r):=by
  intro r hr
  unfold Zef at hr
  have hr:=Option.some.inj hr
  subst hr
  rw[ZaJ ctx 186 Zyi _ rfl rfl]
  by_cases h:(a==0)=true
  · conv=>lhs;whnf
    rw[h,ZAM]
    rfl
  · replace h:(a==0)=false:=by simpa using h
    obtain⟨j,hj,e⟩:=ZEX (u64.wrap ((Zg a &&& Zg (u64.wrap (0-a))).toNat:Int)*285870213051353865)
    conv=>lhs;whnf
    rw[h,ZBb]
    conv=>lhs;whnf
    refine(ZEZ (by rfl)).trans ?_
    conv=>lhs;whnf
    rw[e]
    refine(ZDc (by simp;omega)).trans ?_
    conv=>lhs;whnf
    erw [ZFi j hj]
    rfl
def Zgj (r:Int):D:=(Zb r)
theorem ZiZ {a:Int}:∀r,(Zdn a)=some r→evD ctx 158 [(.d (D.int .u64 a))]=some (Zgj r):=by
 show ZF _ (fun r rhs=>rhs=some (Zgj r)) _
 unfold Zdn
 rw[ZaJ ctx 158 ZyA _ rfl rfl]
 conv=>rhs;whnf
 refine Zj _ (Zih _) rfl fun x0 hx0=>?_;conv=>rhs;whnf
 exact Zc rfl
def ZpB (r:(Int×Bool)):D:=(D.tup [(Zb r.1),(D.bool r.2)])
theorem ZoB {a:Int}:∀r,(Zim a)=some r→evD ctx 103 [(.d (Zb a))]=some (ZpB r):=by
 show ZF _ (fun r rhs=>rhs=some (ZpB r)) _
 unfold Zim
 rw[ZaJ ctx 103 ZyN _ rfl rfl]
 conv=>rhs;whnf
 refine Zj _ Zmm rfl fun x0 hx0=>?_;conv=>rhs;whnf
 refine Zd rfl ?_ ?_<;>conv=>rhs;whnf
 ·exact Zc rfl
 ·refine Zj _ ZkB rfl fun x1 hx1=>?_;conv=>rhs;whnf
  refine Zd rfl ?_ ?_<;>conv=>rhs;whnf
  ·exact Zc rfl
  ·refine Zj _ ZiZ rfl fun x2 hx2=>?_;conv=>rhs;whnf
   exact Zc rfl
def Znz (r:(Zl×Int)):D:=(D.tup [(D.agg [(D.list true (List.map Zb r.1.ring)),(Zb r.1.top),(Zb r.1.bottom)]),(Zb r.2)])
theorem ZmY {a:Int}:∀r,(ZhG a)=some r→evD ctx 52 [(.d (Zb a))]=some (Znz r):=by
 show ZF _ (fun r rhs=>rhs=some (Znz r)) _
 unfold ZhG
 rw[ZaJ ctx 52 ZCG _ rfl rfl]
 conv=>rhs;whnf
 refine Zj _ ZoB rfl fun x0 hx0=>?_;conv=>rhs;whnf
 refine Zd rfl ?_ ?_<;>conv=>rhs;whnf
 ·refine Zd rfl ?_ ?_<;>conv=>rhs;whnf
  ·exact Zc rfl
  ·refine Zd rfl ?_ ?_
   ·conv=>rhs;whnf
    refine Zk (Zjp Zb (0:Int) a) ?_;conv=>rhs;whnf
    exact Zc rfl
   ·exact ZR
 ·exact Zc rfl
def Zlf (r:Bool):D:=(D.bool r)
theorem Zoh {a:Int}:∀r,(ZdH a)=some r→evD ctx 166 [(.d (Zb a))]=some (Zlf r):=by
 show ZF _ (fun r rhs=>rhs=some (Zlf r)) _
 unfold ZdH
 rw[ZaJ ctx 166 Zyg _ rfl rfl]
 conv=>rhs;whnf
 refine Zd rfl ?_ ?_<;>conv=>rhs;whnf
 ·exact Zc rfl
 ·refine Zd rfl ?_ ?_<;>conv=>rhs;whnf
  ·exact Zc rfl
  ·exact Zc rfl
def Zc2 (r:Int):D:=(Zb r)
def Zcz (t0:Bool) (a:List Int):(Int⊕Unit)→Ex×List V×Zn
  | (.inl r)=>(.ret,[(.d (Zb r))],[])
  | (.inr r)=>(.exit 0,[.bad],[])
theorem ZeU {t0:Bool}{a:List Int}:∀(s0:Int) (r:(Int⊕Unit)),lp (Zw a (fun z0=>ZdH z0)) s0=some r→lpW ctx 0 [0,1,7,8] [4] ZnR [(.d (D.list t0 (List.map Zb a))),(.d (D.fn 166 [])),(.d (Zb (a.length:Int))),(.d (Zb s0))] []=some ((Zcz t0 a) r):=by
 refine ZaR (Zcz t0 a) ?_
 intro s0 rcl ih
 show ZF _ _ (lpW _ _ _ _ _ _ _)
 unfold Zw
 rw[ZaT]
 conv=>rhs;whnf
 refine Zd rfl ?_ ?_<;>conv=>rhs;whnf
 ·refine Zm rfl rfl fun x1 hx1=>?_;conv=>rhs;whnf
  refine Zj _ Zoh rfl fun x2 hx2=>?_;conv=>rhs;whnf
  refine Zd rfl ?_ ?_<;>conv=>rhs;whnf
  ·exact Zc rfl
  ·exact Zf (ih _)
 ·exact Zc rfl
theorem Zfu {t0:Bool}{a:List Int}:∀r,(Zz a (fun z0=>ZdH z0))=some r→evD ctx 94 [(.d (D.list t0 (List.map Zb a))),(.d (D.fn 166 []))]=some (Zc2 r):=by
 show ZF _ (fun r rhs=>rhs=some (Zc2 r)) _
 unfold Zz
 rw[ZaJ ctx 94 Zuf _ rfl rfl]
 conv=>rhs;whnf
 refine Zk (ZE _ _) ?_;conv=>rhs;whnf
 refine Ze _ (ZeU _) fun r3 hr3=>?_
 clear hr3
 rcases r3 with r3 | r3
 ·conv=>rhs;whnf
  exact Zc rfl
 ·conv=>rhs;whnf
  exact Zc rfl
def ZcA (r:Bool):D:=(D.bool r)
theorem ZeT {t0:Bool}{a:List Int}:∀r,(ZC a (fun z0=>ZdH z0))=some r→evD ctx 44 [(.d (D.list t0 (List.map Zb a))),(.d (D.fn 166 []))]=some (ZcA r):=by
 show ZF _ (fun r rhs=>rhs=some (ZcA r)) _
 unfold ZC
 rw[ZaJ ctx 44 Zxg _ rfl rfl]
 conv=>rhs;whnf
 refine Zj _ Zfu rfl fun x0 hx0=>?_;conv=>rhs;whnf
 refine Zd rfl ?_ ?_<;>conv=>rhs;whnf
 ·exact Zc rfl
 ·exact Zc rfl
def Znt (r:Bool):D:=(D.bool r)
theorem ZgC {t0 t1:Bool}{a:ZbU}{b:Int}:∀r,(Ze5 a b)=some r→evD ctx 145 [(.d (D.agg [(D.list t0 (List.map Zb a.on)),(D.list t1 (List.map Zb a.left))])),(.d (Zb b))]=some (Znt r):=by
 show ZF _ (fun r rhs=>rhs=some (Znt r)) _
 unfold Ze5
 rw[ZaJ ctx 145 Zyk _ rfl rfl]
 conv=>rhs;whnf
 refine Zm rfl rfl fun x0 hx0=>?_;conv=>rhs;whnf
 refine Zd rfl ?_ ?_<;>conv=>rhs;whnf
 ·exact Zc rfl
 ·exact Zc rfl
def ZlX (r:Bool):D:=(D.bool r)
theorem Zo7 {t0 t1:Bool}{a:ZG}{b0:Int}{c0:List Int}{c1:List Int}:∀r,(Zfl a b0 c0 c1)=some r→evD ctx 187 [(.d (D.agg [(Zb a.src),(Zb a.dst)])),(.d (D.rptr [(Zb b0)])),(.d (D.rptr [(D.list t0 (List.map Zb c0)),(D.list t1 (List.map Zb c1))]))]=some (ZlX r):=by
 show ZF _ (fun r rhs=>rhs=some (ZlX r)) _
 unfold Zfl
 rw[ZaJ ctx 187 ZxB _ rfl rfl]
 conv=>rhs;whnf
 refine Zd rfl ?_ ?_<;>conv=>rhs;whnf
 ·refine Zj _ ZgC rfl fun x0 hx0=>?_;conv=>rhs;whnf
  refine Zd rfl ?_ ?_<;>conv=>rhs;whnf
  ·exact Zc rfl
  ·exact Zc rfl
 ·exact Zc rfl
def ZcT (r:Int):D:=(Zb r)
def Zcw (t0:Bool) (t1:Bool) (t2:Bool) (a:List ZG) (b0:Int) (b1:List Int) (b2:List Int):(Int⊕Unit)→Ex×List V×Zn
  | (.inl r)=>(.ret,[(.d (Zb r))],[])
  | (.inr r)=>(.exit 0,[.bad],[])
theorem ZeK {t0 t1 t2:Bool}{a:List ZG}{b0:Int}{b1:List Int}{b2:List Int}:∀(s0:Int) (r:(Int⊕Unit)),lp (Zav a (fun z0=>Zfl z0 b0 b1 b2)) s0=some r→lpW ctx 0 [0,1,7,8] [4] ZsY [(.d (D.list t0 (List.map ZH a))),(.d (D.fn 187 [(D.rptr [(Zb b0)]),(D.rptr [(D.list t1 (List.map Zb b1)),(D.list t2 (List.map Zb b2))])])),(.d (Zb (a.length:Int))),(.d (Zb s0))] []=some ((Zcw t0 t1 t2 a b0 b1 b2) r):=by
 refine ZaR (Zcw t0 t1 t2 a b0 b1 b2) ?_
 intro s0 rcl ih
 show ZF _ _ (lpW _ _ _ _ _ _ _)
 unfold Zav
 rw[ZaT]
 conv=>rhs;whnf
 refine Zd rfl ?_ ?_<;>conv=>rhs;whnf
 ·refine Zm rfl rfl fun x1 hx1=>?_;conv=>rhs;whnf
  refine Zj _ Zo7 rfl fun x2 hx2=>?_;conv=>rhs;whnf
  refine Zd rfl ?_ ?_<;>conv=>rhs;whnf
  ·exact Zc rfl
  ·exact Zf (ih _)
 ·exact Zc rfl
theorem Zfj {t0 t1 t2:Bool}{a:List ZG}{b0:Int}{b1:List Int}{b2:List Int}:∀r,(Zbk a (fun z0=>Zfl z0 b0 b1 b2))=some r→evD ctx 171 [(.d (D.list t0 (List.map ZH a))),(.d (D.fn 187 [(D.rptr [(Zb b0)]),(D.rptr [(D.list t1 (List.map Zb b1)),(D.list t2 (List.map Zb b2))])]))]=some (ZcT r):=by
 show ZF _ (fun r rhs=>rhs=some (ZcT r)) _
 unfold Zbk
 rw[ZaJ ctx 171 ZvT _ rfl rfl]
 conv=>rhs;whnf
 refine Zk (ZE _ _) ?_;conv=>rhs;whnf
 refine Ze _ (ZeK _) fun r3 hr3=>?_
 clear hr3
 rcases r3 with r3 | r3
 ·conv=>rhs;whnf
  exact Zc rfl
 ·conv=>rhs;whnf
  exact Zc rfl
def Zcv (r:Bool):D:=(D.bool r)
theorem ZeL {t0 t1 t2:Bool}{a:List ZG}{b0:Int}{b1:List Int}{b2:List Int}:∀r,(Zaf a (fun z0=>Zfl z0 b0 b1 b2))=some r→evD ctx 124 [(.d (D.list t0 (List.map ZH a))),(.d (D.fn 187 [(D.rptr [(Zb b0)]),(D.rptr [(D.list t1 (List.map Zb b1)),(D.list t2 (List.map Zb b2))])]))]=some (Zcv r):=by
 show ZF _ (fun r rhs=>rhs=some (Zcv r)) _
 unfold Zaf
 rw[ZaJ ctx 124 ZwA _ rfl rfl]
 conv=>rhs;whnf
 refine Zj _ Zfj rfl fun x0 hx0=>?_;conv=>rhs;whnf
 refine Zd rfl ?_ ?_<;>conv=>rhs;whnf
 ·exact Zc rfl
 ·exact Zc rfl
def Zns (r:Bool):D:=(D.bool r)
theorem Zjy {t0 t1:Bool}{t2 t3:Bool}{a:ZL}{b:ZbU}{c:Int}:∀r,(Zgy a b c)=some r→evD ctx 159 [(.d (D.agg [(D.list t0 (List.map Zb a.work)),(D.list t1 (List.map ZH a.edges))])),(.d (D.agg [(D.list t2 (List.map Zb b.on)),(D.list t3 (List.map Zb b.left))])),(.d (Zb c))]=some (Zns r):=by
 show ZF _ (fun r rhs=>rhs=some (Zns r)) _
 unfold Zgy
 rw[ZaJ ctx 159 Zz5 _ rfl rfl]
 conv=>rhs;whnf
 refine Zj _ ZeL rfl fun x0 hx0=>?_;conv=>rhs;whnf
 refine Zd rfl ?_ ?_<;>conv=>rhs;whnf
 ·exact Zc rfl
 ·exact Zc rfl
def Zml (r:Bool):D:=(D.bool r)
def Zkk (t0:Bool) (t1:Bool) (t2:Bool) (t3:Bool) (a:ZL) (b:ZbU):(Unit⊕Unit)→Ex×List V×Zn
  | (.inl r)=>(.ret,[(.ptr 0 0),(.ptr 1 0),(.d (D.bool false))],[(.cells [(.d (D.list t0 (List.map Zb a.work))),(.d (D.list t1 (List.map ZH a.edges)))]),(.cells [(.d (D.list t2 (List.map Zb b.on))),(.d (D.list t3 (List.map Zb b.left)))])])
  | (.inr r)=>(.exit 0,[(.ptr 0 0),(.ptr 1 0),.bad],[(.cells [(.d (D.list t0 (List.map Zb a.work))),(.d (D.list t1 (List.map ZH a.edges)))]),(.cells [(.d (D.list t2 (List.map Zb b.on))),(.d (D.list t3 (List.map Zb b.left)))])])
theorem Zn0 {t0 t1:Bool}{t2 t3:Bool}{a:ZL}{b:ZbU}:∀(s1:Int) (r:(Unit⊕Unit)),lp (ZeY a b) s1=some r→lpW ctx 0 [2,3,35,36,37] [2,3,4] ZvX [(.ptr 0 0),(.ptr 1 0),(.d (D.list t2 (List.map Zb b.on))),(.d (Zb (b.on.length:Int))),(.d (Zb s1))] [(.cells [(.d (D.list t0 (List.map Zb a.work))),(.d (D.list t1 (List.map ZH a.edges)))]),(.cells [(.d (D.list t2 (List.map Zb b.on))),(.d (D.list t3 (List.map Zb b.left)))])]=some ((Zkk t0 t1 t2 t3 a b) r):=by
 refine ZaR (Zkk t0 t1 t2 t3 a b) ?_
 intro s1 rcl ih
 show ZF _ _ (lpW _ _ _ _ _ _ _)
 unfold ZeY
 rw[ZaT]
 conv=>rhs;whnf
 refine Zd rfl ?_ ?_<;>conv=>rhs;whnf
 ·refine Zm rfl rfl fun x2 hx2=>?_;conv=>rhs;whnf
  refine Zd rfl ?_ ?_<;>conv=>rhs;whnf
  ·exact Zf (ih _)
  ·refine Zd rfl ?_ ?_<;>conv=>rhs;whnf
   ·exact Zc rfl
   ·refine Zk (ZE _ _) ?_;conv=>rhs;whnf
    refine Zd rfl ?_ ?_<;>conv=>rhs;whnf
    ·exact Zc rfl
    ·refine Zj _ ZgC rfl fun x3 hx3=>?_;conv=>rhs;whnf
     refine Zd rfl ?_ ?_<;>conv=>rhs;whnf
     ·exact Zc rfl
     ·refine Zd rfl ?_ ?_
      ·conv=>rhs;whnf
       refine Zd (ZyL Zb b.on s1.toNat) ?_ ?_
       ·conv=>rhs;whnf
        refine ZcI rfl ?_;conv=>rhs;whnf
        refine Zk (Zs8 Zb b.on s1.toNat) ?_;conv=>rhs;whnf
        refine Zj _ Zas rfl fun x4 hx4=>?_;conv=>rhs;whnf
        refine Zd rfl ?_ ?_<;>conv=>rhs;whnf
        ·exact Zc rfl
        ·refine Zj _ Zjy rfl fun x5 hx5=>?_;conv=>rhs;whnf
         refine Zd rfl ?_ ?_<;>conv=>rhs;whnf
         ·exact Zf (ih _)
         ·exact Zc rfl
       ·exact ZR
      ·exact ZR
 ·exact Zc rfl
def Zkq (t0:Bool) (t1:Bool) (t2:Bool) (t3:Bool) (a:ZL) (b:ZbU):(Unit⊕Unit)→Ex×List V×Zn
  | (.inl r)=>(.ret,[(.d (D.bool false))],[])
  | (.inr r)=>(.exit 2,[.bad],[])
theorem ZnQ {t0 t1:Bool}{t2 t3:Bool}{a:ZL}{b:ZbU}:∀(s7:Int) (r:(Unit⊕Unit)),lp (Ze0 a b) s7=some r→lpW ctx 0 [2,3,76,77] [4] Zvz [(.ptr 0 0),(.ptr 1 0),(.d (Zb (b.left.length:Int))),(.d (Zb s7))] [(.cells [(.d (D.list t0 (List.map Zb a.work))),(.d (D.list t1 (List.map ZH a.edges)))]),(.cells [(.d (D.list t2 (List.map Zb b.on))),(.d (D.list t3 (List.map Zb b.left)))])]=some ((Zkq t0 t1 t2 t3 a b) r):=by
 refine ZaR (Zkq t0 t1 t2 t3 a b) ?_
 intro s7 rcl ih
 show ZF _ _ (lpW _ _ _ _ _ _ _)
 unfold Ze0
 rw[ZaT]
 conv=>rhs;whnf
 refine Zd rfl ?_ ?_<;>conv=>rhs;whnf
 ·refine Zj _ ZgC rfl fun x8 hx8=>?_;conv=>rhs;whnf
  refine Zd rfl ?_ ?_<;>conv=>rhs;whnf
  ·refine Zj _ Zjy rfl fun x9 hx9=>?_;conv=>rhs;whnf
   refine Zd rfl ?_ ?_<;>conv=>rhs;whnf
   ·exact Zf (ih _)
   ·exact Zc rfl
  ·exact Zf (ih _)
 ·exact Zc rfl
theorem ZpN {t0 t1:Bool}{t2 t3:Bool}{a:ZL}{b:ZbU}:∀r,(ZhU a b)=some r→evD ctx 114 [(.d (D.agg [(D.list t0 (List.map Zb a.work)),(D.list t1 (List.map ZH a.edges))])),(.d (D.agg [(D.list t2 (List.map Zb b.on)),(D.list t3 (List.map Zb b.left))]))]=some (Zml r):=by
 show ZF _ (fun r rhs=>rhs=some (Zml r)) _
 unfold ZhU
 rw[ZaJ ctx 114 ZyB _ rfl rfl]
 conv=>rhs;whnf
 refine Zk (ZE _ _) ?_;conv=>rhs;whnf
 refine Zd rfl ?_ ?_<;>conv=>rhs;whnf
 ·exact Zc rfl
 ·refine Zk (ZE _ _) ?_;conv=>rhs;whnf
  refine Zd rfl ?_ ?_<;>conv=>rhs;whnf
  ·exact Zc rfl
  ·refine Zk (ZE _ _) ?_;conv=>rhs;whnf
   refine Zk (ZE _ _) ?_;conv=>rhs;whnf
   refine Zd rfl ?_ ?_<;>conv=>rhs;whnf
   ·exact Zc rfl
   ·refine Zj _ ZeT rfl fun x0 hx0=>?_;conv=>rhs;whnf
    refine Zd rfl ?_ ?_<;>conv=>rhs;whnf
    ·exact Zc rfl
    ·refine Zk (ZE _ _) ?_;conv=>rhs;whnf
     refine Ze _ (Zn0 _) fun r6 hr6=>?_
     clear hr6
     rcases r6 with r6 | r6
     ·conv=>rhs;whnf
      exact Zc rfl
     ·conv=>rhs;whnf
      refine Zk (ZE _ _) ?_;conv=>rhs;whnf
      refine Ze _ (ZnQ _) fun r10 hr10=>?_
      clear hr10
      rcases r10 with r10 | r10
      ·conv=>rhs;whnf
       exact Zc rfl
      ·conv=>rhs;whnf
       exact Zc rfl
def Zmb (r:Int):D:=(Zb r)
theorem ZlR {t0 t1:Bool}{t2 t3:Bool}{a:ZL}{b:ZbU}:∀r,(ZgX a b)=some r→evD ctx 65 [(.d (D.agg [(D.list t0 (List.map Zb a.work)),(D.list t1 (List.map ZH a.edges))])),(.d (D.agg [(D.list t2 (List.map Zb b.on)),(D.list t3 (List.map Zb b.left))]))]=some (Zmb r):=by
 show ZF _ (fun r rhs=>rhs=some (Zmb r)) _
 unfold ZgX
 rw[ZaJ ctx 65 ZCQ _ rfl rfl]
 conv=>rhs;whnf
 refine Zj _ ZjT rfl fun x0 hx0=>?_;conv=>rhs;whnf
 refine Zd rfl ?_ ?_<;>conv=>rhs;whnf
 ·refine Zj _ ZpN rfl fun x1 hx1=>?_;conv=>rhs;whnf
  refine Zd rfl ?_ ?_<;>conv=>rhs;whnf
  ·exact Zc rfl
  ·exact Zc rfl
 ·exact Zc rfl
def Zmk (r:List Int):D:=(D.list true (List.map Zb r))
def Zks (t0:Bool) (t1:Bool) (t2:Bool) (t3:Bool) (a:ZL) (b:ZbU):(List Int)→Ex×List V×Zn
  | r=>(.exit 0,[(.sl 0 1)],[(.arr 1 (List.map Zb r))])
theorem ZnZ {t0 t1:Bool}{t2 t3:Bool}{a:ZL}{b:ZbU}:∀(s0:Int×(List Int)) (r:List Int),lp (ZeW a b) s0=some r→lpW ctx 0 [2,3,5,9,10] [5] Zww [(.ptr 0 0),(.ptr 1 0),(.sl 2 1),(.d (Zb (b.left.length:Int))),(.d (Zb s0.1))] [(.cells [(.d (D.list t0 (List.map Zb a.work))),(.d (D.list t1 (List.map ZH a.edges)))]),(.cells [(.d (D.list t2 (List.map Zb b.on))),(.d (D.list t3 (List.map Zb b.left)))]),(.arr 1 (List.map Zb s0.2))]=some ((Zks t0 t1 t2 t3 a b) r):=by
 refine ZaR (Zks t0 t1 t2 t3 a b) ?_
 intro s0 rcl ih
 show ZF _ _ (lpW _ _ _ _ _ _ _)
 unfold ZeW
 rw[ZaT]
 conv=>rhs;whnf
 refine Zd rfl ?_ ?_<;>conv=>rhs;whnf
 ·refine Zj _ ZgC rfl fun x1 hx1=>?_;conv=>rhs;whnf
  refine Zd rfl ?_ ?_<;>conv=>rhs;whnf
  ·exact Zf (ih _)
  ·refine Zj _ Zas rfl fun x2 hx2=>?_;conv=>rhs;whnf
   refine Zd rfl ?_ ?_<;>conv=>rhs;whnf
   ·exact Zf (ih _)
   ·refine Zj _ Zjy rfl fun x3 hx3=>?_;conv=>rhs;whnf
    refine Zd rfl ?_ ?_<;>conv=>rhs;whnf
    ·refine ZcI rfl ?_;conv=>rhs;whnf
     refine Zd (ZgS Zb s0.2 1) ?_ ?_
     ·conv=>rhs;whnf
      refine Zk (ZgP Zb s0.2 [s0.1]) ?_;conv=>rhs;whnf
      exact Zf (ih _)
     ·exact ZR
    ·exact Zf (ih _)
 ·exact Zc rfl
theorem ZpO {t0 t1:Bool}{t2 t3:Bool}{a:ZL}{b:ZbU}:∀r,(Zjo a b)=some r→evD ctx 104 [(.d (D.agg [(D.list t0 (List.map Zb a.work)),(D.list t1 (List.map ZH a.edges))])),(.d (D.agg [(D.list t2 (List.map Zb b.on)),(D.list t3 (List.map Zb b.left))]))]=some (Zmk r):=by
 show ZF _ (fun r rhs=>rhs=some (Zmk r)) _
 unfold Zjo
 rw[ZaJ ctx 104 Zyq _ rfl rfl]
 conv=>rhs;whnf
 refine Zk (ZE _ _) ?_;conv=>rhs;whnf
 refine Ze _ (ZnZ _) fun r4 hr4=>?_;conv=>rhs;whnf
 exact Zc rfl
def Zmf (r:List Int):D:=(D.list true (List.map Zb r))
theorem Zd0 {t0 t1:Bool}{t2 t3:Bool}{a:ZL}{b:ZbU}:∀r,(ZcP a b)=some r→evD ctx 53 [(.d (D.agg [(D.list t0 (List.map Zb a.work)),(D.list t1 (List.map ZH a.edges))])),(.d (D.agg [(D.list t2 (List.map Zb b.on)),(D.list t3 (List.map Zb b.left))]))]=some (Zmf r):=by
 show ZF _ (fun r rhs=>rhs=some (Zmf r)) _
 unfold ZcP
 rw[ZaJ ctx 53 ZCN _ rfl rfl]
 conv=>rhs;whnf
 refine Zj _ ZlR rfl fun x0 hx0=>?_;conv=>rhs;whnf
 refine Zd rfl ?_ ?_<;>conv=>rhs;whnf
 ·exact Zc rfl
 ·refine Zj _ ZpO rfl fun x1 hx1=>?_;conv=>rhs;whnf
  exact Zc rfl
def ZlW (r:Int):D:=(Zb r)
theorem ZgW {t0:Bool}{a:Zl}:∀r,(Zek a)=some r→evD ctx 115 [(.d (D.agg [(D.list t0 (List.map Zb a.ring)),(Zb a.top),(Zb a.bottom)]))]=some (ZlW r):=by
 show ZF _ (fun r rhs=>rhs=some (ZlW r)) _
 unfold Zek
 rw[ZaJ ctx 115 ZzD _ rfl rfl]
 conv=>rhs;whnf
 refine Zk (ZE _ _) ?_;conv=>rhs;whnf
 refine Zj _ ZoB rfl fun x0 hx0=>?_;conv=>rhs;whnf
 refine Zd rfl ?_ ?_<;>conv=>rhs;whnf
 ·refine Zk (ZE _ _) ?_;conv=>rhs;whnf
  refine Zd rfl ?_ ?_<;>conv=>rhs;whnf
  ·exact Zc rfl
  ·refine Zj _ Zmm rfl fun x1 hx1=>?_;conv=>rhs;whnf
   refine Zd rfl ?_ ?_<;>conv=>rhs;whnf
   ·exact Zc rfl
   ·refine Zd rfl ?_ ?_<;>conv=>rhs;whnf
    ·exact Zc rfl
    ·refine Zk (ZE _ _) ?_;conv=>rhs;whnf
     refine Zd rfl ?_ ?_<;>conv=>rhs;whnf
     ·exact Zc rfl
     ·exact Zc rfl
 ·exact Zc rfl
def Znn (t0:Bool) (a:Zl):Unit→V×Zn
  | r=>((.agg [(.sl 0 1),(.d (Zb a.top)),(.d (Zb a.bottom))]),[(.arr 1 (List.map Zb a.ring))])
theorem Zmw {t0:Bool}{a:Zl}:∀r,(ZhD a)=some r→evW ctx 160 [(.d (D.agg [(D.list t0 (List.map Zb a.ring)),(Zb a.top),(Zb a.bottom)]))] []=some ((Znn t0 a) r):=by
 show ZF _ (fun r rhs=>rhs=some ((Znn t0 a) r)) _
 unfold ZhD
 rw[Zc5 ctx 160 Zzv _ _ rfl rfl]
 conv=>rhs;whnf
 refine Ze _ ZaM fun x0 hx0=>?_;conv=>rhs;whnf
 exact Zc rfl
def ZlZ (r:Int):D:=(Zb r)
theorem ZgV {t0:Bool}{a:Zl}{b:Int}:∀r,(Zej a b)=some r→evD ctx 161 [(.d (D.agg [(D.list t0 (List.map Zb a.ring)),(Zb a.top),(Zb a.bottom)])),(.d (Zb b))]=some (ZlZ r):=by
 show ZF _ (fun r rhs=>rhs=some (ZlZ r)) _
 unfold Zej
 rw[ZaJ ctx 161 ZxY _ rfl rfl]
 conv=>rhs;whnf
 refine Zk (ZE _ _) ?_;conv=>rhs;whnf
 refine Zd rfl ?_ ?_
 ·exact ZR
 ·conv=>rhs;whnf
  exact Zc rfl
def Zmr (r:(Zl×Int)):D:=(D.tup [(D.agg [(D.list true (List.map Zb r.1.ring)),(Zb r.1.top),(Zb r.1.bottom)]),(Zb r.2)])
theorem ZlV {t0:Bool}{a:Zl}{b:Int}:∀r,(Zjm a b)=some r→evD ctx 105 [(.d (D.agg [(D.list t0 (List.map Zb a.ring)),(Zb a.top),(Zb a.bottom)])),(.d (Zb b))]=some (Zmr r):=by
 show ZF _ (fun r rhs=>rhs=some (Zmr r)) _
 unfold Zjm
 rw[ZaJ ctx 105 Zzn _ rfl rfl]
 conv=>rhs;whnf
 refine Zj _ ZgW rfl fun x0 hx0=>?_;conv=>rhs;whnf
 refine Zd rfl ?_ ?_<;>conv=>rhs;whnf
 ·exact Zc rfl
 ·refine Zd rfl ?_ ?_<;>conv=>rhs;whnf
  ·exact Zc rfl
  ·refine Zk (ZE _ _) ?_;conv=>rhs;whnf
   refine Zd rfl ?_ ?_<;>conv=>rhs;whnf
   ·exact Zc rfl
   ·refine Ze _ Zmw fun x1 hx1=>?_;conv=>rhs;whnf
    refine Zj _ ZgV rfl fun x2 hx2=>?_;conv=>rhs;whnf
    refine Zm rfl rfl fun x3 hx3=>?_;conv=>rhs;whnf
    refine Zh (Zq rfl hx3) ?_;conv=>rhs;whnf
    refine Zk (Zak Zb a.ring x2.toNat b) ?_;conv=>rhs;whnf
    exact Zc rfl
def Zi4 (t0:Bool) (t1:Bool) (b:Int) (c:Int) (m0_0:List Int) (m0_1:List ZG) (m0_2:Int) (m3_0:List Zl) (m4_0:List Zt) (m5_0:List Int):((List Zl)⊕(List Zl))→V×Zn
  | (.inl r)=>((.d (D.bool true)),[(.cells [(.sl 1 1),(.sl 2 1),(.sl 3 3),(.sl 4 6),(.sl 5 1),(.d (D.list t0 (List.map Zb m0_0))),(.d (D.list t1 (List.map ZH m0_1))),(.d (Zb m0_2))]),(.arr 1 []),(.arr 1 []),(.arr 3 (List.map ZaD r)),(.arr 6 (List.map ZaP m4_0)),(.arr 1 (List.map Zb m5_0))])
  | (.inr r)=>((.d (D.bool false)),[(.cells [(.sl 1 1),(.sl 2 1),(.sl 3 3),(.sl 4 6),(.sl 5 1),(.d (D.list t0 (List.map Zb m0_0))),(.d (D.list t1 (List.map ZH m0_1))),(.d (Zb m0_2))]),(.arr 1 []),(.arr 1 []),(.arr 3 (List.map ZaD r)),(.arr 6 (List.map ZaP m4_0)),(.arr 1 (List.map Zb m5_0))])
theorem ZmI {t0 t1:Bool}{b c:Int}{m0_0:List Int}{m0_1:List ZG}{m0_2:Int}{m3_0:List Zl}{m4_0:List Zt}{m5_0:List Int}:∀r,(Zca b c m3_0)=some r→evW ctx 54 [(.ptr 0 0),(.d (Zb b)),(.d (Zb c))] [(.cells [(.sl 1 1),(.sl 2 1),(.sl 3 3),(.sl 4 6),(.sl 5 1),(.d (D.list t0 (List.map Zb m0_0))),(.d (D.list t1 (List.map ZH m0_1))),(.d (Zb m0_2))]),(.arr 1 []),(.arr 1 []),(.arr 3 (List.map ZaD m3_0)),(.arr 6 (List.map ZaP m4_0)),(.arr 1 (List.map Zb m5_0))]=some ((Zi4 t0 t1 b c m0_0 m0_1 m0_2 m3_0 m4_0 m5_0) r):=by
 show ZF _ (fun r rhs=>rhs=some ((Zi4 t0 t1 b c m0_0 m0_1 m0_2 m3_0 m4_0 m5_0) r)) _
 unfold Zca
 rw[Zc5 ctx 54 ZAz _ _ rfl rfl]
 conv=>rhs;whnf
 refine Zm rfl rfl fun x0 hx0=>?_;conv=>rhs;whnf
 refine Zh (Zq rfl hx0) ?_;conv=>rhs;whnf
 refine Zj _ ZlV rfl fun x1 hx1=>?_;conv=>rhs;whnf
 refine Zd rfl ?_ ?_<;>conv=>rhs;whnf
 ·refine Zh (Zbe rfl hx0) ?_;conv=>rhs;whnf
  refine Zh (Zq rfl hx0) ?_;conv=>rhs;whnf
  refine Zk (Zak ZaD m3_0 b.toNat x1.1) ?_;conv=>rhs;whnf
  refine Zd rfl ?_ ?_<;>conv=>rhs;whnf
  ·exact Zc rfl
  ·exact Zc rfl
 ·refine Zd rfl ?_ ?_<;>conv=>rhs;whnf
  ·exact Zc rfl
  ·exact Zc rfl
def ZhO (t0:Bool) (t1:Bool) (b:Int) (c:Int) (m0_0:List Int) (m0_1:List ZG) (m0_2:Int) (m1_0:List Int) (m2_0:List Int) (m3_0:List Zl) (m4_0:List Zt) (m5_0:List Int):((List Zl)⊕(List Zl))→V×Zn
  | (.inl r)=>((.d (D.bool true)),[(.cells [(.sl 1 1),(.sl 2 1),(.sl 3 3),(.sl 4 6),(.sl 5 1),(.d (D.list t0 (List.map Zb m0_0))),(.d (D.list t1 (List.map ZH m0_1))),(.d (Zb m0_2))]),(.arr 1 (List.map Zb m1_0)),(.arr 1 (List.map Zb m2_0)),(.arr 3 (List.map ZaD r)),(.arr 6 (List.map ZaP m4_0)),(.arr 1 (List.map Zb m5_0))])
  | (.inr r)=>((.d (D.bool false)),[(.cells [(.sl 1 1),(.sl 2 1),(.sl 3 3),(.sl 4 6),(.sl 5 1),(.d (D.list t0 (List.map Zb m0_0))),(.d (D.list t1 (List.map ZH m0_1))),(.d (Zb m0_2))]),(.arr 1 (List.map Zb m1_0)),(.arr 1 (List.map Zb m2_0)),(.arr 3 (List.map ZaD r)),(.arr 6 (List.map ZaP m4_0)),(.arr 1 (List.map Zb m5_0))])
theorem Zhz {t0 t1:Bool}{b c:Int}{m0_0:List Int}{m0_1:List ZG}{m0_2:Int}{m1_0:List Int}{m2_0:List Int}{m3_0:List Zl}{m4_0:List Zt}{m5_0:List Int}:∀r,(Zca b c m3_0)=some r→evW ctx 54 [(.ptr 0 0),(.d (Zb b)),(.d (Zb c))] [(.cells [(.sl 1 1),(.sl 2 1),(.sl 3 3),(.sl 4 6),(.sl 5 1),(.d (D.list t0 (List.map Zb m0_0))),(.d (D.list t1 (List.map ZH m0_1))),(.d (Zb m0_2))]),(.arr 1 (List.map Zb m1_0)),(.arr 1 (List.map Zb m2_0)),(.arr 3 (List.map ZaD m3_0)),(.arr 6 (List.map ZaP m4_0)),(.arr 1 (List.map Zb m5_0))]=some ((ZhO t0 t1 b c m0_0 m0_1 m0_2 m1_0 m2_0 m3_0 m4_0 m5_0) r):=by
 show ZF _ (fun r rhs=>rhs=some ((ZhO t0 t1 b c m0_0 m0_1 m0_2 m1_0 m2_0 m3_0 m4_0 m5_0) r)) _
 unfold Zca
 rw[Zc5 ctx 54 ZAz _ _ rfl rfl]
 conv=>rhs;whnf
 refine Zm rfl rfl fun x0 hx0=>?_;conv=>rhs;whnf
 refine Zh (Zq rfl hx0) ?_;conv=>rhs;whnf
 refine Zj _ ZlV rfl fun x1 hx1=>?_;conv=>rhs;whnf
 refine Zd rfl ?_ ?_<;>conv=>rhs;whnf
 ·refine Zh (Zbe rfl hx0) ?_;conv=>rhs;whnf
  refine Zh (Zq rfl hx0) ?_;conv=>rhs;whnf
  refine Zk (Zak ZaD m3_0 b.toNat x1.1) ?_;conv=>rhs;whnf
  refine Zd rfl ?_ ?_<;>conv=>rhs;whnf
  ·exact Zc rfl
  ·exact Zc rfl
 ·refine Zd rfl ?_ ?_<;>conv=>rhs;whnf
  ·exact Zc rfl
  ·exact Zc rfl
def ZnG (t0:Bool) (t1:Bool) (t2:Bool) (a:ZL) (b:List Int) (c:Int):(Int⊕((List Zl)⊕((List Int)×(List Zl))))→V×Zn
  | (.inl r)=>((.tup [(.agg [(.nilsl 1),(.nilsl 1),(.nilsl 3),(.nilsl 6),(.nilsl 1)]),(.d (Zb r))]),[])
  | (.inr (.inl r))=>((.tup [(.agg [(.sl 0 1),(.sl 1 1),(.sl 2 3),(.sl 3 6),(.sl 4 1)]),(.d (Zb 0))]),[(.arr 1 []),(.arr 1 []),(.arr 3 (List.map ZaD r)),(.arr 6 (List.map ZaP (List.replicate c.toNat ((Zt.mk false 0 0 0 0 0):Zt)))),(.arr 1 (List.map Zb (List.replicate c.toNat (0:Int))))])
  | (.inr (.inr r))=>((.tup [(.agg [(.sl 0 1),(.sl 1 1),(.sl 2 3),(.sl 3 6),(.sl 4 1)]),(.d (Zb 0))]),[(.arr 1 (List.map Zb r.1)),(.arr 1 (List.map Zb b)),(.arr 3 (List.map ZaD r.2)),(.arr 6 (List.map ZaP (List.replicate c.toNat ((Zt.mk false 0 0 0 0 0):Zt)))),(.arr 1 (List.map Zb (List.replicate c.toNat (0:Int))))])
def Zk5 (t0:Bool) (t1:Bool) (a:ZL) (c:Int):(List Zl)→Ex×List V×Zn
  | r=>(.exit 0,[(.d (Zb c)),(.ptr 0 0),(.ptr 1 0),(.ptr 2 0),(.ptr 3 0)],[(.cells [(.d (D.list t0 (List.map Zb a.work))),(.d (D.list t1 (List.map ZH a.edges)))]),(.cells [(.sl 4 1),(.sl 5 1),(.sl 6 3),(.sl 7 6),(.sl 8 1)]),(.cells [(.sl 9 1),(.sl 10 1)]),(.cells [(.sl 11 1),(.sl 12 1),(.sl 13 3),(.sl 14 6),(.sl 15 1),(.d (D.list t0 (List.map Zb a.work))),(.d (D.list t1 (List.map ZH a.edges))),(.d (Zb 0))]),(.arr 1 []),(.arr 1 []),(.arr 3 []),(.arr 6 []),(.arr 1 []),(.arr 1 []),(.arr 1 []),(.arr 1 []),(.arr 1 []),(.arr 3 (List.map ZaD r)),(.arr 6 (List.map ZaP (List.replicate c.toNat ((Zt.mk false 0 0 0 0 0):Zt)))),(.arr 1 (List.map Zb (List.replicate c.toNat (0:Int))))])
theorem Zom {t0 t1:Bool}{a:ZL}{c:Int}:∀(s1:Int×(List Zl)) (r:List Zl),lp (ZjS c) s1=some r→lpW ctx 0 [2,3,6,8,10,35,36] [2,3,6,8,10] ZuA [(.d (Zb c)),(.ptr 0 0),(.ptr 1 0),(.ptr 2 0),(.ptr 3 0),(.d (Zb c)),(.d (Zb s1.1))] [(.cells [(.d (D.list t0 (List.map Zb a.work))),(.d (D.list t1 (List.map ZH a.edges)))]),(.cells [(.sl 4 1),(.sl 5 1),(.sl 6 3),(.sl 7 6),(.sl 8 1)]),(.cells [(.sl 9 1),(.sl 10 1)]),(.cells [(.sl 11 1),(.sl 12 1),(.sl 13 3),(.sl 14 6),(.sl 15 1),(.d (D.list t0 (List.map Zb a.work))),(.d (D.list t1 (List.map ZH a.edges))),(.d (Zb 0))]),(.arr 1 []),(.arr 1 []),(.arr 3 []),(.arr 6 []),(.arr 1 []),(.arr 1 []),(.arr 1 []),(.arr 1 []),(.arr 1 []),(.arr 3 (List.map ZaD s1.2)),(.arr 6 (List.map ZaP (List.replicate c.toNat ((Zt.mk false 0 0 0 0 0):Zt)))),(.arr 1 (List.map Zb (List.replicate c.toNat (0:Int))))]=some ((Zk5 t0 t1 a c) r):=by
 refine ZaR (Zk5 t0 t1 a c) ?_
 intro s1 rcl ih
 show ZF _ _ (lpW _ _ _ _ _ _ _)
 unfold ZjS
 rw[ZaT]
 conv=>rhs;whnf
 refine Zd rfl ?_ ?_<;>conv=>rhs;whnf
 ·refine Zj _ ZmY rfl fun x2 hx2=>?_;conv=>rhs;whnf
  refine ZcI rfl ?_;conv=>rhs;whnf
  refine Zd (ZgS ZaD s1.2 1) ?_ ?_
  ·conv=>rhs;whnf
   refine Zk (ZgP ZaD s1.2 [x2.1]) ?_;conv=>rhs;whnf
   exact Zf (ih _)
  ·exact ZR
 ·exact Zc rfl
def Zk1 (t0:Bool) (t1:Bool) (a:ZL) (c:Int) (x4:List Int):(List Zl)→Ex×List V×Zn
  | r=>(.exit 2,[(.ptr 0 0),(.ptr 1 0)],[(.cells [(.sl 2 1),(.sl 3 1),(.sl 4 3),(.sl 5 6),(.sl 6 1)]),(.cells [(.sl 7 1),(.sl 8 1),(.sl 9 3),(.sl 10 6),(.sl 11 1),(.d (D.list t0 (List.map Zb a.work))),(.d (D.list t1 (List.map ZH a.edges))),(.d (Zb 0))]),(.arr 1 []),(.arr 1 []),(.arr 3 []),(.arr 6 []),(.arr 1 []),(.arr 1 []),(.arr 1 []),(.arr 3 (List.map ZaD r)),(.arr 6 (List.map ZaP (List.replicate c.toNat ((Zt.mk false 0 0 0 0 0):Zt)))),(.arr 1 (List.map Zb (List.replicate c.toNat (0:Int))))])
theorem Zoj {t0 t1:Bool}{a:ZL}{c:Int}{x4:List Int}:∀(s5:Int×(List Zl)) (r:List Zl),lp (ZjM c x4) s5=some r→lpW ctx 0 [2,6,10,57,58,59] [6,10] ZuQ [(.d (Zb c)),(.ptr 0 0),(.ptr 1 0),(.d (D.list true (List.map Zb x4))),(.d (Zb (x4.length:Int))),(.d (Zb s5.1))] [(.cells [(.sl 2 1),(.sl 3 1),(.sl 4 3),(.sl 5 6),(.sl 6 1)]),(.cells [(.sl 7 1),(.sl 8 1),(.sl 9 3),(.sl 10 6),(.sl 11 1),(.d (D.list t0 (List.map Zb a.work))),(.d (D.list t1 (List.map ZH a.edges))),(.d (Zb 0))]),(.arr 1 []),(.arr 1 []),(.arr 3 []),(.arr 6 []),(.arr 1 []),(.arr 1 []),(.arr 1 []),(.arr 3 (List.map ZaD s5.2)),(.arr 6 (List.map ZaP (List.replicate c.toNat ((Zt.mk false 0 0 0 0 0):Zt)))),(.arr 1 (List.map Zb (List.replicate c.toNat (0:Int))))]=some ((Zk1 t0 t1 a c x4) r):=by
 refine ZaR (Zk1 t0 t1 a c x4) ?_
 intro s5 rcl ih
 show ZF _ _ (lpW _ _ _ _ _ _ _)
 unfold ZjM
 rw[ZaT]
 conv=>rhs;whnf
 refine Zd rfl ?_ ?_<;>conv=>rhs;whnf
 ·refine Zm rfl rfl fun x6 hx6=>?_;conv=>rhs;whnf
  refine Zd rfl ?_ ?_
  ·exact ZR
  ·conv=>rhs;whnf
   refine Ze _ ZmI fun x7 hx7=>?_
   clear hx7
   rcases x7 with x7 | x7
   ·conv=>rhs;whnf
    exact Zf (ih _)
   ·conv=>rhs;whnf
    exact Zf (ih _)
 ·exact Zc rfl
def Zj7 (t0:Bool) (t1:Bool) (a:ZL) (b:List Int) (c:Int) (x0:List Int):(List Zl)→Ex×List V×Zn
  | r=>(.exit 0,[(.d (Zb c)),(.ptr 0 0),(.ptr 1 0),(.ptr 2 0),(.ptr 3 0)],[(.cells [(.d (D.list t0 (List.map Zb a.work))),(.d (D.list t1 (List.map ZH a.edges)))]),(.cells [(.sl 4 1),(.sl 5 1),(.sl 6 3),(.sl 7 6),(.sl 8 1)]),(.cells [(.sl 9 1),(.sl 10 1)]),(.cells [(.sl 9 1),(.sl 10 1),(.sl 11 3),(.sl 12 6),(.sl 13 1),(.d (D.list t0 (List.map Zb a.work))),(.d (D.list t1 (List.map ZH a.edges))),(.d (Zb 0))]),(.arr 1 []),(.arr 1 []),(.arr 3 []),(.arr 6 []),(.arr 1 []),(.arr 1 (List.map Zb x0)),(.arr 1 (List.map Zb b)),(.arr 3 (List.map ZaD r)),(.arr 6 (List.map ZaP (List.replicate c.toNat ((Zt.mk false 0 0 0 0 0):Zt)))),(.arr 1 (List.map Zb (List.replicate c.toNat (0:Int))))])
theorem Znl {t0 t1:Bool}{a:ZL}{b:List Int}{c:Int}{x0:List Int}:∀(s9:Int×(List Zl)) (r:List Zl),lp (Zdv c) s9=some r→lpW ctx 0 [2,3,6,8,10,35,36] [2,3,6,8,10] ZuA [(.d (Zb c)),(.ptr 0 0),(.ptr 1 0),(.ptr 2 0),(.ptr 3 0),(.d (Zb c)),(.d (Zb s9.1))] [(.cells [(.d (D.list t0 (List.map Zb a.work))),(.d (D.list t1 (List.map ZH a.edges)))]),(.cells [(.sl 4 1),(.sl 5 1),(.sl 6 3),(.sl 7 6),(.sl 8 1)]),(.cells [(.sl 9 1),(.sl 10 1)]),(.cells [(.sl 9 1),(.sl 10 1),(.sl 11 3),(.sl 12 6),(.sl 13 1),(.d (D.list t0 (List.map Zb a.work))),(.d (D.list t1 (List.map ZH a.edges))),(.d (Zb 0))]),(.arr 1 []),(.arr 1 []),(.arr 3 []),(.arr 6 []),(.arr 1 []),(.arr 1 (List.map Zb x0)),(.arr 1 (List.map Zb b)),(.arr 3 (List.map ZaD s9.2)),(.arr 6 (List.map ZaP (List.replicate c.toNat ((Zt.mk false 0 0 0 0 0):Zt)))),(.arr 1 (List.map Zb (List.replicate c.toNat (0:Int))))]=some ((Zj7 t0 t1 a b c x0) r):=by
 refine ZaR (Zj7 t0 t1 a b c x0) ?_
 intro s9 rcl ih
 show ZF _ _ (lpW _ _ _ _ _ _ _)
 unfold Zdv
 rw[ZaT]
 conv=>rhs;whnf
 refine Zd rfl ?_ ?_<;>conv=>rhs;whnf
 ·refine Zj _ ZmY rfl fun x10 hx10=>?_;conv=>rhs;whnf
  refine ZcI rfl ?_;conv=>rhs;whnf
  refine Zd (ZgS ZaD s9.2 1) ?_ ?_
  ·conv=>rhs;whnf
   refine Zk (ZgP ZaD s9.2 [x10.1]) ?_;conv=>rhs;whnf
   exact Zf (ih _)
  ·exact ZR
 ·exact Zc rfl
def ZjY (t0:Bool) (t1:Bool) (a:ZL) (b:List Int) (c:Int) (x0:List Int) (x12:List Int):(List Zl)→Ex×List V×Zn
  | r=>(.exit 2,[(.ptr 0 0),(.ptr 1 0)],[(.cells [(.sl 2 1),(.sl 3 1),(.sl 4 3),(.sl 5 6),(.sl 6 1)]),(.cells [(.sl 7 1),(.sl 8 1),(.sl 9 3),(.sl 10 6),(.sl 11 1),(.d (D.list t0 (List.map Zb a.work))),(.d (D.list t1 (List.map ZH a.edges))),(.d (Zb 0))]),(.arr 1 []),(.arr 1 []),(.arr 3 []),(.arr 6 []),(.arr 1 []),(.arr 1 (List.map Zb x0)),(.arr 1 (List.map Zb b)),(.arr 3 (List.map ZaD r)),(.arr 6 (List.map ZaP (List.replicate c.toNat ((Zt.mk false 0 0 0 0 0):Zt)))),(.arr 1 (List.map Zb (List.replicate c.toNat (0:Int))))])
theorem Zne {t0 t1:Bool}{a:ZL}{b:List Int}{c:Int}{x0:List Int}{x12:List Int}:∀(s13:Int×(List Zl)) (r:List Zl),lp (Zdr c x12) s13=some r→lpW ctx 0 [2,6,10,57,58,59] [6,10] ZuQ [(.d (Zb c)),(.ptr 0 0),(.ptr 1 0),(.d (D.list true (List.map Zb x12))),(.d (Zb (x12.length:Int))),(.d (Zb s13.1))] [(.cells [(.sl 2 1),(.sl 3 1),(.sl 4 3),(.sl 5 6),(.sl 6 1)]),(.cells [(.sl 7 1),(.sl 8 1),(.sl 9 3),(.sl 10 6),(.sl 11 1),(.d (D.list t0 (List.map Zb a.work))),(.d (D.list t1 (List.map ZH a.edges))),(.d (Zb 0))]),(.arr 1 []),(.arr 1 []),(.arr 3 []),(.arr 6 []),(.arr 1 []),(.arr 1 (List.map Zb x0)),(.arr 1 (List.map Zb b)),(.arr 3 (List.map ZaD s13.2)),(.arr 6 (List.map ZaP (List.replicate c.toNat ((Zt.mk false 0 0 0 0 0):Zt)))),(.arr 1 (List.map Zb (List.replicate c.toNat (0:Int))))]=some ((ZjY t0 t1 a b c x0 x12) r):=by
 refine ZaR (ZjY t0 t1 a b c x0 x12) ?_
 intro s13 rcl ih
 show ZF _ _ (lpW _ _ _ _ _ _ _)
 unfold Zdr
 rw[ZaT]
 conv=>rhs;whnf
 refine Zd rfl ?_ ?_<;>conv=>rhs;whnf
 ·refine Zm rfl rfl fun x14 hx14=>?_;conv=>rhs;whnf
  refine Zd rfl ?_ ?_
  ·exact ZR
  ·conv=>rhs;whnf
   refine Ze _ Zhz fun x15 hx15=>?_
   clear hx15
   rcases x15 with x15 | x15
   ·conv=>rhs;whnf
    exact Zf (ih _)
   ·conv=>rhs;whnf
    exact Zf (ih _)
 ·exact Zc rfl
theorem Zqq {t0 t1 t2:Bool}{a:ZL}{b:List Int}{c:Int}:∀r,(ZgJ a b c)=some r→evW ctx 16 [(.d (D.agg [(D.list t0 (List.map Zb a.work)),(D.list t1 (List.map ZH a.edges))])),(.d (D.list t2 (List.map Zb b))),(.d (Zb c))] []=some ((ZnG t0 t1 t2 a b c) r):=by
 show ZF _ (fun r rhs=>rhs=some ((ZnG t0 t1 t2 a b c) r)) _
 unfold ZgJ
 rw[Zc5 ctx 16 ZCH _ _ rfl rfl]
 conv=>rhs;whnf
 refine Ze _ Zrw fun x0 hx0=>?_
 clear hx0
 rcases x0 with x0 | x0
 ·conv=>rhs;whnf
  refine Zd rfl ?_ ?_<;>conv=>rhs;whnf
  ·exact Zc rfl
  ·refine Zd rfl ?_ ?_
   ·conv=>rhs;whnf
    refine Zk (Zjp ZaP ((Zt.mk false 0 0 0 0 0):Zt) c) ?_;conv=>rhs;whnf
    refine Zd rfl ?_ ?_
    ·conv=>rhs;whnf
     refine Zk (Zjp Zb (0:Int) c) ?_;conv=>rhs;whnf
     refine Ze _ (Zom _) fun r3 hr3=>?_;conv=>rhs;whnf
     refine Zj _ Zd0 rfl fun x4 hx4=>?_;conv=>rhs;whnf
     refine Zk (ZE _ _) ?_;conv=>rhs;whnf
     refine Ze _ (Zoj _) fun r8 hr8=>?_;conv=>rhs;whnf
     exact Zc rfl
    ·exact ZR
   ·exact ZR
 ·conv=>rhs;whnf
  refine Zam rfl ?_;conv=>rhs;whnf
  refine Zd rfl ?_ ?_
  ·conv=>rhs;whnf
   refine Zk (Zjp ZaP ((Zt.mk false 0 0 0 0 0):Zt) c) ?_;conv=>rhs;whnf
   refine Zd rfl ?_ ?_
   ·conv=>rhs;whnf
    refine Zk (Zjp Zb (0:Int) c) ?_;conv=>rhs;whnf
    refine Ze _ (Znl _) fun r11 hr11=>?_;conv=>rhs;whnf
    refine Zj _ Zd0 rfl fun x12 hx12=>?_;conv=>rhs;whnf
    refine Zk (ZE _ _) ?_;conv=>rhs;whnf
    refine Ze _ (Zne _) fun r16 hr16=>?_;conv=>rhs;whnf
    exact Zc rfl
   ·exact ZR
  ·exact ZR
def ZhL (r:Bool):D:=(D.bool r)
theorem ZkW {t0:Bool}{a:Zl}:∀r,(Zbx a)=some r→evD ctx 112 [(.d (D.agg [(D.list t0 (List.map Zb a.ring)),(Zb a.top),(Zb a.bottom)]))]=some (ZhL r):=by
 show ZF _ (fun r rhs=>rhs=some (ZhL r)) _
 unfold Zbx
 rw[ZaJ ctx 112 ZzP _ rfl rfl]
 conv=>rhs;whnf
 refine Zd rfl ?_ ?_<;>conv=>rhs;whnf
 ·exact Zc rfl
 ·exact Zc rfl
def Zb4 (r:Int):D:=(Zb r)
def ZbR (t0:Bool) (a:List Zl):(Int⊕Unit)→Ex×List V×Zn
  | (.inl r)=>(.ret,[(.d (Zb r))],[])
  | (.inr r)=>(.exit 0,[.bad],[])
theorem Zdw {t0:Bool}{a:List Zl}:∀(s0:Int) (r:(Int⊕Unit)),lp (Zbi a (fun z0=>Zbx z0)) s0=some r→lpW ctx 0 [0,1,7,8] [4] Zws [(.d (D.list t0 (List.map ZaD a))),(.d (D.fn 112 [])),(.d (Zb (a.length:Int))),(.d (Zb s0))] []=some ((ZbR t0 a) r):=by
 refine ZaR (ZbR t0 a) ?_
 intro s0 rcl ih
 show ZF _ _ (lpW _ _ _ _ _ _ _)
 unfold Zbi
 rw[ZaT]
 conv=>rhs;whnf
 refine Zd rfl ?_ ?_<;>conv=>rhs;whnf
 ·refine Zm rfl rfl fun x1 hx1=>?_;conv=>rhs;whnf
  refine Zj _ ZkW rfl fun x2 hx2=>?_;conv=>rhs;whnf
  refine Zd rfl ?_ ?_<;>conv=>rhs;whnf
  ·exact Zc rfl
  ·exact Zf (ih _)
 ·exact Zc rfl
theorem ZdR {t0:Bool}{a:List Zl}:∀r,(Zb6 a (fun z0=>Zbx z0))=some r→evD ctx 165 [(.d (D.list t0 (List.map ZaD a))),(.d (D.fn 112 []))]=some (Zb4 r):=by
 show ZF _ (fun r rhs=>rhs=some (Zb4 r)) _
 unfold Zb6
 rw[ZaJ ctx 165 Zx9 _ rfl rfl]
 conv=>rhs;whnf
 refine Zk (ZE _ _) ?_;conv=>rhs;whnf
 refine Ze _ (Zdw _) fun r3 hr3=>?_
 clear hr3
 rcases r3 with r3 | r3
 ·conv=>rhs;whnf
  exact Zc rfl
 ·conv=>rhs;whnf
  exact Zc rfl
def ZbP (r:Bool):D:=(D.bool r)
theorem ZbL {t0:Bool}{a:List Zl}:∀r,(ZaH a (fun z0=>Zbx z0))=some r→evD ctx 111 [(.d (D.list t0 (List.map ZaD a))),(.d (D.fn 112 []))]=some (ZbP r):=by
 show ZF _ (fun r rhs=>rhs=some (ZbP r)) _
 unfold ZaH
 rw[ZaJ ctx 111 ZxC _ rfl rfl]
 conv=>rhs;whnf
 refine Zj _ ZdR rfl fun x0 hx0=>?_;conv=>rhs;whnf
 refine Zd rfl ?_ ?_<;>conv=>rhs;whnf
 ·exact Zc rfl
 ·exact Zc rfl
def ZiB (r:List Int):D:=(D.list true (List.map Zb r))
def Zhx (t0:Bool) (t1:Bool) (t2:Bool) (t3:Bool) (t4:Bool) (t5:Bool) (t6:Bool) (a0:List Int) (a1:List Int) (a2:List Zl) (a3:List Zt) (a4:List Int) (a5:List Int) (a6:List ZG) (a7:Int):(List Int)→Ex×List V×Zn
  | r=>(.exit 0,[(.sl 0 1)],[(.arr 1 (List.map Zb r))])
theorem Zkw {t0 t1:Bool}{t2 t3:Bool}{t4 t5 t6:Bool}{a0:List Int}{a1:List Int}{a2:List Zl}{a3:List Zt}{a4:List Int}{a5:List Int}{a6:List ZG}{a7:Int}:∀(s1:Int×(List Int)) (r:List Int),lp (ZcC a0) s1=some r→lpW ctx 0 [0,3,4,18,19,20] [4] ZqH [(.d (D.rptr [(D.list t0 (List.map Zb a0)),(D.list t1 (List.map Zb a1)),(D.list t2 (List.map ZaD a2)),(D.list t3 (List.map ZaP a3)),(D.list t4 (List.map Zb a4)),(D.list t5 (List.map Zb a5)),(D.list t6 (List.map ZH a6)),(Zb a7)])),(.d (D.bool true)),(.sl 0 1),(.d (D.list t0 (List.map Zb a0))),(.d (Zb (a0.length:Int))),(.d (Zb s1.1))] [(.arr 1 (List.map Zb s1.2))]=some ((Zhx t0 t1 t2 t3 t4 t5 t6 a0 a1 a2 a3 a4 a5 a6 a7) r):=by
 refine ZaR (Zhx t0 t1 t2 t3 t4 t5 t6 a0 a1 a2 a3 a4 a5 a6 a7) ?_
 intro s1 rcl ih
 show ZF _ _ (lpW _ _ _ _ _ _ _)
 unfold ZcC
 rw[ZaT]
 conv=>rhs;whnf
 refine Zd rfl ?_ ?_<;>conv=>rhs;whnf
 ·refine Zm rfl rfl fun x2 hx2=>?_;conv=>rhs;whnf
  refine Zd rfl ?_ ?_<;>conv=>rhs;whnf
  ·refine ZcI rfl ?_;conv=>rhs;whnf
   refine Zd (ZgS Zb s1.2 1) ?_ ?_
   ·conv=>rhs;whnf
    refine Zk (ZgP Zb s1.2 [s1.1]) ?_;conv=>rhs;whnf
    exact Zf (ih _)
   ·exact ZR
  ·exact Zf (ih _)
 ·exact Zc rfl
def Zg4 (t0:Bool) (t1:Bool) (t2:Bool) (t3:Bool) (t4:Bool) (t5:Bool) (t6:Bool) (a0:List Int) (a1:List Int) (a2:List Zl) (a3:List Zt) (a4:List Int) (a5:List Int) (a6:List ZG) (a7:Int):(List Int)→Ex×List V×Zn
  | r=>(.exit 0,[(.sl 0 1)],[(.arr 1 (List.map Zb r))])
theorem Zj6 {t0 t1:Bool}{t2 t3:Bool}{t4 t5 t6:Bool}{a0:List Int}{a1:List Int}{a2:List Zl}{a3:List Zt}{a4:List Int}{a5:List Int}{a6:List ZG}{a7:Int}:∀(s4:Int×(List Int)) (r:List Int),lp (Zce a0 a3) s4=some r→lpW ctx 0 [0,3,4,18,19,20] [4] ZqH [(.d (D.rptr [(D.list t0 (List.map Zb a0)),(D.list t1 (List.map Zb a1)),(D.list t2 (List.map ZaD a2)),(D.list t3 (List.map ZaP a3)),(D.list t4 (List.map Zb a4)),(D.list t5 (List.map Zb a5)),(D.list t6 (List.map ZH a6)),(Zb a7)])),(.d (D.bool false)),(.sl 0 1),(.d (D.list t0 (List.map Zb a0))),(.d (Zb (a0.length:Int))),(.d (Zb s4.1))] [(.arr 1 (List.map Zb s4.2))]=some ((Zg4 t0 t1 t2 t3 t4 t5 t6 a0 a1 a2 a3 a4 a5 a6 a7) r):=by
 refine ZaR (Zg4 t0 t1 t2 t3 t4 t5 t6 a0 a1 a2 a3 a4 a5 a6 a7) ?_
 intro s4 rcl ih
 show ZF _ _ (lpW _ _ _ _ _ _ _)
 unfold Zce
 rw[ZaT]
 conv=>rhs;whnf
 refine Zd rfl ?_ ?_<;>conv=>rhs;whnf
 ·refine Zm rfl rfl fun x5 hx5=>?_;conv=>rhs;whnf
  refine Zd rfl ?_ ?_<;>conv=>rhs;whnf
  ·refine Zm rfl rfl fun x6 hx6=>?_;conv=>rhs;whnf
   refine Zd rfl ?_ ?_<;>conv=>rhs;whnf
   ·refine ZcI rfl ?_;conv=>rhs;whnf
    refine Zd (ZgS Zb s4.2 1) ?_ ?_
    ·conv=>rhs;whnf
     refine Zk (ZgP Zb s4.2 [s4.1]) ?_;conv=>rhs;whnf
     exact Zf (ih _)
    ·exact ZR
   ·exact Zf (ih _)
  ·exact Zf (ih _)
 ·exact Zc rfl
theorem Zic {t0 t1:Bool}{t2 t3:Bool}{t4 t5 t6:Bool}{a0:List Int}{a1:List Int}{a2:List Zl}{a3:List Zt}{a4:List Int}{a5:List Int}{a6:List ZG}{a7:Int}:∀r,(Zdu a0 a2 a3)=some r→evD ctx 63 [(.d (D.rptr [(D.list t0 (List.map Zb a0)),(D.list t1 (List.map Zb a1)),(D.list t2 (List.map ZaD a2)),(D.list t3 (List.map ZaP a3)),(D.list t4 (List.map Zb a4)),(D.list t5 (List.map Zb a5)),(D.list t6 (List.map ZH a6)),(Zb a7)]))]=some (ZiB r):=by
 show ZF _ (fun r rhs=>rhs=some (ZiB r)) _
 unfold Zdu
 rw[ZaJ ctx 63 ZAH _ rfl rfl]
 conv=>rhs;whnf
 refine Zj _ ZbL rfl fun x0 hx0=>?_;conv=>rhs;whnf
 refine Zd rfl ?_ ?_<;>conv=>rhs;whnf
 ·refine Zk (ZE _ _) ?_;conv=>rhs;whnf
  refine Ze _ (Zkw _) fun r3 hr3=>?_;conv=>rhs;whnf
  exact Zc rfl
 ·refine Zk (ZE _ _) ?_;conv=>rhs;whnf
  refine Ze _ (Zj6 _) fun r7 hr7=>?_;conv=>rhs;whnf
  exact Zc rfl
def Zid (r:Bool):D:=(D.bool r)
theorem Zll {t0 t1:Bool}{t2 t3:Bool}{t4 t5 t6:Bool}{a:Int}{b0:List Int}{b1:List Int}{b2:List Zl}{b3:List Zt}{b4:List Int}{b5:List Int}{b6:List ZG}{b7:Int}:∀r,(Zb5 a b7)=some r→evD ctx 147 [(.d (Zb a)),(.d (D.rptr [(D.rptr [(D.list t0 (List.map Zb b0)),(D.list t1 (List.map Zb b1)),(D.list t2 (List.map ZaD b2)),(D.list t3 (List.map ZaP b3)),(D.list t4 (List.map Zb b4)),(D.list t5 (List.map Zb b5)),(D.list t6 (List.map ZH b6)),(Zb b7)])]))]=some (Zid r):=by
 show ZF _ (fun r rhs=>rhs=some (Zid r)) _
 unfold Zb5
 rw[ZaJ ctx 147 ZvY _ rfl rfl]
 conv=>rhs;whnf
 refine Zd rfl ?_ ?_<;>conv=>rhs;whnf
 ·exact Zc rfl
 ·exact Zc rfl
def Zco (r:Int):D:=(Zb r)
def Zcb (t0:Bool) (t1:Bool) (t2:Bool) (t3:Bool) (t4:Bool) (t5:Bool) (t6:Bool) (t7:Bool) (a:List Int) (b0:List Int) (b1:List Int) (b2:List Zl) (b3:List Zt) (b4:List Int) (b5:List Int) (b6:List ZG) (b7:Int):(Int⊕Unit)→Ex×List V×Zn
  | (.inl r)=>(.ret,[(.d (Zb r))],[])
  | (.inr r)=>(.exit 0,[.bad],[])
theorem Zd4 {t0 t1:Bool}{t2 t3:Bool}{t4 t5:Bool}{t6 t7:Bool}{a:List Int}{b0:List Int}{b1:List Int}{b2:List Zl}{b3:List Zt}{b4:List Int}{b5:List Int}{b6:List ZG}{b7:Int}:∀(s0:Int) (r:(Int⊕Unit)),lp (Zw a (fun z0=>Zb5 z0 b7)) s0=some r→lpW ctx 0 [0,1,7,8] [4] ZnR [(.d (D.list t0 (List.map Zb a))),(.d (D.fn 147 [(D.rptr [(D.rptr [(D.list t1 (List.map Zb b0)),(D.list t2 (List.map Zb b1)),(D.list t3 (List.map ZaD b2)),(D.list t4 (List.map ZaP b3)),(D.list t5 (List.map Zb b4)),(D.list t6 (List.map Zb b5)),(D.list t7 (List.map ZH b6)),(Zb b7)])])])),(.d (Zb (a.length:Int))),(.d (Zb s0))] []=some ((Zcb t0 t1 t2 t3 t4 t5 t6 t7 a b0 b1 b2 b3 b4 b5 b6 b7) r):=by
 refine ZaR (Zcb t0 t1 t2 t3 t4 t5 t6 t7 a b0 b1 b2 b3 b4 b5 b6 b7) ?_
 intro s0 rcl ih
 show ZF _ _ (lpW _ _ _ _ _ _ _)
 unfold Zw
 rw[ZaT]
 conv=>rhs;whnf
 refine Zd rfl ?_ ?_<;>conv=>rhs;whnf
 ·refine Zm rfl rfl fun x1 hx1=>?_;conv=>rhs;whnf
  refine Zj _ Zll rfl fun x2 hx2=>?_;conv=>rhs;whnf
  refine Zd rfl ?_ ?_<;>conv=>rhs;whnf
  ·exact Zc rfl
  ·exact Zf (ih _)
 ·exact Zc rfl
theorem Zey {t0 t1:Bool}{t2 t3:Bool}{t4 t5:Bool}{t6 t7:Bool}{a:List Int}{b0:List Int}{b1:List Int}{b2:List Zl}{b3:List Zt}{b4:List Int}{b5:List Int}{b6:List ZG}{b7:Int}:∀r,(Zz a (fun z0=>Zb5 z0 b7))=some r→evD ctx 94 [(.d (D.list t0 (List.map Zb a))),(.d (D.fn 147 [(D.rptr [(D.rptr [(D.list t1 (List.map Zb b0)),(D.list t2 (List.map Zb b1)),(D.list t3 (List.map ZaD b2)),(D.list t4 (List.map ZaP b3)),(D.list t5 (List.map Zb b4)),(D.list t6 (List.map Zb b5)),(D.list t7 (List.map ZH b6)),(Zb b7)])])]))]=some (Zco r):=by
 show ZF _ (fun r rhs=>rhs=some (Zco r)) _
 unfold Zz
 rw[ZaJ ctx 94 Zuf _ rfl rfl]
 conv=>rhs;whnf
 refine Zk (ZE _ _) ?_;conv=>rhs;whnf
 refine Ze _ (Zd4 _) fun r3 hr3=>?_
 clear hr3
 rcases r3 with r3 | r3
 ·conv=>rhs;whnf
  exact Zc rfl
 ·conv=>rhs;whnf
  exact Zc rfl
def Zi2 (r:Int):D:=(Zb r)
theorem Zma {t0 t1:Bool}{t2 t3:Bool}{t4 t5:Bool}{t6 t7 t8:Bool}{a0:List Int}{a1:List Int}{a2:List Zl}{a3:List Zt}{a4:List Int}{a5:List Int}{a6:List ZG}{a7:Int}{b:List Int}{c:List Int}{d:Int}:∀r,(ZdW a7 b c d)=some r→evD ctx 95 [(.d (D.rptr [(D.list t0 (List.map Zb a0)),(D.list t1 (List.map Zb a1)),(D.list t2 (List.map ZaD a2)),(D.list t3 (List.map ZaP a3)),(D.list t4 (List.map Zb a4)),(D.list t5 (List.map Zb a5)),(D.list t6 (List.map ZH a6)),(Zb a7)])),(.d (D.list t7 (List.map Zb b))),(.d (D.list t8 (List.map Zb c))),(.d (Zb d))]=some (Zi2 r):=by
 show ZF _ (fun r rhs=>rhs=some (Zi2 r)) _
 unfold ZdW
 rw[ZaJ ctx 95 ZAG _ rfl rfl]
 conv=>rhs;whnf
 refine Zk (ZE _ _) ?_;conv=>rhs;whnf
 refine Zd rfl ?_ ?_<;>conv=>rhs;whnf
 ·refine Zm rfl rfl fun x0 hx0=>?_;conv=>rhs;whnf
  refine Zk (ZE _ _) ?_;conv=>rhs;whnf
  refine Zd rfl ?_ ?_
  ·exact ZR
  ·conv=>rhs;whnf
   refine Zm rfl rfl fun x1 hx1=>?_;conv=>rhs;whnf
   exact Zc rfl
 ·refine Zj _ Zey rfl fun x2 hx2=>?_;conv=>rhs;whnf
  refine Zm rfl rfl fun x3 hx3=>?_;conv=>rhs;whnf
  exact Zc rfl
def ZkJ (r:Bool):D:=(D.bool r)
theorem Zgg {a:Int}:∀r,(ZdN a)=some r→evD ctx 190 [(.d (Zb a))]=some (ZkJ r):=by
 show ZF _ (fun r rhs=>rhs=some (ZkJ r)) _
 unfold ZdN
 rw[ZaJ ctx 190 Zy3 _ rfl rfl]
 conv=>rhs;whnf
 refine Zd rfl ?_ ?_<;>conv=>rhs;whnf
 ·exact Zc rfl
 ·refine Zd rfl ?_ ?_<;>conv=>rhs;whnf
  ·exact Zc rfl
  ·exact Zc rfl
def ZmD (r:Bool):D:=(D.bool r)
theorem ZpU {a:Zt}:∀r,(ZhN a)=some r→evD ctx 167 [(.d (D.agg [(D.bool a.steal),(Zb a.at_),(Zb a.top),(Zb a.bottom),(Zb a.got),(Zb a.end_)]))]=some (ZmD r):=by
 show ZF _ (fun r rhs=>rhs=some (ZmD r)) _
 unfold ZhN
 rw[ZaJ ctx 167 ZxL _ rfl rfl]
 conv=>rhs;whnf
 refine Zd rfl ?_ ?_<;>conv=>rhs;whnf
 ·refine Zd rfl ?_ ?_<;>conv=>rhs;whnf
  ·refine Zd rfl ?_ ?_<;>conv=>rhs;whnf
   ·refine Zd rfl ?_ ?_<;>conv=>rhs;whnf
    ·refine Zd rfl ?_ ?_<;>conv=>rhs;whnf
     ·exact Zc rfl
     ·refine Zj _ Zgg rfl fun x0 hx0=>?_;conv=>rhs;whnf
      refine Zd rfl ?_ ?_<;>conv=>rhs;whnf
      ·exact Zc rfl
      ·refine Zj _ Zgg rfl fun x1 hx1=>?_;conv=>rhs;whnf
       refine Zd rfl ?_ ?_<;>conv=>rhs;whnf
       ·exact Zc rfl
       ·exact Zc rfl
    ·exact Zc rfl
   ·exact Zc rfl
  ·exact Zc rfl
 ·refine Zd rfl ?_ ?_<;>conv=>rhs;whnf
  ·refine Zd rfl ?_ ?_<;>conv=>rhs;whnf
   ·refine Zd rfl ?_ ?_<;>conv=>rhs;whnf
    ·refine Zd rfl ?_ ?_<;>conv=>rhs;whnf
     ·exact Zc rfl
     ·refine Zj _ Zgg rfl fun x2 hx2=>?_;conv=>rhs;whnf
      refine Zd rfl ?_ ?_<;>conv=>rhs;whnf
      ·exact Zc rfl
      ·refine Zj _ Zgg rfl fun x3 hx3=>?_;conv=>rhs;whnf
       refine Zd rfl ?_ ?_<;>conv=>rhs;whnf
       ·exact Zc rfl
       ·exact Zc rfl
    ·exact Zc rfl
   ·exact Zc rfl
  ·exact Zc rfl
def ZmM (m0_0:Int) (m0_1:Int) (m1_0:Bool) (m1_1:Int) (m1_2:Int) (m1_3:Int) (m1_4:Int) (m1_5:Int) (m2_0:List Int):(Unit⊕Unit)→V×Zn
  | (.inl r)=>((.d (D.bool false)),[(.cells [(.sl 2 1),(.d (Zb m0_0)),(.d (Zb m0_1))]),(.cells [(.d (D.bool m1_0)),(.d (Zb m1_1)),(.d (Zb m1_2)),(.d (Zb m1_3)),(.d (Zb m1_4)),(.d (Zb m1_5))]),(.arr 1 (List.map Zb m2_0))])
  | (.inr r)=>((.d (D.bool true)),[(.cells [(.sl 2 1),(.d (Zb (w64 (m0_0+1)))),(.d (Zb m0_1))]),(.cells [(.d (D.bool m1_0)),(.d (Zb m1_1)),(.d (Zb m1_2)),(.d (Zb m1_3)),(.d (Zb m1_4)),(.d (Zb m1_5))]),(.arr 1 (List.map Zb m2_0))])
theorem ZlT {m0_0 m0_1:Int}{m1_0:Bool}{m1_1 m1_2:Int}{m1_3 m1_4 m1_5:Int}{m2_0:List Int}:∀r,(Ze9 m0_0 m1_2)=some r→evW ctx 191 [(.ptr 0 0),(.ptr 1 0)] [(.cells [(.sl 2 1),(.d (Zb m0_0)),(.d (Zb m0_1))]),(.cells [(.d (D.bool m1_0)),(.d (Zb m1_1)),(.d (Zb m1_2)),(.d (Zb m1_3)),(.d (Zb m1_4)),(.d (Zb m1_5))]),(.arr 1 (List.map Zb m2_0))]=some ((ZmM m0_0 m0_1 m1_0 m1_1 m1_2 m1_3 m1_4 m1_5 m2_0) r):=by
 show ZF _ (fun r rhs=>rhs=some ((ZmM m0_0 m0_1 m1_0 m1_1 m1_2 m1_3 m1_4 m1_5 m2_0) r)) _
 unfold Ze9
 rw[Zc5 ctx 191 ZzQ _ _ rfl rfl]
 conv=>rhs;whnf
 refine Zd rfl ?_ ?_<;>conv=>rhs;whnf
 ·exact Zc rfl
 ·exact Zc rfl
def ZlY (m0_0:Int) (m0_1:Int) (m1_0:Bool) (m1_1:Int) (m1_2:Int) (m1_3:Int) (m1_4:Int) (m1_5:Int) (m2_0:List Int):(Int×Int×Int×Int×Int×Int)→V×Zn
  | r=>((.d (D.tup [])),[(.cells [(.sl 2 1),(.d (Zb r.1)),(.d (Zb m0_1))]),(.cells [(.d (D.bool m1_0)),(.d (Zb r.2.1)),(.d (Zb r.2.2.1)),(.d (Zb r.2.2.2.1)),(.d (Zb r.2.2.2.2.1)),(.d (Zb r.2.2.2.2.2))]),(.arr 1 (List.map Zb m2_0))])
theorem Zpe {m0_0 m0_1:Int}{m1_0:Bool}{m1_1 m1_2:Int}{m1_3 m1_4 m1_5:Int}{m2_0:List Int}:∀r,(Zc9 m0_0 m0_1 m1_1 m1_2 m1_3 m1_4 m1_5 m2_0)=some r→evW ctx 168 [(.ptr 0 0),(.ptr 1 0)] [(.cells [(.sl 2 1),(.d (Zb m0_0)),(.d (Zb m0_1))]),(.cells [(.d (D.bool m1_0)),(.d (Zb m1_1)),(.d (Zb m1_2)),(.d (Zb m1_3)),(.d (Zb m1_4)),(.d (Zb m1_5))]),(.arr 1 (List.map Zb m2_0))]=some ((ZlY m0_0 m0_1 m1_0 m1_1 m1_2 m1_3 m1_4 m1_5 m2_0) r):=by
 show ZF _ (fun r rhs=>rhs=some ((ZlY m0_0 m0_1 m1_0 m1_1 m1_2 m1_3 m1_4 m1_5 m2_0) r)) _
 unfold Zc9
 rw[Zc5 ctx 168 ZzN _ _ rfl rfl]
 conv=>rhs;whnf
 refine Zd rfl ?_ ?_<;>conv=>rhs;whnf
 ·exact Zc rfl
 ·refine Zd rfl ?_ ?_<;>conv=>rhs;whnf
  ·refine Zd rfl ?_ ?_<;>conv=>rhs;whnf
   ·exact Zc rfl
   ·exact Zc rfl
  ·refine Zd rfl ?_ ?_<;>conv=>rhs;whnf
   ·refine Zj _ ZgV rfl fun x0 hx0=>?_;conv=>rhs;whnf
    refine Zm rfl rfl fun x1 hx1=>?_;conv=>rhs;whnf
    refine Zh (Zq rfl hx1) ?_;conv=>rhs;whnf
    exact Zc rfl
   ·refine Ze _ ZlT fun x2 hx2=>?_
    clear hx2
    rcases x2 with x2 | x2
    ·conv=>rhs;whnf
     exact Zc rfl
    ·conv=>rhs;whnf
     exact Zc rfl
def Znu (m0_0:Int) (m0_1:Int) (m1_0:Bool) (m1_1:Int) (m1_2:Int) (m1_3:Int) (m1_4:Int) (m1_5:Int) (m2_0:List Int):(Int×Int×Int×Int×Int×Int×Int)→V×Zn
  | r=>((.d (D.tup [])),[(.cells [(.sl 2 1),(.d (Zb r.1)),(.d (Zb r.2.1))]),(.cells [(.d (D.bool m1_0)),(.d (Zb r.2.2.1)),(.d (Zb r.2.2.2.1)),(.d (Zb r.2.2.2.2.1)),(.d (Zb r.2.2.2.2.2.1)),(.d (Zb r.2.2.2.2.2.2))]),(.arr 1 (List.map Zb m2_0))])
theorem ZqK {m0_0 m0_1:Int}{m1_0:Bool}{m1_1 m1_2:Int}{m1_3 m1_4 m1_5:Int}{m2_0:List Int}:∀r,(Zdj m0_0 m0_1 m1_1 m1_2 m1_3 m1_4 m1_5 m2_0)=some r→evW ctx 169 [(.ptr 0 0),(.ptr 1 0)] [(.cells [(.sl 2 1),(.d (Zb m0_0)),(.d (Zb m0_1))]),(.cells [(.d (D.bool m1_0)),(.d (Zb m1_1)),(.d (Zb m1_2)),(.d (Zb m1_3)),(.d (Zb m1_4)),(.d (Zb m1_5))]),(.arr 1 (List.map Zb m2_0))]=some ((Znu m0_0 m0_1 m1_0 m1_1 m1_2 m1_3 m1_4 m1_5 m2_0) r):=by
 show ZF _ (fun r rhs=>rhs=some ((Znu m0_0 m0_1 m1_0 m1_1 m1_2 m1_3 m1_4 m1_5 m2_0) r)) _
 unfold Zdj
 rw[Zc5 ctx 169 ZyU _ _ rfl rfl]
 conv=>rhs;whnf
 refine Zd rfl ?_ ?_<;>conv=>rhs;whnf
 ·exact Zc rfl
 ·refine Zd rfl ?_ ?_<;>conv=>rhs;whnf
  ·refine Zd rfl ?_ ?_<;>conv=>rhs;whnf
   ·refine Zj _ ZgV rfl fun x0 hx0=>?_;conv=>rhs;whnf
    refine Zm rfl rfl fun x1 hx1=>?_;conv=>rhs;whnf
    refine Zh (Zq rfl hx1) ?_;conv=>rhs;whnf
    exact Zc rfl
   ·refine Zd rfl ?_ ?_<;>conv=>rhs;whnf
    ·exact Zc rfl
    ·exact Zc rfl
  ·refine Zd rfl ?_ ?_<;>conv=>rhs;whnf
   ·refine Ze _ ZlT fun x2 hx2=>?_
    clear hx2
    rcases x2 with x2 | x2
    ·conv=>rhs;whnf
     exact Zc rfl
    ·conv=>rhs;whnf
     refine Zj _ ZgV rfl fun x3 hx3=>?_;conv=>rhs;whnf
     refine Zm rfl rfl fun x4 hx4=>?_;conv=>rhs;whnf
     refine Zh (Zq rfl hx4) ?_;conv=>rhs;whnf
     exact Zc rfl
   ·refine Zd rfl ?_ ?_<;>conv=>rhs;whnf
    ·exact Zc rfl
    ·exact Zc rfl
def ZmK (r:(Zl×Zt×Int)):D:=(D.tup [(D.agg [(D.list true (List.map Zb r.1.ring)),(Zb r.1.top),(Zb r.1.bottom)]),(D.agg [(D.bool r.2.1.steal),(Zb r.2.1.at_),(Zb r.2.1.top),(Zb r.2.1.bottom),(Zb r.2.1.got),(Zb r.2.1.end_)]),(Zb r.2.2)])
theorem ZpM {t0:Bool}{a:Zl}{b:Zt}:∀r,(Zct a b)=some r→evD ctx 116 [(.d (D.agg [(D.list t0 (List.map Zb a.ring)),(Zb a.top),(Zb a.bottom)])),(.d (D.agg [(D.bool b.steal),(Zb b.at_),(Zb b.top),(Zb b.bottom),(Zb b.got),(Zb b.end_)]))]=some (ZmK r):=by
 show ZF _ (fun r rhs=>rhs=some (ZmK r)) _
 unfold Zct
 rw[ZaJ ctx 116 ZzS _ rfl rfl]
 conv=>rhs;whnf
 refine Zj _ ZgW rfl fun x0 hx0=>?_;conv=>rhs;whnf
 refine Zd rfl ?_ ?_<;>conv=>rhs;whnf
 ·exact Zc rfl
 ·refine Zj _ ZpU rfl fun x1 hx1=>?_;conv=>rhs;whnf
  refine Zd rfl ?_ ?_<;>conv=>rhs;whnf
  ·refine Ze _ Zmw fun x2 hx2=>?_;conv=>rhs;whnf
   refine Zd rfl ?_ ?_<;>conv=>rhs;whnf
   ·refine Ze _ Zpe fun x3 hx3=>?_;conv=>rhs;whnf
    refine Zj _ ZgW rfl fun x4 hx4=>?_;conv=>rhs;whnf
    refine Zd rfl ?_ ?_<;>conv=>rhs;whnf
    ·exact Zc rfl
    ·exact Zc rfl
   ·refine Ze _ ZqK fun x5 hx5=>?_;conv=>rhs;whnf
    refine Zj _ ZgW rfl fun x6 hx6=>?_;conv=>rhs;whnf
    refine Zd rfl ?_ ?_<;>conv=>rhs;whnf
    ·exact Zc rfl
    ·exact Zc rfl
  ·exact Zc rfl
def ZiM (t0:Bool) (t1:Bool) (b:Int) (c:Int) (m0_0:List Int) (m0_1:List ZG) (m0_2:Int) (m1_0:List Int) (m2_0:List Int) (m3_0:List Zl) (m4_0:List Zt) (m5_0:List Int):(List Zt)→V×Zn
  | r=>((.d (D.tup [])),[(.cells [(.sl 1 1),(.sl 2 1),(.sl 3 3),(.sl 4 6),(.sl 5 1),(.d (D.list t0 (List.map Zb m0_0))),(.d (D.list t1 (List.map ZH m0_1))),(.d (Zb m0_2))]),(.arr 1 (List.map Zb m1_0)),(.arr 1 (List.map Zb m2_0)),(.arr 3 (List.map ZaD m3_0)),(.arr 6 (List.map ZaP r)),(.arr 1 (List.map Zb (List.set m5_0 b.toNat c)))])
theorem Zgd {t0 t1:Bool}{b c:Int}{m0_0:List Int}{m0_1:List ZG}{m0_2:Int}{m1_0:List Int}{m2_0:List Int}{m3_0:List Zl}{m4_0:List Zt}{m5_0:List Int}:∀r,(ZcX b c m4_0 m5_0)=some r→evW ctx 117 [(.ptr 0 0),(.d (Zb b)),(.d (Zb c))] [(.cells [(.sl 1 1),(.sl 2 1),(.sl 3 3),(.sl 4 6),(.sl 5 1),(.d (D.list t0 (List.map Zb m0_0))),(.d (D.list t1 (List.map ZH m0_1))),(.d (Zb m0_2))]),(.arr 1 (List.map Zb m1_0)),(.arr 1 (List.map Zb m2_0)),(.arr 3 (List.map ZaD m3_0)),(.arr 6 (List.map ZaP m4_0)),(.arr 1 (List.map Zb m5_0))]=some ((ZiM t0 t1 b c m0_0 m0_1 m0_2 m1_0 m2_0 m3_0 m4_0 m5_0) r):=by
 show ZF _ (fun r rhs=>rhs=some ((ZiM t0 t1 b c m0_0 m0_1 m0_2 m1_0 m2_0 m3_0 m4_0 m5_0) r)) _
 unfold ZcX
 rw[Zc5 ctx 117 Zxz _ _ rfl rfl]
 conv=>rhs;whnf
 refine Zm rfl rfl fun x0 hx0=>?_;conv=>rhs;whnf
 refine Zh (Zq rfl hx0) ?_;conv=>rhs;whnf
 refine Zk (Zak Zb m5_0 b.toNat c) ?_;conv=>rhs;whnf
 refine Zd rfl ?_ ?_<;>conv=>rhs;whnf
 ·refine Zm rfl rfl fun x1 hx1=>?_;conv=>rhs;whnf
  refine Zh (Zq rfl hx1) ?_;conv=>rhs;whnf
  refine Zk (Zak ZaP m4_0 b.toNat (Zt.mk true 0 0 0 0 0)) ?_;conv=>rhs;whnf
  exact Zc rfl
 ·refine Zm rfl rfl fun x2 hx2=>?_;conv=>rhs;whnf
  refine Zh (Zq rfl hx2) ?_;conv=>rhs;whnf
  refine Zk (Zak ZaP m4_0 b.toNat (Zt.mk false 0 0 0 0 0)) ?_;conv=>rhs;whnf
  exact Zc rfl
def Zja (t0:Bool) (t1:Bool) (b:Int) (m0_0:List Int) (m0_1:List ZG) (m0_2:Int) (m1_0:List Int) (m2_0:List Int) (m3_0:List Zl) (m4_0:List Zt) (m5_0:List Int):(Int×(List Int)×(List Zl)×(List Zt)×(List Int))→V×Zn
  | r=>((.d (Zb r.1)),[(.cells [(.sl 1 1),(.sl 2 1),(.sl 3 3),(.sl 4 6),(.sl 5 1),(.d (D.list t0 (List.map Zb m0_0))),(.d (D.list t1 (List.map ZH m0_1))),(.d (Zb m0_2))]),(.arr 1 (List.map Zb r.2.1)),(.arr 1 (List.map Zb m2_0)),(.arr 3 (List.map ZaD r.2.2.1)),(.arr 6 (List.map ZaP r.2.2.2.1)),(.arr 1 (List.map Zb r.2.2.2.2))])
theorem ZmN {t0 t1:Bool}{b:Int}{m0_0:List Int}{m0_1:List ZG}{m0_2:Int}{m1_0:List Int}{m2_0:List Int}{m3_0:List Zl}{m4_0:List Zt}{m5_0:List Int}:∀r,(ZbO b m0_0 m0_1 m1_0 m2_0 m3_0 m4_0 m5_0)=some r→evW ctx 67 [(.ptr 0 0),(.d (Zb b))] [(.cells [(.sl 1 1),(.sl 2 1),(.sl 3 3),(.sl 4 6),(.sl 5 1),(.d (D.list t0 (List.map Zb m0_0))),(.d (D.list t1 (List.map ZH m0_1))),(.d (Zb m0_2))]),(.arr 1 (List.map Zb m1_0)),(.arr 1 (List.map Zb m2_0)),(.arr 3 (List.map ZaD m3_0)),(.arr 6 (List.map ZaP m4_0)),(.arr 1 (List.map Zb m5_0))]=some ((Zja t0 t1 b m0_0 m0_1 m0_2 m1_0 m2_0 m3_0 m4_0 m5_0) r):=by
 show ZF _ (fun r rhs=>rhs=some ((Zja t0 t1 b m0_0 m0_1 m0_2 m1_0 m2_0 m3_0 m4_0 m5_0) r)) _
 unfold ZbO
 rw[Zc5 ctx 67 ZB0 _ _ rfl rfl]
 conv=>rhs;whnf
 refine Zk (ZE _ _) ?_;conv=>rhs;whnf
 refine Zm rfl rfl fun x0 hx0=>?_;conv=>rhs;whnf
 refine Zh (Zq rfl hx0) ?_;conv=>rhs;whnf
 refine Zd rfl ?_ ?_
 ·exact ZR
 ·conv=>rhs;whnf
  refine Zm rfl rfl fun x1 hx1=>?_;conv=>rhs;whnf
  refine Zh (Zq rfl hx1) ?_;conv=>rhs;whnf
  refine Zm rfl rfl fun x2 hx2=>?_;conv=>rhs;whnf
  refine Zh (Zq rfl hx2) ?_;conv=>rhs;whnf
  refine Zj _ ZpM rfl fun x3 hx3=>?_;conv=>rhs;whnf
  refine Zd rfl ?_ ?_<;>conv=>rhs;whnf
  ·exact Zc rfl
  ·refine Zh (Zbe rfl hx1) ?_;conv=>rhs;whnf
   refine Zh (Zq rfl hx1) ?_;conv=>rhs;whnf
   refine Zk (Zak ZaD m3_0 (Int.tmod (w64 (b+x0)) (m1_0.length:Int)).toNat x3.1) ?_;conv=>rhs;whnf
   refine Zh (Zbe rfl hx2) ?_;conv=>rhs;whnf
   refine Zh (Zq rfl hx2) ?_;conv=>rhs;whnf
   refine Zk (Zak ZaP m4_0 b.toNat x3.2.1) ?_;conv=>rhs;whnf
   refine Zd rfl ?_ ?_<;>conv=>rhs;whnf
   ·refine Zj _ Zd0 rfl fun x4 hx4=>?_;conv=>rhs;whnf
    refine Zj _ Zas rfl fun x5 hx5=>?_;conv=>rhs;whnf
    refine Zd rfl ?_ ?_<;>conv=>rhs;whnf
    ·refine Zm rfl rfl fun x6 hx6=>?_;conv=>rhs;whnf
     refine Zh (Zq rfl hx6) ?_;conv=>rhs;whnf
     refine Zk (Zak Zb m1_0 b.toNat x3.2.1.got) ?_;conv=>rhs;whnf
     refine Ze _ Zgd fun x7 hx7=>?_;conv=>rhs;whnf
     exact Zc rfl
    ·exact Zc rfl
   ·refine Zd rfl ?_ ?_<;>conv=>rhs;whnf
    ·refine Zh (Zbe rfl hx0) ?_;conv=>rhs;whnf
     refine Zh (Zq rfl hx0) ?_;conv=>rhs;whnf
     refine Zd rfl ?_ ?_
     ·exact ZR
     ·conv=>rhs;whnf
      refine Ze _ Zgd fun x8 hx8=>?_;conv=>rhs;whnf
      exact Zc rfl
    ·refine Zd rfl ?_ ?_<;>conv=>rhs;whnf
     ·refine Zh (Zbe rfl hx0) ?_;conv=>rhs;whnf
      refine Zh (Zq rfl hx0) ?_;conv=>rhs;whnf
      refine Zd rfl ?_ ?_
      ·exact ZR
      ·conv=>rhs;whnf
       refine Ze _ Zgd fun x9 hx9=>?_;conv=>rhs;whnf
       exact Zc rfl
     ·exact Zc rfl
def Zi7 (t0:Bool) (t1:Bool) (t2:Bool) (b:List Int) (m0_0:List Int) (m0_1:List ZG) (m0_2:Int) (m1_0:List Int) (m2_0:List Int) (m3_0:List Zl) (m4_0:List Zt) (m5_0:List Int):(Int×Int×Int×(List Int)×(List Zl)×(List Zt)×(List Int))→V×Zn
  | r=>((.d (D.tup [(Zb r.1),(Zb r.2.1)])),[(.cells [(.sl 1 1),(.sl 2 1),(.sl 3 3),(.sl 4 6),(.sl 5 1),(.d (D.list t1 (List.map Zb m0_0))),(.d (D.list t2 (List.map ZH m0_1))),(.d (Zb r.2.2.1))]),(.arr 1 (List.map Zb r.2.2.2.1)),(.arr 1 (List.map Zb m2_0)),(.arr 3 (List.map ZaD r.2.2.2.2.1)),(.arr 6 (List.map ZaP r.2.2.2.2.2.1)),(.arr 1 (List.map Zb r.2.2.2.2.2.2))])
def Zh3 (t0:Bool) (t1:Bool) (t2:Bool) (b:List Int) (m0_0:List Int) (m0_1:List ZG) (m2_0:List Int):((Int×Int×Int×(List Int)×(List Zl)×(List Zt)×(List Int))⊕(Int×Int×(List Int)×(List Zl)×(List Zt)×(List Int)))→Ex×List V×Zn
  | (.inl r)=>(.ret,[(.d (Zb 0)),(.d (Zb r.1)),(.d (Zb r.2.1))],[(.cells [(.sl 1 1),(.sl 2 1),(.sl 3 3),(.sl 4 6),(.sl 5 1),(.d (D.list t1 (List.map Zb m0_0))),(.d (D.list t2 (List.map ZH m0_1))),(.d (Zb r.2.2.1))]),(.arr 1 (List.map Zb r.2.2.2.1)),(.arr 1 (List.map Zb m2_0)),(.arr 3 (List.map ZaD r.2.2.2.2.1)),(.arr 6 (List.map ZaP r.2.2.2.2.2.1)),(.arr 1 (List.map Zb r.2.2.2.2.2.2))])
  | (.inr r)=>(.exit 0,[.bad,.bad,(.d (Zb r.1))],[(.cells [(.sl 1 1),(.sl 2 1),(.sl 3 3),(.sl 4 6),(.sl 5 1),(.d (D.list t1 (List.map Zb m0_0))),(.d (D.list t2 (List.map ZH m0_1))),(.d (Zb r.2.1))]),(.arr 1 (List.map Zb r.2.2.1)),(.arr 1 (List.map Zb m2_0)),(.arr 3 (List.map ZaD r.2.2.2.1)),(.arr 6 (List.map ZaP r.2.2.2.2.1)),(.arr 1 (List.map Zb r.2.2.2.2.2))])
theorem Zk8 {t0 t1 t2:Bool}{b:List Int}{m0_0:List Int}{m0_1:List ZG}{m2_0:List Int}:∀(s1:Int×(List Int)×Int×(List Int)×(List Zl)×(List Zt)×(List Int)) (r:((Int×Int×Int×(List Int)×(List Zl)×(List Zt)×(List Int))⊕(Int×Int×(List Int)×(List Zl)×(List Zt)×(List Int)))),lp (ZcZ b m0_0 m0_1 m2_0) s1=some r→lpW ctx 6 [0,1,6,7] [4,5,6] ZuN [(.ptr 0 0),(.d (D.list t0 (List.map Zb b))),(.d (Zb s1.1)),(.d (D.list true (List.map Zb s1.2.1)))] [(.cells [(.sl 1 1),(.sl 2 1),(.sl 3 3),(.sl 4 6),(.sl 5 1),(.d (D.list t1 (List.map Zb m0_0))),(.d (D.list t2 (List.map ZH m0_1))),(.d (Zb s1.2.2.1))]),(.arr 1 (List.map Zb s1.2.2.2.1)),(.arr 1 (List.map Zb m2_0)),(.arr 3 (List.map ZaD s1.2.2.2.2.1)),(.arr 6 (List.map ZaP s1.2.2.2.2.2.1)),(.arr 1 (List.map Zb s1.2.2.2.2.2.2))]=some ((Zh3 t0 t1 t2 b m0_0 m0_1 m2_0) r):=by
 refine ZaR (Zh3 t0 t1 t2 b m0_0 m0_1 m2_0) ?_
 intro s1 rcl ih
 show ZF _ _ (lpW _ _ _ _ _ _ _)
 unfold ZcZ
 rw[ZaT]
 conv=>rhs;whnf
 refine Zk (ZE _ _) ?_;conv=>rhs;whnf
 refine Zd rfl ?_ ?_<;>conv=>rhs;whnf
 ·refine Zj _ Zma rfl fun x2 hx2=>?_;conv=>rhs;whnf
  refine Ze _ ZmN fun x3 hx3=>?_;conv=>rhs;whnf
  refine Zd rfl ?_ ?_<;>conv=>rhs;whnf
  ·exact Zc rfl
  ·refine Zj _ Zic rfl fun x4 hx4=>?_;conv=>rhs;whnf
   exact Zf (ih _)
 ·exact Zc rfl
theorem Zl9 {t0 t1 t2:Bool}{b:List Int}{m0_0:List Int}{m0_1:List ZG}{m0_2:Int}{m1_0:List Int}{m2_0:List Int}{m3_0:List Zl}{m4_0:List Zt}{m5_0:List Int}:∀r,(Ze6 b m0_0 m0_1 m1_0 m2_0 m3_0 m4_0 m5_0)=some r→evW ctx 46 [(.ptr 0 0),(.d (D.list t0 (List.map Zb b)))] [(.cells [(.sl 1 1),(.sl 2 1),(.sl 3 3),(.sl 4 6),(.sl 5 1),(.d (D.list t1 (List.map Zb m0_0))),(.d (D.list t2 (List.map ZH m0_1))),(.d (Zb m0_2))]),(.arr 1 (List.map Zb m1_0)),(.arr 1 (List.map Zb m2_0)),(.arr 3 (List.map ZaD m3_0)),(.arr 6 (List.map ZaP m4_0)),(.arr 1 (List.map Zb m5_0))]=some ((Zi7 t0 t1 t2 b m0_0 m0_1 m0_2 m1_0 m2_0 m3_0 m4_0 m5_0) r):=by
 show ZF _ (fun r rhs=>rhs=some ((Zi7 t0 t1 t2 b m0_0 m0_1 m0_2 m1_0 m2_0 m3_0 m4_0 m5_0) r)) _
 unfold Ze6
 rw[Zc5 ctx 46 ZAD _ _ rfl rfl]
 conv=>rhs;whnf
 refine Zj _ Zic rfl fun x0 hx0=>?_;conv=>rhs;whnf
 refine Ze _ (Zk8 _) fun r5 hr5=>?_
 clear hr5
 rcases r5 with r5 | r5
 ·conv=>rhs;whnf
  exact Zc rfl
 ·conv=>rhs;whnf
  exact Zc rfl
def ZoM (t0:Bool) (t1:Bool) (a:ZbU):Unit→V×Zn
  | r=>((.agg [(.sl 0 1),(.sl 1 1)]),[(.arr 1 (List.map Zb a.on)),(.arr 1 (List.map Zb a.left))])
theorem ZrA {t0 t1:Bool}{a:ZbU}:∀r,(Zlo a)=some r→evW ctx 148 [(.d (D.agg [(D.list t0 (List.map Zb a.on)),(D.list t1 (List.map Zb a.left))]))] []=some ((ZoM t0 t1 a) r):=by
 show ZF _ (fun r rhs=>rhs=some ((ZoM t0 t1 a) r)) _
 unfold Zlo
 rw[Zc5 ctx 148 ZzG _ _ rfl rfl]
 conv=>rhs;whnf
 refine Ze _ ZaM fun x0 hx0=>?_;conv=>rhs;whnf
 refine Ze _ ZaM fun x1 hx1=>?_;conv=>rhs;whnf
 exact Zc rfl
def Zi9 (r:Int):D:=(Zb r)
theorem Zmp {a:Int}:∀r,(Zh7 a)=some r→evD ctx 203 [(.d (D.int .u64 a))]=some (Zi9 r):=by
 show ZF _ (fun r rhs=>rhs=some (Zi9 r)) _
 unfold Zh7
 rw[ZaJ ctx 203 Zz3 _ rfl rfl]
 conv=>rhs;whnf
 refine Zd rfl ?_ ?_<;>conv=>rhs;whnf
 ·refine Zam rfl ?_;conv=>rhs;whnf
  refine Zd rfl ?_ ?_<;>conv=>rhs;whnf
  ·refine Zam rfl ?_;conv=>rhs;whnf
   refine Zd rfl ?_ ?_<;>conv=>rhs;whnf
   ·refine Zam rfl ?_;conv=>rhs;whnf
    refine Zd rfl ?_ ?_
    ·conv=>rhs;whnf
     refine ZiD rfl fun x0 hx0=>?_;conv=>rhs;whnf
     exact Zc rfl
    ·exact ZR
   ·refine Zd rfl ?_ ?_
    ·conv=>rhs;whnf
     refine ZiD rfl fun x1 hx1=>?_;conv=>rhs;whnf
     exact Zc rfl
    ·exact ZR
  ·refine Zd rfl ?_ ?_<;>conv=>rhs;whnf
   ·refine Zam rfl ?_;conv=>rhs;whnf
    refine Zd rfl ?_ ?_
    ·conv=>rhs;whnf
     refine ZiD rfl fun x2 hx2=>?_;conv=>rhs;whnf
     exact Zc rfl
    ·exact ZR
   ·refine Zd rfl ?_ ?_
    ·conv=>rhs;whnf
     refine ZiD rfl fun x3 hx3=>?_;conv=>rhs;whnf
     exact Zc rfl
    ·exact ZR
 ·refine Zd rfl ?_ ?_<;>conv=>rhs;whnf
  ·refine Zam rfl ?_;conv=>rhs;whnf
   refine Zd rfl ?_ ?_<;>conv=>rhs;whnf
   ·refine Zam rfl ?_;conv=>rhs;whnf
    refine Zd rfl ?_ ?_
    ·conv=>rhs;whnf
     refine ZiD rfl fun x4 hx4=>?_;conv=>rhs;whnf
     exact Zc rfl
    ·exact ZR
   ·refine Zd rfl ?_ ?_
    ·conv=>rhs;whnf
     refine ZiD rfl fun x5 hx5=>?_;conv=>rhs;whnf
     exact Zc rfl
    ·exact ZR
  ·refine Zd rfl ?_ ?_<;>conv=>rhs;whnf
   ·refine Zam rfl ?_;conv=>rhs;whnf
    refine Zd rfl ?_ ?_
    ·conv=>rhs;whnf
     refine ZiD rfl fun x6 hx6=>?_;conv=>rhs;whnf
     exact Zc rfl
    ·exact ZR
   ·refine Zd rfl ?_ ?_
    ·conv=>rhs;whnf
     refine ZiD rfl fun x7 hx7=>?_;conv=>rhs;whnf
     exact Zc rfl
    ·exact ZR
def Zke (r:Int):D:=(Zb r)
theorem ZjX {a:Int}:∀r,(Zd3 a)=some r→evD ctx 179 [(.d (D.int .u64 a))]=some (Zke r):=by
 show ZF _ (fun r rhs=>rhs=some (Zke r)) _
 unfold Zd3
 rw[ZaJ ctx 179 Zz1 _ rfl rfl]
 conv=>rhs;whnf
 refine Zj _ Zmp rfl fun x0 hx0=>?_;conv=>rhs;whnf
 exact Zc rfl
def Zkg (r:Bool):D:=(D.bool r)
theorem ZjF {a:Int}:∀r,(ZfY a)=some r→evD ctx 217 [(.d (Zb a))]=some (Zkg r):=by
 show ZF _ (fun r rhs=>rhs=some (Zkg r)) _
 unfold ZfY
 rw[ZaJ ctx 217 ZxH _ rfl rfl]
 conv=>rhs;whnf
 refine Zd rfl ?_ ?_<;>conv=>rhs;whnf
 ·exact Zc rfl
 ·exact Zc rfl
def ZkU (r:Bool):D:=(D.bool r)
theorem ZN {a b:Int}:∀r,(ZU a b)=some r→evD ctx 199 [(.d (Zb a)),(.d (Zb b))]=some (ZkU r):=by
 show ZF _ (fun r rhs=>rhs=some (ZkU r)) _
 unfold ZU
 rw[ZaJ ctx 199 ZyM _ rfl rfl]
 conv=>rhs;whnf
 refine Zj _ ZjF rfl fun x0 hx0=>?_;conv=>rhs;whnf
 refine Zd rfl ?_ ?_<;>conv=>rhs;whnf
 ·refine Zj _ ZjF rfl fun x1 hx1=>?_;conv=>rhs;whnf
  refine Zd rfl ?_ ?_<;>conv=>rhs;whnf
  ·refine Zd rfl ?_ ?_<;>conv=>rhs;whnf
   ·exact Zc rfl
   ·exact Zc rfl
  ·exact Zc rfl
 ·refine Zd rfl ?_ ?_<;>conv=>rhs;whnf
  ·exact Zc rfl
  ·exact Zc rfl
def Zem (b:Int) (c:Int) (m0_0:List Int):(List Int)→V×Zn
  | r=>((.d (D.tup [])),[(.arr 1 (List.map Zb r))])
def ZdO (b:Int) (c:Int) (s0:Int×(List Int)):(List Int)→Ex×List V×Zn
  | r=>(.exit 2,[(.sl 0 1),(.d (Zb b)),(.d (Zb c)),(.d (Zb s0.1))],[(.arr 1 (List.map Zb r))])
theorem Zgn {b c:Int}{s0:Int×(List Int)}:∀(s1:Int×(List Int)) (r:List Int),lp (Za8 b) s1=some r→lpW ctx 1 [0,1,2,6,7] [0,1,2,6] Zvv [(.sl 0 1),(.d (Zb b)),(.d (Zb c)),(.d (Zb s0.1)),(.d (Zb s1.1))] [(.arr 1 (List.map Zb s1.2))]=some ((ZdO b c s0) r):=by
 refine ZaR (ZdO b c s0) ?_
 intro s1 rcl ih
 show ZF _ _ (lpW _ _ _ _ _ _ _)
 unfold Za8
 rw[ZaT]
 conv=>rhs;whnf
 refine Zd rfl ?_ ?_<;>conv=>rhs;whnf
 ·refine Zm rfl rfl fun x2 hx2=>?_;conv=>rhs;whnf
  refine Zh (Zq rfl hx2) ?_;conv=>rhs;whnf
  refine Zm rfl rfl fun x3 hx3=>?_;conv=>rhs;whnf
  refine Zh (Zq rfl hx3) ?_;conv=>rhs;whnf
  refine Zj _ ZN rfl fun x4 hx4=>?_;conv=>rhs;whnf
  refine Zd rfl ?_ ?_<;>conv=>rhs;whnf
  ·refine Zh (Zbe rfl hx3) ?_;conv=>rhs;whnf
   refine Zh (Zq rfl hx3) ?_;conv=>rhs;whnf
   refine Zh (Zbe rfl hx2) ?_;conv=>rhs;whnf
   refine Zh (Zq rfl hx2) ?_;conv=>rhs;whnf
   refine Zh (Zbe rfl hx2) ?_;conv=>rhs;whnf
   refine Zh (Zq rfl hx2) ?_;conv=>rhs;whnf
   refine Zk (Zak Zb s1.2 s1.1.toNat x3) ?_;conv=>rhs;whnf
   refine Zm rfl rfl fun x5 hx5=>?_;conv=>rhs;whnf
   refine Zh (Zq rfl hx5) ?_;conv=>rhs;whnf
   refine Zk (Zak Zb (List.set s1.2 s1.1.toNat x3) (w64 (s1.1-1)).toNat x2) ?_;conv=>rhs;whnf
   exact Zf (ih _)
  ·exact Zc rfl
 ·exact Zc rfl
def ZdM (b:Int) (c:Int):(List Int)→Ex×List V×Zn
  | r=>(.exit 0,[],[(.arr 1 (List.map Zb r))])
theorem Zgp {b c:Int}:∀(s0:Int×(List Int)) (r:List Int),lp (Za7 b c) s0=some r→lpW ctx 1 [0,1,2,6] [] Zvw [(.sl 0 1),(.d (Zb b)),(.d (Zb c)),(.d (Zb s0.1))] [(.arr 1 (List.map Zb s0.2))]=some ((ZdM b c) r):=by
 refine ZaR (ZdM b c) ?_
 intro s0 rcl ih
 show ZF _ _ (lpW _ _ _ _ _ _ _)
 unfold Za7
 rw[ZaT]
 conv=>rhs;whnf
 refine Zd rfl ?_ ?_<;>conv=>rhs;whnf
 ·refine Ze _ (Zgn _) fun r6 hr6=>?_;conv=>rhs;whnf
  exact Zf (ih _)
 ·exact Zc rfl
theorem ZbJ {b c:Int}{m0_0:List Int}:∀r,(Zag b c m0_0)=some r→evW ctx 193 [(.sl 0 1),(.d (Zb b)),(.d (Zb c))] [(.arr 1 (List.map Zb m0_0))]=some ((Zem b c m0_0) r):=by
 show ZF _ (fun r rhs=>rhs=some ((Zem b c m0_0) r)) _
 unfold Zag
 rw[Zc5 ctx 193 Zyl _ _ rfl rfl]
 conv=>rhs;whnf
 refine Ze _ (Zgp _) fun r7 hr7=>?_;conv=>rhs;whnf
 exact Zc rfl
def ZfB (b:Int) (c:Int) (d:Int) (m0_0:List Int):(List Int)→V×Zn
  | r=>((.d (D.tup [])),[(.arr 1 (List.map Zb r))])
def ZeO (c:Int) (d:Int):((List Int)⊕(List Int))→Ex×List V×Zn
  | (.inl r)=>(.exit 0,[],[(.arr 1 (List.map Zb r))])
  | (.inr r)=>(.ret,[],[(.arr 1 (List.map Zb r))])
theorem Zhp {c d:Int}:∀(s0:Int×(List Int)) (r:((List Int)⊕(List Int))),lp (ZbH c d) s0=some r→lpW ctx 1 [0,2,3,8] [] Zwf [(.sl 0 1),(.d (Zb c)),(.d (Zb d)),(.d (Zb s0.1))] [(.arr 1 (List.map Zb s0.2))]=some ((ZeO c d) r):=by
 refine ZaR (ZeO c d) ?_
 intro s0 rcl ih
 show ZF _ _ (lpW _ _ _ _ _ _ _)
 unfold ZbH
 rw[ZaT]
 conv=>rhs;whnf
 refine Zd rfl ?_ ?_<;>conv=>rhs;whnf
 ·exact Zc rfl
 ·refine Zd rfl ?_ ?_<;>conv=>rhs;whnf
  ·refine Zm rfl rfl fun x1 hx1=>?_;conv=>rhs;whnf
   refine Zh (Zq rfl hx1) ?_;conv=>rhs;whnf
   refine Zm rfl rfl fun x2 hx2=>?_;conv=>rhs;whnf
   refine Zh (Zq rfl hx2) ?_;conv=>rhs;whnf
   refine Zj _ ZN rfl fun x3 hx3=>?_;conv=>rhs;whnf
   refine Zd rfl ?_ ?_<;>conv=>rhs;whnf
   ·refine Zm rfl rfl fun x4 hx4=>?_;conv=>rhs;whnf
    refine Zh (Zq rfl hx4) ?_;conv=>rhs;whnf
    refine Zm rfl rfl fun x5 hx5=>?_;conv=>rhs;whnf
    refine Zh (Zq rfl hx5) ?_;conv=>rhs;whnf
    refine Zj _ ZN rfl fun x6 hx6=>?_;conv=>rhs;whnf
    refine Zd rfl ?_ ?_<;>conv=>rhs;whnf
    ·refine Zh (Zbe rfl hx5) ?_;conv=>rhs;whnf
     refine Zh (Zq rfl hx5) ?_;conv=>rhs;whnf
     refine Zh (Zbe rfl hx4) ?_;conv=>rhs;whnf
     refine Zh (Zq rfl hx4) ?_;conv=>rhs;whnf
     refine Zh (Zbe rfl hx4) ?_;conv=>rhs;whnf
     refine Zh (Zq rfl hx4) ?_;conv=>rhs;whnf
     refine Zk (Zak Zb s0.2 (w64 (d+s0.1)).toNat x5) ?_;conv=>rhs;whnf
     refine Zm rfl rfl fun x7 hx7=>?_;conv=>rhs;whnf
     refine Zh (Zq rfl hx7) ?_;conv=>rhs;whnf
     refine Zk (Zak Zb (List.set s0.2 (w64 (d+s0.1)).toNat x5) (w64 (d+(w64 ((w64 ((w64 (2*s0.1))+1))+1)))).toNat x4) ?_;conv=>rhs;whnf
     exact Zf (ih _)
    ·exact Zc rfl
   ·refine Zm rfl rfl fun x8 hx8=>?_;conv=>rhs;whnf
    refine Zh (Zq rfl hx8) ?_;conv=>rhs;whnf
    refine Zh (Zbe rfl hx1) ?_;conv=>rhs;whnf
    refine Zh (Zq rfl hx1) ?_;conv=>rhs;whnf
    refine Zj _ ZN rfl fun x9 hx9=>?_;conv=>rhs;whnf
    refine Zd rfl ?_ ?_<;>conv=>rhs;whnf
    ·refine Zh (Zbe rfl hx1) ?_;conv=>rhs;whnf
     refine Zh (Zq rfl hx1) ?_;conv=>rhs;whnf
     refine Zh (Zbe rfl hx8) ?_;conv=>rhs;whnf
     refine Zh (Zq rfl hx8) ?_;conv=>rhs;whnf
     refine Zh (Zbe rfl hx8) ?_;conv=>rhs;whnf
     refine Zh (Zq rfl hx8) ?_;conv=>rhs;whnf
     refine Zk (Zak Zb s0.2 (w64 (d+s0.1)).toNat x1) ?_;conv=>rhs;whnf
     refine Zm rfl rfl fun x10 hx10=>?_;conv=>rhs;whnf
     refine Zh (Zq rfl hx10) ?_;conv=>rhs;whnf
     refine Zk (Zak Zb (List.set s0.2 (w64 (d+s0.1)).toNat x1) (w64 (d+(w64 ((w64 (2*s0.1))+1)))).toNat x8) ?_;conv=>rhs;whnf
     exact Zf (ih _)
    ·exact Zc rfl
  ·refine Zm rfl rfl fun x11 hx11=>?_;conv=>rhs;whnf
   refine Zh (Zq rfl hx11) ?_;conv=>rhs;whnf
   refine Zm rfl rfl fun x12 hx12=>?_;conv=>rhs;whnf
   refine Zh (Zq rfl hx12) ?_;conv=>rhs;whnf
   refine Zj _ ZN rfl fun x13 hx13=>?_;conv=>rhs;whnf
   refine Zd rfl ?_ ?_<;>conv=>rhs;whnf
   ·refine Zh (Zbe rfl hx12) ?_;conv=>rhs;whnf
    refine Zh (Zq rfl hx12) ?_;conv=>rhs;whnf
    refine Zh (Zbe rfl hx11) ?_;conv=>rhs;whnf
    refine Zh (Zq rfl hx11) ?_;conv=>rhs;whnf
    refine Zh (Zbe rfl hx11) ?_;conv=>rhs;whnf
    refine Zh (Zq rfl hx11) ?_;conv=>rhs;whnf
    refine Zk (Zak Zb s0.2 (w64 (d+s0.1)).toNat x12) ?_;conv=>rhs;whnf
    refine Zm rfl rfl fun x14 hx14=>?_;conv=>rhs;whnf
    refine Zh (Zq rfl hx14) ?_;conv=>rhs;whnf
    refine Zk (Zak Zb (List.set s0.2 (w64 (d+s0.1)).toNat x12) (w64 (d+(w64 ((w64 (2*s0.1))+1)))).toNat x11) ?_;conv=>rhs;whnf
    exact Zf (ih _)
   ·exact Zc rfl
theorem Zfq {b c d:Int}{m0_0:List Int}:∀r,(Zbv b c d m0_0)=some r→evW ctx 212 [(.sl 0 1),(.d (Zb b)),(.d (Zb c)),(.d (Zb d))] [(.arr 1 (List.map Zb m0_0))]=some ((ZfB b c d m0_0) r):=by
 show ZF _ (fun r rhs=>rhs=some ((ZfB b c d m0_0) r)) _
 unfold Zbv
 rw[Zc5 ctx 212 Zzp _ _ rfl rfl]
 conv=>rhs;whnf
 refine Ze _ (Zhp _) fun r15 hr15=>?_
 clear hr15
 rcases r15 with r15 | r15
 ·conv=>rhs;whnf
  exact Zc rfl
 ·conv=>rhs;whnf
  exact Zc rfl
def ZfL (b:Int) (c:Int) (m0_0:List Int):(List Int)→V×Zn
  | r=>((.d (D.tup [])),[(.arr 1 (List.map Zb r))])
def ZeQ (b:Int) (c:Int):(List Int)→Ex×List V×Zn
  | r=>(.exit 0,[(.sl 0 1),(.d (Zb b)),(.d (Zb 0)),(.d (Zb (w64 (c-b))))],[(.arr 1 (List.map Zb r))])
theorem Zht {b c:Int}:∀(s0:Int×(List Int)) (r:List Int),lp (ZbF b c) s0=some r→lpW ctx 1 [0,6,7,8,9] [0,6,7,8] Zwd [(.sl 0 1),(.d (Zb b)),(.d (Zb 0)),(.d (Zb (w64 (c-b)))),(.d (Zb s0.1))] [(.arr 1 (List.map Zb s0.2))]=some ((ZeQ b c) r):=by
 refine ZaR (ZeQ b c) ?_
 intro s0 rcl ih
 show ZF _ _ (lpW _ _ _ _ _ _ _)
 unfold ZbF
 rw[ZaT]
 conv=>rhs;whnf
 refine Zd rfl ?_ ?_<;>conv=>rhs;whnf
 ·refine Ze _ Zfq fun x1 hx1=>?_;conv=>rhs;whnf
  exact Zf (ih _)
 ·exact Zc rfl
def ZeR (b:Int):(List Int)→Ex×List V×Zn
  | r=>(.exit 2,[],[(.arr 1 (List.map Zb r))])
theorem Zhs {b:Int}:∀(s3:Int×(List Int)) (r:List Int),lp (ZbG b) s3=some r→lpW ctx 1 [0,6,7,10] [] Zv1 [(.sl 0 1),(.d (Zb b)),(.d (Zb 0)),(.d (Zb s3.1))] [(.arr 1 (List.map Zb s3.2))]=some ((ZeR b) r):=by
 refine ZaR (ZeR b) ?_
 intro s3 rcl ih
 show ZF _ _ (lpW _ _ _ _ _ _ _)
 unfold ZbG
 rw[ZaT]
 conv=>rhs;whnf
 refine Zd rfl ?_ ?_<;>conv=>rhs;whnf
 ·refine Zm rfl rfl fun x4 hx4=>?_;conv=>rhs;whnf
  refine Zh (Zq rfl hx4) ?_;conv=>rhs;whnf
  refine Zm rfl rfl fun x5 hx5=>?_;conv=>rhs;whnf
  refine Zh (Zq rfl hx5) ?_;conv=>rhs;whnf
  refine Zh (Zbe rfl hx5) ?_;conv=>rhs;whnf
  refine Zh (Zq rfl hx5) ?_;conv=>rhs;whnf
  refine Zk (Zak Zb s3.2 b.toNat x4) ?_;conv=>rhs;whnf
  refine Zm rfl rfl fun x6 hx6=>?_;conv=>rhs;whnf
  refine Zh (Zq rfl hx6) ?_;conv=>rhs;whnf
  refine Zk (Zak Zb (List.set s3.2 b.toNat x4) (w64 (b+s3.1)).toNat x5) ?_;conv=>rhs;whnf
  refine Ze _ Zfq fun x7 hx7=>?_;conv=>rhs;whnf
  exact Zf (ih _)
 ·exact Zc rfl
theorem Zch {b c:Int}{m0_0:List Int}:∀r,(ZaG b c m0_0)=some r→evW ctx 194 [(.sl 0 1),(.d (Zb b)),(.d (Zb c))] [(.arr 1 (List.map Zb m0_0))]=some ((ZfL b c m0_0) r):=by
 show ZF _ (fun r rhs=>rhs=some ((ZfL b c m0_0) r)) _
 unfold ZaG
 rw[Zc5 ctx 194 Zx5 _ _ rfl rfl]
 conv=>rhs;whnf
 refine Zam rfl ?_;conv=>rhs;whnf
 refine Ze _ (Zht _) fun r2 hr2=>?_;conv=>rhs;whnf
 refine Ze _ (Zhs _) fun r8 hr8=>?_;conv=>rhs;whnf
 exact Zc rfl
def ZfW (b:Int) (c:Int) (m0_0:List Int) (m1_0:Int):(Int×Int×Int)→V×Zn
  | r=>((.d (D.tup [(Zb r.1),(Zb r.2.1)])),[(.arr 1 (List.map Zb m0_0)),(.cells [(.d (Zb r.2.2))])])
theorem ZdK {b c:Int}{m0_0:List Int}{m1_0:Int}:∀r,(Zbn b c m0_0 m1_0)=some r→evW ctx 221 [(.sl 0 1),(.d (Zb b)),(.d (Zb c)),(.ptr 1 0)] [(.arr 1 (List.map Zb m0_0)),(.cells [(.d (Zb m1_0))])]=some ((ZfW b c m0_0 m1_0) r):=by
 show ZF _ (fun r rhs=>rhs=some ((ZfW b c m0_0 m1_0) r)) _
 unfold Zbn
 rw[Zc5 ctx 221 ZyI _ _ rfl rfl]
 conv=>rhs;whnf
 refine Zm rfl rfl fun x0 hx0=>?_;conv=>rhs;whnf
 refine Zh (Zq rfl hx0) ?_;conv=>rhs;whnf
 refine Zm rfl rfl fun x1 hx1=>?_;conv=>rhs;whnf
 refine Zh (Zq rfl hx1) ?_;conv=>rhs;whnf
 refine Zj _ ZN rfl fun x2 hx2=>?_;conv=>rhs;whnf
 refine Zd rfl ?_ ?_<;>conv=>rhs;whnf
 ·exact Zc rfl
 ·exact Zc rfl
def Zf0 (b:Int) (c:Int) (d:Int) (m0_0:List Int) (m1_0:Int):(Int×Int)→V×Zn
  | r=>((.d (Zb r.1)),[(.arr 1 (List.map Zb m0_0)),(.cells [(.d (Zb r.2))])])
theorem ZdP {b c d:Int}{m0_0:List Int}{m1_0:Int}:∀r,(Zbp b c d m0_0 m1_0)=some r→evW ctx 216 [(.sl 0 1),(.d (Zb b)),(.d (Zb c)),(.d (Zb d)),(.ptr 1 0)] [(.arr 1 (List.map Zb m0_0)),(.cells [(.d (Zb m1_0))])]=some ((Zf0 b c d m0_0 m1_0) r):=by
 show ZF _ (fun r rhs=>rhs=some ((Zf0 b c d m0_0 m1_0) r)) _
 unfold Zbp
 rw[Zc5 ctx 216 Zyd _ _ rfl rfl]
 conv=>rhs;whnf
 refine Ze _ ZdK fun x0 hx0=>?_;conv=>rhs;whnf
 refine Ze _ ZdK fun x1 hx1=>?_;conv=>rhs;whnf
 refine Ze _ ZdK fun x2 hx2=>?_;conv=>rhs;whnf
 exact Zc rfl
def Zd5 (b:Int) (m0_0:List Int) (m1_0:Int):(Int×Int)→V×Zn
  | r=>((.d (Zb r.1)),[(.arr 1 (List.map Zb m0_0)),(.cells [(.d (Zb r.2))])])
theorem Zcs {b:Int}{m0_0:List Int}{m1_0:Int}:∀r,(Zaq b m0_0 m1_0)=some r→evW ctx 215 [(.sl 0 1),(.d (Zb b)),(.ptr 1 0)] [(.arr 1 (List.map Zb m0_0)),(.cells [(.d (Zb m1_0))])]=some ((Zd5 b m0_0 m1_0) r):=by
 show ZF _ (fun r rhs=>rhs=some ((Zd5 b m0_0 m1_0) r)) _
 unfold Zaq
 rw[Zc5 ctx 215 ZyK _ _ rfl rfl]
 conv=>rhs;whnf
 refine Ze _ ZdP fun x0 hx0=>?_;conv=>rhs;whnf
 exact Zc rfl
def ZeP (b:Int) (c:Int) (m0_0:List Int):(Int×Int)→V×Zn
  | r=>((.d (D.tup [(Zb r.1),(Zb r.2)])),[(.arr 1 (List.map Zb m0_0))])
theorem ZbY {b c:Int}{m0_0:List Int}:∀r,(Zan b c m0_0)=some r→evW ctx 196 [(.sl 0 1),(.d (Zb b)),(.d (Zb c))] [(.arr 1 (List.map Zb m0_0))]=some ((ZeP b c m0_0) r):=by
 show ZF _ (fun r rhs=>rhs=some ((ZeP b c m0_0) r)) _
 unfold Zan
 rw[Zc5 ctx 196 Zyx _ _ rfl rfl]
 conv=>rhs;whnf
 refine Zam rfl ?_;conv=>rhs;whnf
 refine Zam rfl ?_;conv=>rhs;whnf
 refine Zam rfl ?_;conv=>rhs;whnf
 refine Zd rfl ?_ ?_<;>conv=>rhs;whnf
 ·refine Zd rfl ?_ ?_<;>conv=>rhs;whnf
  ·refine Ze _ Zcs fun x0 hx0=>?_;conv=>rhs;whnf
   refine Ze _ Zcs fun x1 hx1=>?_;conv=>rhs;whnf
   refine Ze _ Zcs fun x2 hx2=>?_;conv=>rhs;whnf
   refine Ze _ ZdP fun x3 hx3=>?_;conv=>rhs;whnf
   refine Zd rfl ?_ ?_<;>conv=>rhs;whnf
   ·exact Zc rfl
   ·refine Zd rfl ?_ ?_<;>conv=>rhs;whnf
    ·exact Zc rfl
    ·exact Zc rfl
  ·refine Ze _ ZdP fun x4 hx4=>?_;conv=>rhs;whnf
   refine Zd rfl ?_ ?_<;>conv=>rhs;whnf
   ·exact Zc rfl
   ·refine Zd rfl ?_ ?_<;>conv=>rhs;whnf
    ·exact Zc rfl
    ·exact Zc rfl
 ·refine ZcI rfl ?_;conv=>rhs;whnf
  exact Zc rfl
def ZeE (b:Int) (c:Int) (m0_0:List Int):(List Int)→V×Zn
  | r=>((.d (D.tup [])),[(.arr 1 (List.map Zb r))])
def ZdU:(List Int)→Ex×List V×Zn
  | r=>(.exit 0,[],[(.arr 1 (List.map Zb r))])
theorem Zgw:∀(s0:Int×Int×(List Int)) (r:List Int),lp (Zbg) s0=some r→lpW ctx 1 [0,6,7] [] ZvB [(.sl 0 1),(.d (Zb s0.1)),(.d (Zb s0.2.1))] [(.arr 1 (List.map Zb s0.2.2))]=some (ZdU r):=by
 refine ZaR ZdU ?_
 intro s0 rcl ih
 show ZF _ _ (lpW _ _ _ _ _ _ _)
 unfold Zbg
 rw[ZaT]
 conv=>rhs;whnf
 refine Zd rfl ?_ ?_<;>conv=>rhs;whnf
 ·refine Zm rfl rfl fun x1 hx1=>?_;conv=>rhs;whnf
  refine Zh (Zq rfl hx1) ?_;conv=>rhs;whnf
  refine Zm rfl rfl fun x2 hx2=>?_;conv=>rhs;whnf
  refine Zh (Zq rfl hx2) ?_;conv=>rhs;whnf
  refine Zh (Zbe rfl hx2) ?_;conv=>rhs;whnf
  refine Zh (Zq rfl hx2) ?_;conv=>rhs;whnf
  refine Zk (Zak Zb s0.2.2 s0.1.toNat x1) ?_;conv=>rhs;whnf
  refine Zm rfl rfl fun x3 hx3=>?_;conv=>rhs;whnf
  refine Zh (Zq rfl hx3) ?_;conv=>rhs;whnf
  refine Zk (Zak Zb (List.set s0.2.2 s0.1.toNat x1) s0.2.1.toNat x2) ?_;conv=>rhs;whnf
  exact Zf (ih _)
 ·exact Zc rfl
theorem ZbQ {b c:Int}{m0_0:List Int}:∀r,(Zai b c m0_0)=some r→evW ctx 197 [(.sl 0 1),(.d (Zb b)),(.d (Zb c))] [(.arr 1 (List.map Zb m0_0))]=some ((ZeE b c m0_0) r):=by
 show ZF _ (fun r rhs=>rhs=some ((ZeE b c m0_0) r)) _
 unfold Zai
 rw[Zc5 ctx 197 Zyy _ _ rfl rfl]
 conv=>rhs;whnf
 refine Ze _ (Zgw _) fun r4 hr4=>?_;conv=>rhs;whnf
 exact Zc rfl
def Zdd (b:Int) (c:Int) (m0_0:List Int):((List Int)⊕(List Int))→V×Zn
  | (.inl r)=>((.d (D.bool true)),[(.arr 1 (List.map Zb r))])
  | (.inr r)=>((.d (D.bool false)),[(.arr 1 (List.map Zb r))])
def ZcV (b:Int) (c:Int) (s0:Int×Int×(List Int)):Int→Ex×List V×Zn
  | r=>(.exit 2,[(.sl 0 1),(.d (Zb b)),(.d (Zb c)),(.d (Zb r)),(.d (Zb s0.2.1))],[(.arr 1 (List.map Zb s0.2.2))])
theorem Zfn {b c:Int}{s0:Int×Int×(List Int)}:∀(s1:Int) (r:Int),lp (ZaA c s0) s1=some r→lpW ctx 1 [0,1,2,7,8] [0,1,2,7,8] Zv8 [(.sl 0 1),(.d (Zb b)),(.d (Zb c)),(.d (Zb s1)),(.d (Zb s0.2.1))] [(.arr 1 (List.map Zb s0.2.2))]=some ((ZcV b c s0) r):=by
 refine ZaR (ZcV b c s0) ?_
 intro s1 rcl ih
 show ZF _ _ (lpW _ _ _ _ _ _ _)
 unfold ZaA
 rw[ZaT]
 conv=>rhs;whnf
 refine Zd rfl ?_ ?_<;>conv=>rhs;whnf
 ·refine Zm rfl rfl fun x2 hx2=>?_;conv=>rhs;whnf
  refine Zh (Zq rfl hx2) ?_;conv=>rhs;whnf
  refine Zm rfl rfl fun x3 hx3=>?_;conv=>rhs;whnf
  refine Zh (Zq rfl hx3) ?_;conv=>rhs;whnf
  refine Zj _ ZN rfl fun x4 hx4=>?_;conv=>rhs;whnf
  refine Zd rfl ?_ ?_<;>conv=>rhs;whnf
  ·exact Zc rfl
  ·exact Zf (ih _)
 ·exact Zc rfl
def ZcU (b:Int) (c:Int) (s0:Int×Int×(List Int)) (r5:Int):(List Int)→Ex×List V×Zn
  | r=>(.exit 4,[(.sl 0 1),(.d (Zb b)),(.d (Zb c)),(.d (Zb r5)),(.d (Zb s0.2.1))],[(.arr 1 (List.map Zb r))])
theorem Zfp {b c:Int}{s0:Int×Int×(List Int)}{r5:Int}:∀(s9:Int×(List Int)) (r:List Int),lp (Zax) s9=some r→lpW ctx 1 [0,1,2,7,8,9] [0,1,2,7,8] Zvs [(.sl 0 1),(.d (Zb b)),(.d (Zb c)),(.d (Zb r5)),(.d (Zb s0.2.1)),(.d (Zb s9.1))] [(.arr 1 (List.map Zb s9.2))]=some ((ZcU b c s0 r5) r):=by
 refine ZaR (ZcU b c s0 r5) ?_
 intro s9 rcl ih
 show ZF _ _ (lpW _ _ _ _ _ _ _)
 unfold Zax
 rw[ZaT]
 conv=>rhs;whnf
 refine Zd rfl ?_ ?_<;>conv=>rhs;whnf
 ·refine Zm rfl rfl fun x10 hx10=>?_;conv=>rhs;whnf
  refine Zh (Zq rfl hx10) ?_;conv=>rhs;whnf
  refine Zm rfl rfl fun x11 hx11=>?_;conv=>rhs;whnf
  refine Zh (Zq rfl hx11) ?_;conv=>rhs;whnf
  refine Zj _ ZN rfl fun x12 hx12=>?_;conv=>rhs;whnf
  refine Zd rfl ?_ ?_<;>conv=>rhs;whnf
  ·refine Zh (Zbe rfl hx11) ?_;conv=>rhs;whnf
   refine Zh (Zq rfl hx11) ?_;conv=>rhs;whnf
   refine Zh (Zbe rfl hx10) ?_;conv=>rhs;whnf
   refine Zh (Zq rfl hx10) ?_;conv=>rhs;whnf
   refine Zh (Zbe rfl hx10) ?_;conv=>rhs;whnf
   refine Zh (Zq rfl hx10) ?_;conv=>rhs;whnf
   refine Zk (Zak Zb s9.2 s9.1.toNat x11) ?_;conv=>rhs;whnf
   refine Zm rfl rfl fun x13 hx13=>?_;conv=>rhs;whnf
   refine Zh (Zq rfl hx13) ?_;conv=>rhs;whnf
   refine Zk (Zak Zb (List.set s9.2 s9.1.toNat x11) (w64 (s9.1-1)).toNat x10) ?_;conv=>rhs;whnf
   exact Zf (ih _)
  ·exact Zc rfl
 ·exact Zc rfl
def ZcQ (b:Int) (c:Int) (s0:Int×Int×(List Int)) (r5:Int):(List Int)→Ex×List V×Zn
  | r=>(.exit 6,[(.sl 0 1),(.d (Zb b)),(.d (Zb c)),(.d (Zb r5)),(.d (Zb s0.2.1))],[(.arr 1 (List.map Zb r))])
theorem ZcH {b c:Int}{s0:Int×Int×(List Int)}{r5:Int}:∀(s15:Int×(List Int)) (r:List Int),lp (Z9 c) s15=some r→lpW ctx 1 [0,1,2,7,8,10] [0,1,2,7,8] Zwb [(.sl 0 1),(.d (Zb b)),(.d (Zb c)),(.d (Zb r5)),(.d (Zb s0.2.1)),(.d (Zb s15.1))] [(.arr 1 (List.map Zb s15.2))]=some ((ZcQ b c s0 r5) r):=by
 refine ZaR (ZcQ b c s0 r5) ?_
 intro s15 rcl ih
 show ZF _ _ (lpW _ _ _ _ _ _ _)
 unfold Z9
 rw[ZaT]
 conv=>rhs;whnf
 refine Zd rfl ?_ ?_<;>conv=>rhs;whnf
 ·refine Zm rfl rfl fun x16 hx16=>?_;conv=>rhs;whnf
  refine Zh (Zq rfl hx16) ?_;conv=>rhs;whnf
  refine Zm rfl rfl fun x17 hx17=>?_;conv=>rhs;whnf
  refine Zh (Zq rfl hx17) ?_;conv=>rhs;whnf
  refine Zj _ ZN rfl fun x18 hx18=>?_;conv=>rhs;whnf
  refine Zd rfl ?_ ?_<;>conv=>rhs;whnf
  ·refine Zh (Zbe rfl hx17) ?_;conv=>rhs;whnf
   refine Zh (Zq rfl hx17) ?_;conv=>rhs;whnf
   refine Zh (Zbe rfl hx16) ?_;conv=>rhs;whnf
   refine Zh (Zq rfl hx16) ?_;conv=>rhs;whnf
   refine Zh (Zbe rfl hx16) ?_;conv=>rhs;whnf
   refine Zh (Zq rfl hx16) ?_;conv=>rhs;whnf
   refine Zk (Zak Zb s15.2 s15.1.toNat x17) ?_;conv=>rhs;whnf
   refine Zm rfl rfl fun x19 hx19=>?_;conv=>rhs;whnf
   refine Zh (Zq rfl hx19) ?_;conv=>rhs;whnf
   refine Zk (Zak Zb (List.set s15.2 s15.1.toNat x17) (w64 (s15.1-1)).toNat x16) ?_;conv=>rhs;whnf
   exact Zf (ih _)
  ·exact Zc rfl
 ·exact Zc rfl
def ZcR (b:Int) (c:Int):((List Int)⊕((List Int)⊕(List Int)))→Ex×List V×Zn
  | (.inl r)=>(.ret,[(.d (D.bool true))],[(.arr 1 (List.map Zb r))])
  | (.inr (.inl r))=>(.ret,[(.d (D.bool false))],[(.arr 1 (List.map Zb r))])
  | (.inr (.inr r))=>(.exit 0,[.bad],[(.arr 1 (List.map Zb r))])
theorem Zfe {b c:Int}:∀(s0:Int×Int×(List Int)) (r:((List Int)⊕((List Int)⊕(List Int)))),lp (Zaz b c) s0=some r→lpW ctx 1 [0,1,2,7,8] [6] ZvH [(.sl 0 1),(.d (Zb b)),(.d (Zb c)),(.d (Zb s0.1)),(.d (Zb s0.2.1))] [(.arr 1 (List.map Zb s0.2.2))]=some ((ZcR b c) r):=by
 refine ZaR (ZcR b c) ?_
 intro s0 rcl ih
 show ZF _ _ (lpW _ _ _ _ _ _ _)
 unfold Zaz
 rw[ZaT]
 conv=>rhs;whnf
 refine Zd rfl ?_ ?_<;>conv=>rhs;whnf
 ·refine Ze _ (Zfn _) fun r5 hr5=>?_;conv=>rhs;whnf
  refine Zd rfl ?_ ?_<;>conv=>rhs;whnf
  ·exact Zc rfl
  ·refine Zd rfl ?_ ?_<;>conv=>rhs;whnf
   ·exact Zc rfl
   ·refine Zm rfl rfl fun x6 hx6=>?_;conv=>rhs;whnf
    refine Zh (Zq rfl hx6) ?_;conv=>rhs;whnf
    refine Zm rfl rfl fun x7 hx7=>?_;conv=>rhs;whnf
    refine Zh (Zq rfl hx7) ?_;conv=>rhs;whnf
    refine Zh (Zbe rfl hx7) ?_;conv=>rhs;whnf
    refine Zh (Zq rfl hx7) ?_;conv=>rhs;whnf
    refine Zk (Zak Zb s0.2.2 r5.toNat x6) ?_;conv=>rhs;whnf
    refine Zm rfl rfl fun x8 hx8=>?_;conv=>rhs;whnf
    refine Zh (Zq rfl hx8) ?_;conv=>rhs;whnf
    refine Zk (Zak Zb (List.set s0.2.2 r5.toNat x6) (w64 (r5-1)).toNat x7) ?_;conv=>rhs;whnf
    refine Zd rfl ?_ ?_<;>conv=>rhs;whnf
    ·refine Ze _ (Zfp _) fun r14 hr14=>?_;conv=>rhs;whnf
     refine Zd rfl ?_ ?_<;>conv=>rhs;whnf
     ·refine Ze _ (ZcH _) fun r20 hr20=>?_;conv=>rhs;whnf
      exact Zf (ih _)
     ·exact Zf (ih _)
    ·refine Zd rfl ?_ ?_<;>conv=>rhs;whnf
     ·refine Ze _ (ZcH _) fun r26 hr26=>?_;conv=>rhs;whnf
      exact Zf (ih _)
     ·exact Zf (ih _)
 ·exact Zc rfl
theorem Zc7 {b c:Int}{m0_0:List Int}:∀r,(Zaj b c m0_0)=some r→evW ctx 198 [(.sl 0 1),(.d (Zb b)),(.d (Zb c))] [(.arr 1 (List.map Zb m0_0))]=some ((Zdd b c m0_0) r):=by
 show ZF _ (fun r rhs=>rhs=some ((Zdd b c m0_0) r)) _
 unfold Zaj
 rw[Zc5 ctx 198 ZzY _ _ rfl rfl]
 conv=>rhs;whnf
 refine Ze _ (Zfe _) fun r27 hr27=>?_
 clear hr27
 rcases r27 with r27 | (r27 | r27)
 ·conv=>rhs;whnf
  exact Zc rfl
 ·conv=>rhs;whnf
  exact Zc rfl
 ·conv=>rhs;whnf
  exact Zc rfl
def Zfs (b:Int) (c:Int) (d:Int) (m0_0:List Int):((Int×(List Int))⊕(Int×(List Int)))→V×Zn
  | (.inl r)=>((.d (D.tup [(Zb r.1),(D.bool true)])),[(.arr 1 (List.map Zb r.2))])
  | (.inr r)=>((.d (D.tup [(Zb r.1),(D.bool false)])),[(.arr 1 (List.map Zb r.2))])
def ZeC (b:Int) (c:Int) (d:Int) (m0_0:List Int) (x0:Int) (x1:Int):Int→Ex×List V×Zn
  | r=>(.exit 0,[(.sl 0 1),(.d (Zb b)),(.d (Zb r)),(.d (Zb (w64 (c-1))))],[(.arr 1 (List.map Zb (List.set (List.set m0_0 b.toNat x0) d.toNat x1)))])
theorem Zha {b c d:Int}{m0_0:List Int}{x0 x1:Int}:∀(s3:Int) (r:Int),lp (ZbC b c d m0_0 x0 x1) s3=some r→lpW ctx 1 [0,1,10,11] [0,1,10,11] Zvu [(.sl 0 1),(.d (Zb b)),(.d (Zb s3)),(.d (Zb (w64 (c-1))))] [(.arr 1 (List.map Zb (List.set (List.set m0_0 b.toNat x0) d.toNat x1)))]=some ((ZeC b c d m0_0 x0 x1) r):=by
 refine ZaR (ZeC b c d m0_0 x0 x1) ?_
 intro s3 rcl ih
 show ZF _ _ (lpW _ _ _ _ _ _ _)
 unfold ZbC
 rw[ZaT]
 conv=>rhs;whnf
 refine Zd rfl ?_ ?_<;>conv=>rhs;whnf
 ·refine Zm rfl rfl fun x4 hx4=>?_;conv=>rhs;whnf
  refine Zh (Zq rfl hx4) ?_;conv=>rhs;whnf
  refine Zm rfl rfl fun x5 hx5=>?_;conv=>rhs;whnf
  refine Zh (Zq rfl hx5) ?_;conv=>rhs;whnf
  refine Zj _ ZN rfl fun x6 hx6=>?_;conv=>rhs;whnf
  refine Zd rfl ?_ ?_<;>conv=>rhs;whnf
  ·exact Zf (ih _)
  ·exact Zc rfl
 ·exact Zc rfl
def ZeD (b:Int) (d:Int) (m0_0:List Int) (x0:Int) (x1:Int) (r7:Int):Int→Ex×List V×Zn
  | r=>(.exit 2,[(.sl 0 1),(.d (Zb b)),(.d (Zb r7)),(.d (Zb r))],[(.arr 1 (List.map Zb (List.set (List.set m0_0 b.toNat x0) d.toNat x1)))])
theorem Zhk {b d:Int}{m0_0:List Int}{x0 x1 r7:Int}:∀(s8:Int) (r:Int),lp (Zbw b d m0_0 x0 x1 r7) s8=some r→lpW ctx 1 [0,1,10,11] [0,1,10,11] Zv9 [(.sl 0 1),(.d (Zb b)),(.d (Zb r7)),(.d (Zb s8))] [(.arr 1 (List.map Zb (List.set (List.set m0_0 b.toNat x0) d.toNat x1)))]=some ((ZeD b d m0_0 x0 x1 r7) r):=by
 refine ZaR (ZeD b d m0_0 x0 x1 r7) ?_
 intro s8 rcl ih
 show ZF _ _ (lpW _ _ _ _ _ _ _)
 unfold Zbw
 rw[ZaT]
 conv=>rhs;whnf
 refine Zd rfl ?_ ?_<;>conv=>rhs;whnf
 ·refine Zm rfl rfl fun x9 hx9=>?_;conv=>rhs;whnf
  refine Zh (Zq rfl hx9) ?_;conv=>rhs;whnf
  refine Zm rfl rfl fun x10 hx10=>?_;conv=>rhs;whnf
  refine Zh (Zq rfl hx10) ?_;conv=>rhs;whnf
  refine Zj _ ZN rfl fun x11 hx11=>?_;conv=>rhs;whnf
  refine Zd rfl ?_ ?_<;>conv=>rhs;whnf
  ·exact Zc rfl
  ·exact Zf (ih _)
 ·exact Zc rfl
def ZeA (b:Int) (s19:Int×Int×(List Int)):Int→Ex×List V×Zn
  | r=>(.exit 6,[(.sl 0 1),(.d (Zb b)),(.d (Zb r)),(.d (Zb s19.2.1))],[(.arr 1 (List.map Zb s19.2.2))])
theorem Zhg {b:Int}{s19:Int×Int×(List Int)}:∀(s20:Int) (r:Int),lp (Zby b s19) s20=some r→lpW ctx 1 [0,1,10,11] [0,1,10,11] Zv2 [(.sl 0 1),(.d (Zb b)),(.d (Zb s20)),(.d (Zb s19.2.1))] [(.arr 1 (List.map Zb s19.2.2))]=some ((ZeA b s19) r):=by
 refine ZaR (ZeA b s19) ?_
 intro s20 rcl ih
 show ZF _ _ (lpW _ _ _ _ _ _ _)
 unfold Zby
 rw[ZaT]
 conv=>rhs;whnf
 refine Zd rfl ?_ ?_<;>conv=>rhs;whnf
 ·refine Zm rfl rfl fun x21 hx21=>?_;conv=>rhs;whnf
  refine Zh (Zq rfl hx21) ?_;conv=>rhs;whnf
  refine Zm rfl rfl fun x22 hx22=>?_;conv=>rhs;whnf
  refine Zh (Zq rfl hx22) ?_;conv=>rhs;whnf
  refine Zj _ ZN rfl fun x23 hx23=>?_;conv=>rhs;whnf
  refine Zd rfl ?_ ?_<;>conv=>rhs;whnf
  ·exact Zf (ih _)
  ·exact Zc rfl
 ·exact Zc rfl
def Zew (b:Int) (s19:Int×Int×(List Int)) (r24:Int):Int→Ex×List V×Zn
  | r=>(.exit 8,[(.sl 0 1),(.d (Zb b)),(.d (Zb r24)),(.d (Zb r))],[(.arr 1 (List.map Zb s19.2.2))])
theorem Zhj {b:Int}{s19:Int×Int×(List Int)}{r24:Int}:∀(s25:Int) (r:Int),lp (ZbA b s19 r24) s25=some r→lpW ctx 1 [0,1,10,11] [0,1,10,11] Zv3 [(.sl 0 1),(.d (Zb b)),(.d (Zb r24)),(.d (Zb s25))] [(.arr 1 (List.map Zb s19.2.2))]=some ((Zew b s19 r24) r):=by
 refine ZaR (Zew b s19 r24) ?_
 intro s25 rcl ih
 show ZF _ _ (lpW _ _ _ _ _ _ _)
 unfold ZbA
 rw[ZaT]
 conv=>rhs;whnf
 refine Zd rfl ?_ ?_<;>conv=>rhs;whnf
 ·refine Zm rfl rfl fun x26 hx26=>?_;conv=>rhs;whnf
  refine Zh (Zq rfl hx26) ?_;conv=>rhs;whnf
  refine Zm rfl rfl fun x27 hx27=>?_;conv=>rhs;whnf
  refine Zh (Zq rfl hx27) ?_;conv=>rhs;whnf
  refine Zj _ ZN rfl fun x28 hx28=>?_;conv=>rhs;whnf
  refine Zd rfl ?_ ?_<;>conv=>rhs;whnf
  ·exact Zc rfl
  ·exact Zf (ih _)
 ·exact Zc rfl
def ZeB (b:Int):(Int×(List Int))→Ex×List V×Zn
  | r=>(.exit 4,[(.sl 0 1),(.d (Zb b)),(.d (Zb r.1))],[(.arr 1 (List.map Zb r.2))])
theorem Zhl {b:Int}:∀(s19:Int×Int×(List Int)) (r:(Int×(List Int))),lp (ZbB b) s19=some r→lpW ctx 1 [0,1,10,11] [0,1,11] Zwk [(.sl 0 1),(.d (Zb b)),(.d (Zb s19.1)),(.d (Zb s19.2.1))] [(.arr 1 (List.map Zb s19.2.2))]=some ((ZeB b) r):=by
 refine ZaR (ZeB b) ?_
 intro s19 rcl ih
 show ZF _ _ (lpW _ _ _ _ _ _ _)
 unfold ZbB
 rw[ZaT]
 conv=>rhs;whnf
 refine Ze _ (Zhg _) fun r24 hr24=>?_;conv=>rhs;whnf
 refine Ze _ (Zhj _) fun r29 hr29=>?_;conv=>rhs;whnf
 refine Zd rfl ?_ ?_<;>conv=>rhs;whnf
 ·exact Zc rfl
 ·refine Zm rfl rfl fun x30 hx30=>?_;conv=>rhs;whnf
  refine Zh (Zq rfl hx30) ?_;conv=>rhs;whnf
  refine Zm rfl rfl fun x31 hx31=>?_;conv=>rhs;whnf
  refine Zh (Zq rfl hx31) ?_;conv=>rhs;whnf
  refine Zh (Zbe rfl hx31) ?_;conv=>rhs;whnf
  refine Zh (Zq rfl hx31) ?_;conv=>rhs;whnf
  refine Zk (Zak Zb s19.2.2 r24.toNat x30) ?_;conv=>rhs;whnf
  refine Zm rfl rfl fun x32 hx32=>?_;conv=>rhs;whnf
  refine Zh (Zq rfl hx32) ?_;conv=>rhs;whnf
  refine Zk (Zak Zb (List.set s19.2.2 r24.toNat x30) r29.toNat x31) ?_;conv=>rhs;whnf
  exact Zf (ih _)
theorem Zu {b c d:Int}{m0_0:List Int}:∀r,(Zr b c d m0_0)=some r→evW ctx 201 [(.sl 0 1),(.d (Zb b)),(.d (Zb c)),(.d (Zb d))] [(.arr 1 (List.map Zb m0_0))]=some ((Zfs b c d m0_0) r):=by
 show ZF _ (fun r rhs=>rhs=some ((Zfs b c d m0_0) r)) _
 unfold Zr
 rw[Zc5 ctx 201 Zzc _ _ rfl rfl]
 conv=>rhs;whnf
 refine Zm rfl rfl fun x0 hx0=>?_;conv=>rhs;whnf
 refine Zh (Zq rfl hx0) ?_;conv=>rhs;whnf
 refine Zm rfl rfl fun x1 hx1=>?_;conv=>rhs;whnf
 refine Zh (Zq rfl hx1) ?_;conv=>rhs;whnf
 refine Zh (Zbe rfl hx1) ?_;conv=>rhs;whnf
 refine Zh (Zq rfl hx1) ?_;conv=>rhs;whnf
 refine Zk (Zak Zb m0_0 b.toNat x0) ?_;conv=>rhs;whnf
 refine Zm rfl rfl fun x2 hx2=>?_;conv=>rhs;whnf
 refine Zh (Zq rfl hx2) ?_;conv=>rhs;whnf
 refine Zk (Zak Zb (List.set m0_0 b.toNat x0) d.toNat x1) ?_;conv=>rhs;whnf
 refine Ze _ (Zha _) fun r7 hr7=>?_;conv=>rhs;whnf
 refine Ze _ (Zhk _) fun r12 hr12=>?_;conv=>rhs;whnf
 refine Zd rfl ?_ ?_<;>conv=>rhs;whnf
 ·refine Zm rfl rfl fun x13 hx13=>?_;conv=>rhs;whnf
  refine Zh (Zq rfl hx13) ?_;conv=>rhs;whnf
  refine Zm rfl rfl fun x14 hx14=>?_;conv=>rhs;whnf
  refine Zh (Zq rfl hx14) ?_;conv=>rhs;whnf
  refine Zh (Zbe rfl hx14) ?_;conv=>rhs;whnf
  refine Zh (Zq rfl hx14) ?_;conv=>rhs;whnf
  refine Zk (Zak Zb (List.set (List.set m0_0 b.toNat x0) d.toNat x1) r12.toNat x13) ?_;conv=>rhs;whnf
  refine Zm rfl rfl fun x15 hx15=>?_;conv=>rhs;whnf
  refine Zh (Zq rfl hx15) ?_;conv=>rhs;whnf
  refine Zk (Zak Zb (List.set (List.set (List.set m0_0 b.toNat x0) d.toNat x1) r12.toNat x13) b.toNat x14) ?_;conv=>rhs;whnf
  exact Zc rfl
 ·refine Zm rfl rfl fun x16 hx16=>?_;conv=>rhs;whnf
  refine Zh (Zq rfl hx16) ?_;conv=>rhs;whnf
  refine Zm rfl rfl fun x17 hx17=>?_;conv=>rhs;whnf
  refine Zh (Zq rfl hx17) ?_;conv=>rhs;whnf
  refine Zh (Zbe rfl hx17) ?_;conv=>rhs;whnf
  refine Zh (Zq rfl hx17) ?_;conv=>rhs;whnf
  refine Zk (Zak Zb (List.set (List.set m0_0 b.toNat x0) d.toNat x1) r7.toNat x16) ?_;conv=>rhs;whnf
  refine Zm rfl rfl fun x18 hx18=>?_;conv=>rhs;whnf
  refine Zh (Zq rfl hx18) ?_;conv=>rhs;whnf
  refine Zk (Zak Zb (List.set (List.set (List.set m0_0 b.toNat x0) d.toNat x1) r7.toNat x16) r12.toNat x17) ?_;conv=>rhs;whnf
  refine Ze _ (Zhl _) fun r33 hr33=>?_;conv=>rhs;whnf
  refine Zm rfl rfl fun x34 hx34=>?_;conv=>rhs;whnf
  refine Zh (Zq rfl hx34) ?_;conv=>rhs;whnf
  refine Zm rfl rfl fun x35 hx35=>?_;conv=>rhs;whnf
  refine Zh (Zq rfl hx35) ?_;conv=>rhs;whnf
  refine Zh (Zbe rfl hx35) ?_;conv=>rhs;whnf
  refine Zh (Zq rfl hx35) ?_;conv=>rhs;whnf
  refine Zk (Zak Zb r33.2 r33.1.toNat x34) ?_;conv=>rhs;whnf
  refine Zm rfl rfl fun x36 hx36=>?_;conv=>rhs;whnf
  refine Zh (Zq rfl hx36) ?_;conv=>rhs;whnf
  refine Zk (Zak Zb (List.set r33.2 r33.1.toNat x34) b.toNat x35) ?_;conv=>rhs;whnf
  exact Zc rfl
def Zd9 (b:Int) (c:Int) (d:Int) (m0_0:List Int):(Int×(List Int))→V×Zn
  | r=>((.d (Zb r.1)),[(.arr 1 (List.map Zb r.2))])
def ZdB (b:Int) (s3:Int×Int×(List Int)):Int→Ex×List V×Zn
  | r=>(.exit 2,[(.sl 0 1),(.d (Zb b)),(.d (Zb r)),(.d (Zb s3.2.1))],[(.arr 1 (List.map Zb s3.2.2))])
theorem Zf9 {b:Int}{s3:Int×Int×(List Int)}:∀(s4:Int) (r:Int),lp (ZaX b s3) s4=some r→lpW ctx 1 [0,1,9,10] [0,1,9,10] Zv0 [(.sl 0 1),(.d (Zb b)),(.d (Zb s4)),(.d (Zb s3.2.1))] [(.arr 1 (List.map Zb s3.2.2))]=some ((ZdB b s3) r):=by
 refine ZaR (ZdB b s3) ?_
 intro s4 rcl ih
 show ZF _ _ (lpW _ _ _ _ _ _ _)
 unfold ZaX
 rw[ZaT]
 conv=>rhs;whnf
 refine Zd rfl ?_ ?_<;>conv=>rhs;whnf
 ·refine Zm rfl rfl fun x5 hx5=>?_;conv=>rhs;whnf
  refine Zh (Zq rfl hx5) ?_;conv=>rhs;whnf
  refine Zm rfl rfl fun x6 hx6=>?_;conv=>rhs;whnf
  refine Zh (Zq rfl hx6) ?_;conv=>rhs;whnf
  refine Zj _ ZN rfl fun x7 hx7=>?_;conv=>rhs;whnf
  refine Zd rfl ?_ ?_<;>conv=>rhs;whnf
  ·exact Zc rfl
  ·exact Zf (ih _)
 ·exact Zc rfl
def ZdA (b:Int) (s3:Int×Int×(List Int)) (r8:Int):Int→Ex×List V×Zn
  | r=>(.exit 4,[(.sl 0 1),(.d (Zb b)),(.d (Zb r8)),(.d (Zb r))],[(.arr 1 (List.map Zb s3.2.2))])
theorem Zgc {b:Int}{s3:Int×Int×(List Int)}{r8:Int}:∀(s9:Int) (r:Int),lp (ZaY b s3 r8) s9=some r→lpW ctx 1 [0,1,9,10] [0,1,9,10] Zwh [(.sl 0 1),(.d (Zb b)),(.d (Zb r8)),(.d (Zb s9))] [(.arr 1 (List.map Zb s3.2.2))]=some ((ZdA b s3 r8) r):=by
 refine ZaR (ZdA b s3 r8) ?_
 intro s9 rcl ih
 show ZF _ _ (lpW _ _ _ _ _ _ _)
 unfold ZaY
 rw[ZaT]
 conv=>rhs;whnf
 refine Zd rfl ?_ ?_<;>conv=>rhs;whnf
 ·refine Zm rfl rfl fun x10 hx10=>?_;conv=>rhs;whnf
  refine Zh (Zq rfl hx10) ?_;conv=>rhs;whnf
  refine Zm rfl rfl fun x11 hx11=>?_;conv=>rhs;whnf
  refine Zh (Zq rfl hx11) ?_;conv=>rhs;whnf
  refine Zj _ ZN rfl fun x12 hx12=>?_;conv=>rhs;whnf
  refine Zd rfl ?_ ?_<;>conv=>rhs;whnf
  ·exact Zf (ih _)
  ·exact Zc rfl
 ·exact Zc rfl
def ZdC (b:Int):(Int×(List Int))→Ex×List V×Zn
  | r=>(.exit 0,[(.d (Zb r.1))],[(.arr 1 (List.map Zb r.2))])
theorem Zf7 {b:Int}:∀(s3:Int×Int×(List Int)) (r:(Int×(List Int))),lp (ZaZ b) s3=some r→lpW ctx 1 [0,1,9,10] [9] Zv5 [(.sl 0 1),(.d (Zb b)),(.d (Zb s3.1)),(.d (Zb s3.2.1))] [(.arr 1 (List.map Zb s3.2.2))]=some ((ZdC b) r):=by
 refine ZaR (ZdC b) ?_
 intro s3 rcl ih
 show ZF _ _ (lpW _ _ _ _ _ _ _)
 unfold ZaZ
 rw[ZaT]
 conv=>rhs;whnf
 refine Ze _ (Zf9 _) fun r8 hr8=>?_;conv=>rhs;whnf
 refine Ze _ (Zgc _) fun r13 hr13=>?_;conv=>rhs;whnf
 refine Zd rfl ?_ ?_<;>conv=>rhs;whnf
 ·exact Zc rfl
 ·refine Zm rfl rfl fun x14 hx14=>?_;conv=>rhs;whnf
  refine Zh (Zq rfl hx14) ?_;conv=>rhs;whnf
  refine Zm rfl rfl fun x15 hx15=>?_;conv=>rhs;whnf
  refine Zh (Zq rfl hx15) ?_;conv=>rhs;whnf
  refine Zh (Zbe rfl hx15) ?_;conv=>rhs;whnf
  refine Zh (Zq rfl hx15) ?_;conv=>rhs;whnf
  refine Zk (Zak Zb s3.2.2 r8.toNat x14) ?_;conv=>rhs;whnf
  refine Zm rfl rfl fun x16 hx16=>?_;conv=>rhs;whnf
  refine Zh (Zq rfl hx16) ?_;conv=>rhs;whnf
  refine Zk (Zak Zb (List.set s3.2.2 r8.toNat x14) r13.toNat x15) ?_;conv=>rhs;whnf
  exact Zf (ih _)
theorem ZS {b c d:Int}{m0_0:List Int}:∀r,(ZD b c d m0_0)=some r→evW ctx 200 [(.sl 0 1),(.d (Zb b)),(.d (Zb c)),(.d (Zb d))] [(.arr 1 (List.map Zb m0_0))]=some ((Zd9 b c d m0_0) r):=by
 show ZF _ (fun r rhs=>rhs=some ((Zd9 b c d m0_0) r)) _
 unfold ZD
 rw[Zc5 ctx 200 Zzz _ _ rfl rfl]
 conv=>rhs;whnf
 refine Zm rfl rfl fun x0 hx0=>?_;conv=>rhs;whnf
 refine Zh (Zq rfl hx0) ?_;conv=>rhs;whnf
 refine Zm rfl rfl fun x1 hx1=>?_;conv=>rhs;whnf
 refine Zh (Zq rfl hx1) ?_;conv=>rhs;whnf
 refine Zh (Zbe rfl hx1) ?_;conv=>rhs;whnf
 refine Zh (Zq rfl hx1) ?_;conv=>rhs;whnf
 refine Zk (Zak Zb m0_0 b.toNat x0) ?_;conv=>rhs;whnf
 refine Zm rfl rfl fun x2 hx2=>?_;conv=>rhs;whnf
 refine Zh (Zq rfl hx2) ?_;conv=>rhs;whnf
 refine Zk (Zak Zb (List.set m0_0 b.toNat x0) d.toNat x1) ?_;conv=>rhs;whnf
 refine Ze _ (Zf7 _) fun r17 hr17=>?_;conv=>rhs;whnf
 exact Zc rfl
def Zg2 (r:Int):D:=(D.int .u64 r)
theorem ZjE {a:Int}:∀r,(Zcd a)=some r→evD ctx 213 [(.d (Zb a))]=some (Zg2 r):=by
 show ZF _ (fun r rhs=>rhs=some (Zg2 r)) _
 unfold Zcd
 rw[ZaJ ctx 213 Zzt _ rfl rfl]
 conv=>rhs;whnf
 refine Zj _ ZjX rfl fun x0 hx0=>?_;conv=>rhs;whnf
 refine Zd rfl ?_ ?_
 ·exact ZR
 ·conv=>rhs;whnf
  exact Zc rfl
def Zhe (m0_0:Int):Unit→V×Zn
  | r=>((.d (D.int .u64 (u64.wrap (Zg (u64.wrap (Zg (u64.wrap (Zg m0_0 ^^^ Zg (u64.wrap (m0_0*2 ^ 13))).toNat) ^^^ Zg (Int.fdiv (u64.wrap (Zg m0_0 ^^^ Zg (u64.wrap (m0_0*2 ^ 13))).toNat) (2 ^ 7))).toNat) ^^^ Zg (u64.wrap ((u64.wrap (Zg (u64.wrap (Zg m0_0 ^^^ Zg (u64.wrap (m0_0*2 ^ 13))).toNat) ^^^ Zg (Int.fdiv (u64.wrap (Zg m0_0 ^^^ Zg (u64.wrap (m0_0*2 ^ 13))).toNat) (2 ^ 7))).toNat)*2 ^ 17))).toNat))),[(.cells [(.d (D.int .u64 (u64.wrap (Zg (u64.wrap (Zg (u64.wrap (Zg m0_0 ^^^ Zg (u64.wrap (m0_0*2 ^ 13))).toNat) ^^^ Zg (Int.fdiv (u64.wrap (Zg m0_0 ^^^ Zg (u64.wrap (m0_0*2 ^ 13))).toNat) (2 ^ 7))).toNat) ^^^ Zg (u64.wrap ((u64.wrap (Zg (u64.wrap (Zg m0_0 ^^^ Zg (u64.wrap (m0_0*2 ^ 13))).toNat) ^^^ Zg (Int.fdiv (u64.wrap (Zg m0_0 ^^^ Zg (u64.wrap (m0_0*2 ^ 13))).toNat) (2 ^ 7))).toNat)*2 ^ 17))).toNat)))])])
theorem Zj9 {m0_0:Int}:∀r,Zde=some r→evW ctx 214 [(.ptr 0 0)] [(.cells [(.d (D.int .u64 m0_0))])]=some ((Zhe m0_0) r):=by
 show ZF _ (fun r rhs=>rhs=some ((Zhe m0_0) r)) _
 unfold Zde
 rw[Zc5 ctx 214 Zy2 _ _ rfl rfl]
 conv=>rhs;whnf
 refine Zam rfl ?_;conv=>rhs;whnf
 refine Zam rfl ?_;conv=>rhs;whnf
 refine Zam rfl ?_;conv=>rhs;whnf
 exact Zc rfl
def Zeq (b:Int) (c:Int) (m0_0:List Int):(List Int)→V×Zn
  | r=>((.d (D.tup [])),[(.arr 1 (List.map Zb r))])
def ZdI (b:Int) (c:Int) (x0:Int):(List Int)→Ex×List V×Zn
  | r=>(.exit 0,[],[(.arr 1 (List.map Zb r))])
theorem Zgm {b c x0:Int}:∀(s1:Int×(List Int)×Int) (r:List Int),lp (Zba b c x0) s1=some r→lpW ctx 1 [0,1,6,7,8,9] [] ZvK [(.sl 0 1),(.d (Zb b)),(.d (Zb (w64 (c-b)))),(.ptr 1 0),(.d (D.int .u64 x0)),(.d (Zb s1.1))] [(.arr 1 (List.map Zb s1.2.1)),(.cells [(.d (D.int .u64 s1.2.2))])]=some ((ZdI b c x0) r):=by
 refine ZaR (ZdI b c x0) ?_
 intro s1 rcl ih
 show ZF _ _ (lpW _ _ _ _ _ _ _)
 unfold Zba
 rw[ZaT]
 conv=>rhs;whnf
 refine Zam rfl ?_;conv=>rhs;whnf
 refine Zd rfl ?_ ?_<;>conv=>rhs;whnf
 ·refine Ze _ Zj9 fun x2 hx2=>?_;conv=>rhs;whnf
  refine Zd rfl ?_ ?_<;>conv=>rhs;whnf
  ·refine Zm rfl rfl fun x3 hx3=>?_;conv=>rhs;whnf
   refine Zh (Zq rfl hx3) ?_;conv=>rhs;whnf
   refine Zm rfl rfl fun x4 hx4=>?_;conv=>rhs;whnf
   refine Zh (Zq rfl hx4) ?_;conv=>rhs;whnf
   refine Zh (Zbe rfl hx4) ?_;conv=>rhs;whnf
   refine Zh (Zq rfl hx4) ?_;conv=>rhs;whnf
   refine Zk (Zak Zb s1.2.1 s1.1.toNat x3) ?_;conv=>rhs;whnf
   refine Zm rfl rfl fun x5 hx5=>?_;conv=>rhs;whnf
   refine Zh (Zq rfl hx5) ?_;conv=>rhs;whnf
   refine Zk (Zak Zb (List.set s1.2.1 s1.1.toNat x3) (w64 (b+(w64 ((w64 (u64.wrap (Zg (u64.wrap (Zg (u64.wrap (Zg (u64.wrap (Zg s1.2.2 ^^^ Zg (u64.wrap (s1.2.2*2 ^ 13))).toNat) ^^^ Zg (Int.fdiv (u64.wrap (Zg s1.2.2 ^^^ Zg (u64.wrap (s1.2.2*2 ^ 13))).toNat) (2 ^ 7))).toNat) ^^^ Zg (u64.wrap ((u64.wrap (Zg (u64.wrap (Zg s1.2.2 ^^^ Zg (u64.wrap (s1.2.2*2 ^ 13))).toNat) ^^^ Zg (Int.fdiv (u64.wrap (Zg s1.2.2 ^^^ Zg (u64.wrap (s1.2.2*2 ^ 13))).toNat) (2 ^ 7))).toNat)*2 ^ 17))).toNat) &&& Zg (u64.wrap (x0-1))).toNat))-(w64 (c-b)))))).toNat x4) ?_;conv=>rhs;whnf
   exact Zf (ih _)
  ·refine Zm rfl rfl fun x6 hx6=>?_;conv=>rhs;whnf
   refine Zh (Zq rfl hx6) ?_;conv=>rhs;whnf
   refine Zm rfl rfl fun x7 hx7=>?_;conv=>rhs;whnf
   refine Zh (Zq rfl hx7) ?_;conv=>rhs;whnf
   refine Zh (Zbe rfl hx7) ?_;conv=>rhs;whnf
   refine Zh (Zq rfl hx7) ?_;conv=>rhs;whnf
   refine Zk (Zak Zb s1.2.1 s1.1.toNat x6) ?_;conv=>rhs;whnf
   refine Zm rfl rfl fun x8 hx8=>?_;conv=>rhs;whnf
   refine Zh (Zq rfl hx8) ?_;conv=>rhs;whnf
   refine Zk (Zak Zb (List.set s1.2.1 s1.1.toNat x6) (w64 (b+(w64 (u64.wrap (Zg (u64.wrap (Zg (u64.wrap (Zg (u64.wrap (Zg s1.2.2 ^^^ Zg (u64.wrap (s1.2.2*2 ^ 13))).toNat) ^^^ Zg (Int.fdiv (u64.wrap (Zg s1.2.2 ^^^ Zg (u64.wrap (s1.2.2*2 ^ 13))).toNat) (2 ^ 7))).toNat) ^^^ Zg (u64.wrap ((u64.wrap (Zg (u64.wrap (Zg s1.2.2 ^^^ Zg (u64.wrap (s1.2.2*2 ^ 13))).toNat) ^^^ Zg (Int.fdiv (u64.wrap (Zg s1.2.2 ^^^ Zg (u64.wrap (s1.2.2*2 ^ 13))).toNat) (2 ^ 7))).toNat)*2 ^ 17))).toNat) &&& Zg (u64.wrap (x0-1))).toNat)))).toNat x7) ?_;conv=>rhs;whnf
   exact Zf (ih _)
 ·exact Zc rfl
theorem Zd6 {b c:Int}{m0_0:List Int}:∀r,(ZaQ b c m0_0)=some r→evW ctx 195 [(.sl 0 1),(.d (Zb b)),(.d (Zb c))] [(.arr 1 (List.map Zb m0_0))]=some ((Zeq b c m0_0) r):=by
 show ZF _ (fun r rhs=>rhs=some ((Zeq b c m0_0) r)) _
 unfold ZaQ
 rw[Zc5 ctx 195 Zzh _ _ rfl rfl]
 conv=>rhs;whnf
 refine Zd rfl ?_ ?_<;>conv=>rhs;whnf
 ·refine Zj _ ZjE rfl fun x0 hx0=>?_;conv=>rhs;whnf
  refine Zam rfl ?_;conv=>rhs;whnf
  refine Ze _ (Zgm _) fun r9 hr9=>?_;conv=>rhs;whnf
  exact Zc rfl
 ·exact Zc rfl
def Za (b:Int) (c:Int) (d:Int) (m0_0:List Int):(List Int)→V×Zn
  | r=>((.d (D.tup [])),[(.arr 1 (List.map Zb r))])
def Ze1 (rc:Int→Int→Int→(List Int)→Option (List Int)):(List Int)→Ex×List V×Zn
  | r=>(.ret,[],[(.arr 1 (List.map Zb r))])
theorem ZhI {rc:Int→Int→Int→(List Int)→Option (List Int)} (hrc:∀(b:Int) (c:Int) (d:Int) (m0_0:List Int) (r:List Int),rc b c d m0_0=some r→evW ctx 178 [(.sl 0 1),(.d (Zb b)),(.d (Zb c)),(.d (Zb d))] [(.arr 1 (List.map Zb m0_0))]=some ((Za b c d m0_0) r)):∀(s0:Int×Int×Int×Bool×Bool×(List Int)) (r:List Int),lp (ZbN rc) s0=some r→lpW ctx 1 [0,1,2,3,8,9] [] Zwq [(.sl 0 1),(.d (Zb s0.1)),(.d (Zb s0.2.1)),(.d (Zb s0.2.2.1)),(.d (D.bool s0.2.2.2.1)),(.d (D.bool s0.2.2.2.2.1))] [(.arr 1 (List.map Zb s0.2.2.2.2.2))]=some ((Ze1 rc) r):=by
 refine ZaR (Ze1 rc) ?_
 intro s0 rcl ih
 show ZF _ _ (lpW _ _ _ _ _ _ _)
 unfold ZbN
 rw[ZaT]
 rcases hb:s0.2.2.2.1 with _ | _
 ·refine Zvd ?_
  rcases hb:s0.2.2.2.2.1 with _ | _
  ·refine Zvd ?_;conv=>rhs;whnf
   refine Zd rfl ?_ ?_<;>conv=>rhs;whnf
   ·refine Ze _ ZbJ fun x170 hx170=>?_;conv=>rhs;whnf
    exact Zc rfl
   ·refine Zd rfl ?_ ?_<;>conv=>rhs;whnf
    ·refine Ze _ Zch fun x171 hx171=>?_;conv=>rhs;whnf
     exact Zc rfl
    ·refine Ze _ Zd6 fun x172 hx172=>?_;conv=>rhs;whnf
     refine Ze _ ZbY fun x173 hx173=>?_;conv=>rhs;whnf
     refine Zd rfl ?_ ?_<;>conv=>rhs;whnf
     ·refine Ze _ ZbQ fun x174 hx174=>?_;conv=>rhs;whnf
      refine Zd rfl ?_ ?_<;>conv=>rhs;whnf
      ·refine Zm rfl rfl fun x175 hx175=>?_;conv=>rhs;whnf
       refine Zh (Zq rfl hx175) ?_;conv=>rhs;whnf
       refine Zm rfl rfl fun x176 hx176=>?_;conv=>rhs;whnf
       refine Zh (Zq rfl hx176) ?_;conv=>rhs;whnf
       refine Zj _ ZN rfl fun x177 hx177=>?_;conv=>rhs;whnf
       refine Zd rfl ?_ ?_<;>conv=>rhs;whnf
       ·refine Ze _ Zu fun x178 hx178=>?_
        clear hx178
        rcases x178 with x178 | x178
        ·conv=>rhs;whnf
         refine ZcI rfl ?_;conv=>rhs;whnf
         refine Zam rfl ?_;conv=>rhs;whnf
         refine Zd rfl ?_ ?_<;>conv=>rhs;whnf
         ·refine Zd rfl ?_ ?_<;>conv=>rhs;whnf
          ·refine Ze (Za s0.1 x178.1 (w64 (s0.2.2.1-1)) x178.2) (hrc s0.1 x178.1 (w64 (s0.2.2.1-1)) x178.2) fun x179 hx179=>?_;conv=>rhs;whnf
           exact Zf (ih _)
          ·refine Ze (Za s0.1 x178.1 (w64 (s0.2.2.1-1)) x178.2) (hrc s0.1 x178.1 (w64 (s0.2.2.1-1)) x178.2) fun x180 hx180=>?_;conv=>rhs;whnf
           exact Zf (ih _)
         ·refine Zd rfl ?_ ?_<;>conv=>rhs;whnf
          ·refine Ze (Za (w64 (x178.1+1)) s0.2.1 (w64 (s0.2.2.1-1)) x178.2) (hrc (w64 (x178.1+1)) s0.2.1 (w64 (s0.2.2.1-1)) x178.2) fun x181 hx181=>?_;conv=>rhs;whnf
           exact Zf (ih _)
          ·refine Ze (Za (w64 (x178.1+1)) s0.2.1 (w64 (s0.2.2.1-1)) x178.2) (hrc (w64 (x178.1+1)) s0.2.1 (w64 (s0.2.2.1-1)) x178.2) fun x182 hx182=>?_;conv=>rhs;whnf
           exact Zf (ih _)
        ·conv=>rhs;whnf
         refine Zam rfl ?_;conv=>rhs;whnf
         refine Zam rfl ?_;conv=>rhs;whnf
         refine Zd rfl ?_ ?_<;>conv=>rhs;whnf
         ·refine Zd rfl ?_ ?_<;>conv=>rhs;whnf
          ·refine Ze (Za s0.1 x178.1 (w64 (s0.2.2.1-1)) x178.2) (hrc s0.1 x178.1 (w64 (s0.2.2.1-1)) x178.2) fun x183 hx183=>?_;conv=>rhs;whnf
           exact Zf (ih _)
          ·refine Ze (Za s0.1 x178.1 (w64 (s0.2.2.1-1)) x178.2) (hrc s0.1 x178.1 (w64 (s0.2.2.1-1)) x178.2) fun x184 hx184=>?_;conv=>rhs;whnf
           exact Zf (ih _)
         ·refine Zd rfl ?_ ?_<;>conv=>rhs;whnf
          ·refine Ze (Za (w64 (x178.1+1)) s0.2.1 (w64 (s0.2.2.1-1)) x178.2) (hrc (w64 (x178.1+1)) s0.2.1 (w64 (s0.2.2.1-1)) x178.2) fun x185 hx185=>?_;conv=>rhs;whnf
           exact Zf (ih _)
          ·refine Ze (Za (w64 (x178.1+1)) s0.2.1 (w64 (s0.2.2.1-1)) x178.2) (hrc (w64 (x178.1+1)) s0.2.1 (w64 (s0.2.2.1-1)) x178.2) fun x186 hx186=>?_;conv=>rhs;whnf
           exact Zf (ih _)
       ·refine Ze _ ZS fun x187 hx187=>?_;conv=>rhs;whnf
        exact Zf (ih _)
      ·refine Ze _ Zu fun x188 hx188=>?_
       clear hx188
       rcases x188 with x188 | x188
       ·conv=>rhs;whnf
        refine ZcI rfl ?_;conv=>rhs;whnf
        refine Zam rfl ?_;conv=>rhs;whnf
        refine Zd rfl ?_ ?_<;>conv=>rhs;whnf
        ·refine Zd rfl ?_ ?_<;>conv=>rhs;whnf
         ·refine Ze (Za s0.1 x188.1 (w64 (s0.2.2.1-1)) x188.2) (hrc s0.1 x188.1 (w64 (s0.2.2.1-1)) x188.2) fun x189 hx189=>?_;conv=>rhs;whnf
          exact Zf (ih _)
         ·refine Ze (Za s0.1 x188.1 (w64 (s0.2.2.1-1)) x188.2) (hrc s0.1 x188.1 (w64 (s0.2.2.1-1)) x188.2) fun x190 hx190=>?_;conv=>rhs;whnf
          exact Zf (ih _)
        ·refine Zd rfl ?_ ?_<;>conv=>rhs;whnf
         ·refine Ze (Za (w64 (x188.1+1)) s0.2.1 (w64 (s0.2.2.1-1)) x188.2) (hrc (w64 (x188.1+1)) s0.2.1 (w64 (s0.2.2.1-1)) x188.2) fun x191 hx191=>?_;conv=>rhs;whnf
          exact Zf (ih _)
         ·refine Ze (Za (w64 (x188.1+1)) s0.2.1 (w64 (s0.2.2.1-1)) x188.2) (hrc (w64 (x188.1+1)) s0.2.1 (w64 (s0.2.2.1-1)) x188.2) fun x192 hx192=>?_;conv=>rhs;whnf
          exact Zf (ih _)
       ·conv=>rhs;whnf
        refine Zam rfl ?_;conv=>rhs;whnf
        refine Zam rfl ?_;conv=>rhs;whnf
        refine Zd rfl ?_ ?_<;>conv=>rhs;whnf
        ·refine Zd rfl ?_ ?_<;>conv=>rhs;whnf
         ·refine Ze (Za s0.1 x188.1 (w64 (s0.2.2.1-1)) x188.2) (hrc s0.1 x188.1 (w64 (s0.2.2.1-1)) x188.2) fun x193 hx193=>?_;conv=>rhs;whnf
          exact Zf (ih _)
         ·refine Ze (Za s0.1 x188.1 (w64 (s0.2.2.1-1)) x188.2) (hrc s0.1 x188.1 (w64 (s0.2.2.1-1)) x188.2) fun x194 hx194=>?_;conv=>rhs;whnf
          exact Zf (ih _)
        ·refine Zd rfl ?_ ?_<;>conv=>rhs;whnf
         ·refine Ze (Za (w64 (x188.1+1)) s0.2.1 (w64 (s0.2.2.1-1)) x188.2) (hrc (w64 (x188.1+1)) s0.2.1 (w64 (s0.2.2.1-1)) x188.2) fun x195 hx195=>?_;conv=>rhs;whnf
          exact Zf (ih _)
         ·refine Ze (Za (w64 (x188.1+1)) s0.2.1 (w64 (s0.2.2.1-1)) x188.2) (hrc (w64 (x188.1+1)) s0.2.1 (w64 (s0.2.2.1-1)) x188.2) fun x196 hx196=>?_;conv=>rhs;whnf
          exact Zf (ih _)
     ·refine Zd rfl ?_ ?_<;>conv=>rhs;whnf
      ·refine Zm rfl rfl fun x197 hx197=>?_;conv=>rhs;whnf
       refine Zh (Zq rfl hx197) ?_;conv=>rhs;whnf
       refine Zm rfl rfl fun x198 hx198=>?_;conv=>rhs;whnf
       refine Zh (Zq rfl hx198) ?_;conv=>rhs;whnf
       refine Zj _ ZN rfl fun x199 hx199=>?_;conv=>rhs;whnf
       refine Zd rfl ?_ ?_<;>conv=>rhs;whnf
       ·refine Ze _ Zu fun x200 hx200=>?_
        clear hx200
        rcases x200 with x200 | x200
        ·conv=>rhs;whnf
         refine ZcI rfl ?_;conv=>rhs;whnf
         refine Zam rfl ?_;conv=>rhs;whnf
         refine Zd rfl ?_ ?_<;>conv=>rhs;whnf
         ·refine Zd rfl ?_ ?_<;>conv=>rhs;whnf
          ·refine Ze (Za s0.1 x200.1 (w64 (s0.2.2.1-1)) x200.2) (hrc s0.1 x200.1 (w64 (s0.2.2.1-1)) x200.2) fun x201 hx201=>?_;conv=>rhs;whnf
           exact Zf (ih _)
          ·refine Ze (Za s0.1 x200.1 (w64 (s0.2.2.1-1)) x200.2) (hrc s0.1 x200.1 (w64 (s0.2.2.1-1)) x200.2) fun x202 hx202=>?_;conv=>rhs;whnf
           exact Zf (ih _)
         ·refine Zd rfl ?_ ?_<;>conv=>rhs;whnf
          ·refine Ze (Za (w64 (x200.1+1)) s0.2.1 (w64 (s0.2.2.1-1)) x200.2) (hrc (w64 (x200.1+1)) s0.2.1 (w64 (s0.2.2.1-1)) x200.2) fun x203 hx203=>?_;conv=>rhs;whnf
           exact Zf (ih _)
          ·refine Ze (Za (w64 (x200.1+1)) s0.2.1 (w64 (s0.2.2.1-1)) x200.2) (hrc (w64 (x200.1+1)) s0.2.1 (w64 (s0.2.2.1-1)) x200.2) fun x204 hx204=>?_;conv=>rhs;whnf
           exact Zf (ih _)
        ·conv=>rhs;whnf
         refine Zam rfl ?_;conv=>rhs;whnf
         refine Zam rfl ?_;conv=>rhs;whnf
         refine Zd rfl ?_ ?_<;>conv=>rhs;whnf
         ·refine Zd rfl ?_ ?_<;>conv=>rhs;whnf
          ·refine Ze (Za s0.1 x200.1 (w64 (s0.2.2.1-1)) x200.2) (hrc s0.1 x200.1 (w64 (s0.2.2.1-1)) x200.2) fun x205 hx205=>?_;conv=>rhs;whnf
           exact Zf (ih _)
          ·refine Ze (Za s0.1 x200.1 (w64 (s0.2.2.1-1)) x200.2) (hrc s0.1 x200.1 (w64 (s0.2.2.1-1)) x200.2) fun x206 hx206=>?_;conv=>rhs;whnf
           exact Zf (ih _)
         ·refine Zd rfl ?_ ?_<;>conv=>rhs;whnf
          ·refine Ze (Za (w64 (x200.1+1)) s0.2.1 (w64 (s0.2.2.1-1)) x200.2) (hrc (w64 (x200.1+1)) s0.2.1 (w64 (s0.2.2.1-1)) x200.2) fun x207 hx207=>?_;conv=>rhs;whnf
           exact Zf (ih _)
          ·refine Ze (Za (w64 (x200.1+1)) s0.2.1 (w64 (s0.2.2.1-1)) x200.2) (hrc (w64 (x200.1+1)) s0.2.1 (w64 (s0.2.2.1-1)) x200.2) fun x208 hx208=>?_;conv=>rhs;whnf
           exact Zf (ih _)
       ·refine Ze _ ZS fun x209 hx209=>?_;conv=>rhs;whnf
        exact Zf (ih _)
      ·refine Ze _ Zu fun x210 hx210=>?_
       clear hx210
       rcases x210 with x210 | x210
       ·conv=>rhs;whnf
        refine ZcI rfl ?_;conv=>rhs;whnf
        refine Zam rfl ?_;conv=>rhs;whnf
        refine Zd rfl ?_ ?_<;>conv=>rhs;whnf
        ·refine Zd rfl ?_ ?_<;>conv=>rhs;whnf
         ·refine Ze (Za s0.1 x210.1 (w64 (s0.2.2.1-1)) x210.2) (hrc s0.1 x210.1 (w64 (s0.2.2.1-1)) x210.2) fun x211 hx211=>?_;conv=>rhs;whnf
          exact Zf (ih _)
         ·refine Ze (Za s0.1 x210.1 (w64 (s0.2.2.1-1)) x210.2) (hrc s0.1 x210.1 (w64 (s0.2.2.1-1)) x210.2) fun x212 hx212=>?_;conv=>rhs;whnf
          exact Zf (ih _)
        ·refine Zd rfl ?_ ?_<;>conv=>rhs;whnf
         ·refine Ze (Za (w64 (x210.1+1)) s0.2.1 (w64 (s0.2.2.1-1)) x210.2) (hrc (w64 (x210.1+1)) s0.2.1 (w64 (s0.2.2.1-1)) x210.2) fun x213 hx213=>?_;conv=>rhs;whnf
          exact Zf (ih _)
         ·refine Ze (Za (w64 (x210.1+1)) s0.2.1 (w64 (s0.2.2.1-1)) x210.2) (hrc (w64 (x210.1+1)) s0.2.1 (w64 (s0.2.2.1-1)) x210.2) fun x214 hx214=>?_;conv=>rhs;whnf
          exact Zf (ih _)
       ·conv=>rhs;whnf
        refine Zam rfl ?_;conv=>rhs;whnf
        refine Zam rfl ?_;conv=>rhs;whnf
        refine Zd rfl ?_ ?_<;>conv=>rhs;whnf
        ·refine Zd rfl ?_ ?_<;>conv=>rhs;whnf
         ·refine Ze (Za s0.1 x210.1 (w64 (s0.2.2.1-1)) x210.2) (hrc s0.1 x210.1 (w64 (s0.2.2.1-1)) x210.2) fun x215 hx215=>?_;conv=>rhs;whnf
          exact Zf (ih _)
         ·refine Ze (Za s0.1 x210.1 (w64 (s0.2.2.1-1)) x210.2) (hrc s0.1 x210.1 (w64 (s0.2.2.1-1)) x210.2) fun x216 hx216=>?_;conv=>rhs;whnf
          exact Zf (ih _)
        ·refine Zd rfl ?_ ?_<;>conv=>rhs;whnf
         ·refine Ze (Za (w64 (x210.1+1)) s0.2.1 (w64 (s0.2.2.1-1)) x210.2) (hrc (w64 (x210.1+1)) s0.2.1 (w64 (s0.2.2.1-1)) x210.2) fun x217 hx217=>?_;conv=>rhs;whnf
          exact Zf (ih _)
         ·refine Ze (Za (w64 (x210.1+1)) s0.2.1 (w64 (s0.2.2.1-1)) x210.2) (hrc (w64 (x210.1+1)) s0.2.1 (w64 (s0.2.2.1-1)) x210.2) fun x218 hx218=>?_;conv=>rhs;whnf
          exact Zf (ih _)
  ·refine Zuy ?_;conv=>rhs;whnf
   refine Zd rfl ?_ ?_<;>conv=>rhs;whnf
   ·refine Ze _ ZbJ fun x121 hx121=>?_;conv=>rhs;whnf
    exact Zc rfl
   ·refine Zd rfl ?_ ?_<;>conv=>rhs;whnf
    ·refine Ze _ Zch fun x122 hx122=>?_;conv=>rhs;whnf
     exact Zc rfl
    ·refine Ze _ Zd6 fun x123 hx123=>?_;conv=>rhs;whnf
     refine Ze _ ZbY fun x124 hx124=>?_;conv=>rhs;whnf
     refine Zd rfl ?_ ?_<;>conv=>rhs;whnf
     ·refine Ze _ ZbQ fun x125 hx125=>?_;conv=>rhs;whnf
      refine Zd rfl ?_ ?_<;>conv=>rhs;whnf
      ·refine Zm rfl rfl fun x126 hx126=>?_;conv=>rhs;whnf
       refine Zh (Zq rfl hx126) ?_;conv=>rhs;whnf
       refine Zm rfl rfl fun x127 hx127=>?_;conv=>rhs;whnf
       refine Zh (Zq rfl hx127) ?_;conv=>rhs;whnf
       refine Zj _ ZN rfl fun x128 hx128=>?_;conv=>rhs;whnf
       refine Zd rfl ?_ ?_<;>conv=>rhs;whnf
       ·refine Ze _ Zu fun x129 hx129=>?_
        clear hx129
        rcases x129 with x129 | x129
        ·conv=>rhs;whnf
         refine ZcI rfl ?_;conv=>rhs;whnf
         refine Zam rfl ?_;conv=>rhs;whnf
         refine Zd rfl ?_ ?_<;>conv=>rhs;whnf
         ·refine Zd rfl ?_ ?_<;>conv=>rhs;whnf
          ·refine Ze (Za s0.1 x129.1 (w64 (s0.2.2.1-1)) x129.2) (hrc s0.1 x129.1 (w64 (s0.2.2.1-1)) x129.2) fun x130 hx130=>?_;conv=>rhs;whnf
           exact Zf (ih _)
          ·refine Ze (Za s0.1 x129.1 (w64 (s0.2.2.1-1)) x129.2) (hrc s0.1 x129.1 (w64 (s0.2.2.1-1)) x129.2) fun x131 hx131=>?_;conv=>rhs;whnf
           exact Zf (ih _)
         ·refine Zd rfl ?_ ?_<;>conv=>rhs;whnf
          ·refine Ze (Za (w64 (x129.1+1)) s0.2.1 (w64 (s0.2.2.1-1)) x129.2) (hrc (w64 (x129.1+1)) s0.2.1 (w64 (s0.2.2.1-1)) x129.2) fun x132 hx132=>?_;conv=>rhs;whnf
           exact Zf (ih _)
          ·refine Ze (Za (w64 (x129.1+1)) s0.2.1 (w64 (s0.2.2.1-1)) x129.2) (hrc (w64 (x129.1+1)) s0.2.1 (w64 (s0.2.2.1-1)) x129.2) fun x133 hx133=>?_;conv=>rhs;whnf
           exact Zf (ih _)
        ·conv=>rhs;whnf
         refine Zam rfl ?_;conv=>rhs;whnf
         refine Zam rfl ?_;conv=>rhs;whnf
         refine Zd rfl ?_ ?_<;>conv=>rhs;whnf
         ·refine Zd rfl ?_ ?_<;>conv=>rhs;whnf
          ·refine Ze (Za s0.1 x129.1 (w64 (s0.2.2.1-1)) x129.2) (hrc s0.1 x129.1 (w64 (s0.2.2.1-1)) x129.2) fun x134 hx134=>?_;conv=>rhs;whnf
           exact Zf (ih _)
          ·refine Ze (Za s0.1 x129.1 (w64 (s0.2.2.1-1)) x129.2) (hrc s0.1 x129.1 (w64 (s0.2.2.1-1)) x129.2) fun x135 hx135=>?_;conv=>rhs;whnf
           exact Zf (ih _)
         ·refine Zd rfl ?_ ?_<;>conv=>rhs;whnf
          ·refine Ze (Za (w64 (x129.1+1)) s0.2.1 (w64 (s0.2.2.1-1)) x129.2) (hrc (w64 (x129.1+1)) s0.2.1 (w64 (s0.2.2.1-1)) x129.2) fun x136 hx136=>?_;conv=>rhs;whnf
           exact Zf (ih _)
          ·refine Ze (Za (w64 (x129.1+1)) s0.2.1 (w64 (s0.2.2.1-1)) x129.2) (hrc (w64 (x129.1+1)) s0.2.1 (w64 (s0.2.2.1-1)) x129.2) fun x137 hx137=>?_;conv=>rhs;whnf
           exact Zf (ih _)
       ·refine Ze _ ZS fun x138 hx138=>?_;conv=>rhs;whnf
        exact Zf (ih _)
      ·refine Ze _ Zu fun x139 hx139=>?_
       clear hx139
       rcases x139 with x139 | x139
       ·conv=>rhs;whnf
        refine ZcI rfl ?_;conv=>rhs;whnf
        refine Zam rfl ?_;conv=>rhs;whnf
        refine Zd rfl ?_ ?_<;>conv=>rhs;whnf
        ·refine Zd rfl ?_ ?_<;>conv=>rhs;whnf
         ·refine Ze (Za s0.1 x139.1 (w64 (s0.2.2.1-1)) x139.2) (hrc s0.1 x139.1 (w64 (s0.2.2.1-1)) x139.2) fun x140 hx140=>?_;conv=>rhs;whnf
          exact Zf (ih _)
         ·refine Ze (Za s0.1 x139.1 (w64 (s0.2.2.1-1)) x139.2) (hrc s0.1 x139.1 (w64 (s0.2.2.1-1)) x139.2) fun x141 hx141=>?_;conv=>rhs;whnf
          exact Zf (ih _)
        ·refine Zd rfl ?_ ?_<;>conv=>rhs;whnf
         ·refine Ze (Za (w64 (x139.1+1)) s0.2.1 (w64 (s0.2.2.1-1)) x139.2) (hrc (w64 (x139.1+1)) s0.2.1 (w64 (s0.2.2.1-1)) x139.2) fun x142 hx142=>?_;conv=>rhs;whnf
          exact Zf (ih _)
         ·refine Ze (Za (w64 (x139.1+1)) s0.2.1 (w64 (s0.2.2.1-1)) x139.2) (hrc (w64 (x139.1+1)) s0.2.1 (w64 (s0.2.2.1-1)) x139.2) fun x143 hx143=>?_;conv=>rhs;whnf
          exact Zf (ih _)
       ·conv=>rhs;whnf
        refine Zam rfl ?_;conv=>rhs;whnf
        refine Zam rfl ?_;conv=>rhs;whnf
        refine Zd rfl ?_ ?_<;>conv=>rhs;whnf
        ·refine Zd rfl ?_ ?_<;>conv=>rhs;whnf
         ·refine Ze (Za s0.1 x139.1 (w64 (s0.2.2.1-1)) x139.2) (hrc s0.1 x139.1 (w64 (s0.2.2.1-1)) x139.2) fun x144 hx144=>?_;conv=>rhs;whnf
          exact Zf (ih _)
         ·refine Ze (Za s0.1 x139.1 (w64 (s0.2.2.1-1)) x139.2) (hrc s0.1 x139.1 (w64 (s0.2.2.1-1)) x139.2) fun x145 hx145=>?_;conv=>rhs;whnf
          exact Zf (ih _)
        ·refine Zd rfl ?_ ?_<;>conv=>rhs;whnf
         ·refine Ze (Za (w64 (x139.1+1)) s0.2.1 (w64 (s0.2.2.1-1)) x139.2) (hrc (w64 (x139.1+1)) s0.2.1 (w64 (s0.2.2.1-1)) x139.2) fun x146 hx146=>?_;conv=>rhs;whnf
          exact Zf (ih _)
         ·refine Ze (Za (w64 (x139.1+1)) s0.2.1 (w64 (s0.2.2.1-1)) x139.2) (hrc (w64 (x139.1+1)) s0.2.1 (w64 (s0.2.2.1-1)) x139.2) fun x147 hx147=>?_;conv=>rhs;whnf
          exact Zf (ih _)
     ·refine Zd rfl ?_ ?_<;>conv=>rhs;whnf
      ·refine Zm rfl rfl fun x148 hx148=>?_;conv=>rhs;whnf
       refine Zh (Zq rfl hx148) ?_;conv=>rhs;whnf
       refine Zm rfl rfl fun x149 hx149=>?_;conv=>rhs;whnf
       refine Zh (Zq rfl hx149) ?_;conv=>rhs;whnf
       refine Zj _ ZN rfl fun x150 hx150=>?_;conv=>rhs;whnf
       refine Zd rfl ?_ ?_<;>conv=>rhs;whnf
       ·refine Ze _ Zu fun x151 hx151=>?_
        clear hx151
        rcases x151 with x151 | x151
        ·conv=>rhs;whnf
         refine ZcI rfl ?_;conv=>rhs;whnf
         refine Zam rfl ?_;conv=>rhs;whnf
         refine Zd rfl ?_ ?_<;>conv=>rhs;whnf
         ·refine Zd rfl ?_ ?_<;>conv=>rhs;whnf
          ·refine Ze (Za s0.1 x151.1 (w64 (s0.2.2.1-1)) x151.2) (hrc s0.1 x151.1 (w64 (s0.2.2.1-1)) x151.2) fun x152 hx152=>?_;conv=>rhs;whnf
           exact Zf (ih _)
          ·refine Ze (Za s0.1 x151.1 (w64 (s0.2.2.1-1)) x151.2) (hrc s0.1 x151.1 (w64 (s0.2.2.1-1)) x151.2) fun x153 hx153=>?_;conv=>rhs;whnf
           exact Zf (ih _)
         ·refine Zd rfl ?_ ?_<;>conv=>rhs;whnf
          ·refine Ze (Za (w64 (x151.1+1)) s0.2.1 (w64 (s0.2.2.1-1)) x151.2) (hrc (w64 (x151.1+1)) s0.2.1 (w64 (s0.2.2.1-1)) x151.2) fun x154 hx154=>?_;conv=>rhs;whnf
           exact Zf (ih _)
          ·refine Ze (Za (w64 (x151.1+1)) s0.2.1 (w64 (s0.2.2.1-1)) x151.2) (hrc (w64 (x151.1+1)) s0.2.1 (w64 (s0.2.2.1-1)) x151.2) fun x155 hx155=>?_;conv=>rhs;whnf
           exact Zf (ih _)
        ·conv=>rhs;whnf
         refine Zam rfl ?_;conv=>rhs;whnf
         refine Zam rfl ?_;conv=>rhs;whnf
         refine Zd rfl ?_ ?_<;>conv=>rhs;whnf
         ·refine Zd rfl ?_ ?_<;>conv=>rhs;whnf
          ·refine Ze (Za s0.1 x151.1 (w64 (s0.2.2.1-1)) x151.2) (hrc s0.1 x151.1 (w64 (s0.2.2.1-1)) x151.2) fun x156 hx156=>?_;conv=>rhs;whnf
           exact Zf (ih _)
          ·refine Ze (Za s0.1 x151.1 (w64 (s0.2.2.1-1)) x151.2) (hrc s0.1 x151.1 (w64 (s0.2.2.1-1)) x151.2) fun x157 hx157=>?_;conv=>rhs;whnf
           exact Zf (ih _)
         ·refine Zd rfl ?_ ?_<;>conv=>rhs;whnf
          ·refine Ze (Za (w64 (x151.1+1)) s0.2.1 (w64 (s0.2.2.1-1)) x151.2) (hrc (w64 (x151.1+1)) s0.2.1 (w64 (s0.2.2.1-1)) x151.2) fun x158 hx158=>?_;conv=>rhs;whnf
           exact Zf (ih _)
          ·refine Ze (Za (w64 (x151.1+1)) s0.2.1 (w64 (s0.2.2.1-1)) x151.2) (hrc (w64 (x151.1+1)) s0.2.1 (w64 (s0.2.2.1-1)) x151.2) fun x159 hx159=>?_;conv=>rhs;whnf
           exact Zf (ih _)
       ·refine Ze _ ZS fun x160 hx160=>?_;conv=>rhs;whnf
        exact Zf (ih _)
      ·refine Ze _ Zu fun x161 hx161=>?_
       clear hx161
       rcases x161 with x161 | x161
       ·conv=>rhs;whnf
        refine ZcI rfl ?_;conv=>rhs;whnf
        refine Zam rfl ?_;conv=>rhs;whnf
        refine Zd rfl ?_ ?_<;>conv=>rhs;whnf
        ·refine Zd rfl ?_ ?_<;>conv=>rhs;whnf
         ·refine Ze (Za s0.1 x161.1 (w64 (s0.2.2.1-1)) x161.2) (hrc s0.1 x161.1 (w64 (s0.2.2.1-1)) x161.2) fun x162 hx162=>?_;conv=>rhs;whnf
          exact Zf (ih _)
         ·refine Ze (Za s0.1 x161.1 (w64 (s0.2.2.1-1)) x161.2) (hrc s0.1 x161.1 (w64 (s0.2.2.1-1)) x161.2) fun x163 hx163=>?_;conv=>rhs;whnf
          exact Zf (ih _)
        ·refine Zd rfl ?_ ?_<;>conv=>rhs;whnf
         ·refine Ze (Za (w64 (x161.1+1)) s0.2.1 (w64 (s0.2.2.1-1)) x161.2) (hrc (w64 (x161.1+1)) s0.2.1 (w64 (s0.2.2.1-1)) x161.2) fun x164 hx164=>?_;conv=>rhs;whnf
          exact Zf (ih _)
         ·refine Ze (Za (w64 (x161.1+1)) s0.2.1 (w64 (s0.2.2.1-1)) x161.2) (hrc (w64 (x161.1+1)) s0.2.1 (w64 (s0.2.2.1-1)) x161.2) fun x165 hx165=>?_;conv=>rhs;whnf
          exact Zf (ih _)
       ·conv=>rhs;whnf
        refine Zam rfl ?_;conv=>rhs;whnf
        refine Zam rfl ?_;conv=>rhs;whnf
        refine Zd rfl ?_ ?_<;>conv=>rhs;whnf
        ·refine Zd rfl ?_ ?_<;>conv=>rhs;whnf
         ·refine Ze (Za s0.1 x161.1 (w64 (s0.2.2.1-1)) x161.2) (hrc s0.1 x161.1 (w64 (s0.2.2.1-1)) x161.2) fun x166 hx166=>?_;conv=>rhs;whnf
          exact Zf (ih _)
         ·refine Ze (Za s0.1 x161.1 (w64 (s0.2.2.1-1)) x161.2) (hrc s0.1 x161.1 (w64 (s0.2.2.1-1)) x161.2) fun x167 hx167=>?_;conv=>rhs;whnf
          exact Zf (ih _)
        ·refine Zd rfl ?_ ?_<;>conv=>rhs;whnf
         ·refine Ze (Za (w64 (x161.1+1)) s0.2.1 (w64 (s0.2.2.1-1)) x161.2) (hrc (w64 (x161.1+1)) s0.2.1 (w64 (s0.2.2.1-1)) x161.2) fun x168 hx168=>?_;conv=>rhs;whnf
          exact Zf (ih _)
         ·refine Ze (Za (w64 (x161.1+1)) s0.2.1 (w64 (s0.2.2.1-1)) x161.2) (hrc (w64 (x161.1+1)) s0.2.1 (w64 (s0.2.2.1-1)) x161.2) fun x169 hx169=>?_;conv=>rhs;whnf
          exact Zf (ih _)
 ·refine Zuy ?_
  rcases hb:s0.2.2.2.2.1 with _ | _
  ·refine Zvd ?_;conv=>rhs;whnf
   refine Zd rfl ?_ ?_<;>conv=>rhs;whnf
   ·refine Ze _ ZbJ fun x73 hx73=>?_;conv=>rhs;whnf
    exact Zc rfl
   ·refine Zd rfl ?_ ?_<;>conv=>rhs;whnf
    ·refine Ze _ Zch fun x74 hx74=>?_;conv=>rhs;whnf
     exact Zc rfl
    ·refine Ze _ ZbY fun x75 hx75=>?_;conv=>rhs;whnf
     refine Zd rfl ?_ ?_<;>conv=>rhs;whnf
     ·refine Ze _ ZbQ fun x76 hx76=>?_;conv=>rhs;whnf
      refine Zd rfl ?_ ?_<;>conv=>rhs;whnf
      ·refine Zm rfl rfl fun x77 hx77=>?_;conv=>rhs;whnf
       refine Zh (Zq rfl hx77) ?_;conv=>rhs;whnf
       refine Zm rfl rfl fun x78 hx78=>?_;conv=>rhs;whnf
       refine Zh (Zq rfl hx78) ?_;conv=>rhs;whnf
       refine Zj _ ZN rfl fun x79 hx79=>?_;conv=>rhs;whnf
       refine Zd rfl ?_ ?_<;>conv=>rhs;whnf
       ·refine Ze _ Zu fun x80 hx80=>?_
        clear hx80
        rcases x80 with x80 | x80
        ·conv=>rhs;whnf
         refine ZcI rfl ?_;conv=>rhs;whnf
         refine Zam rfl ?_;conv=>rhs;whnf
         refine Zd rfl ?_ ?_<;>conv=>rhs;whnf
         ·refine Zd rfl ?_ ?_<;>conv=>rhs;whnf
          ·refine Ze (Za s0.1 x80.1 s0.2.2.1 x80.2) (hrc s0.1 x80.1 s0.2.2.1 x80.2) fun x81 hx81=>?_;conv=>rhs;whnf
           exact Zf (ih _)
          ·refine Ze (Za s0.1 x80.1 s0.2.2.1 x80.2) (hrc s0.1 x80.1 s0.2.2.1 x80.2) fun x82 hx82=>?_;conv=>rhs;whnf
           exact Zf (ih _)
         ·refine Zd rfl ?_ ?_<;>conv=>rhs;whnf
          ·refine Ze (Za (w64 (x80.1+1)) s0.2.1 s0.2.2.1 x80.2) (hrc (w64 (x80.1+1)) s0.2.1 s0.2.2.1 x80.2) fun x83 hx83=>?_;conv=>rhs;whnf
           exact Zf (ih _)
          ·refine Ze (Za (w64 (x80.1+1)) s0.2.1 s0.2.2.1 x80.2) (hrc (w64 (x80.1+1)) s0.2.1 s0.2.2.1 x80.2) fun x84 hx84=>?_;conv=>rhs;whnf
           exact Zf (ih _)
        ·conv=>rhs;whnf
         refine Zam rfl ?_;conv=>rhs;whnf
         refine Zam rfl ?_;conv=>rhs;whnf
         refine Zd rfl ?_ ?_<;>conv=>rhs;whnf
         ·refine Zd rfl ?_ ?_<;>conv=>rhs;whnf
          ·refine Ze (Za s0.1 x80.1 s0.2.2.1 x80.2) (hrc s0.1 x80.1 s0.2.2.1 x80.2) fun x85 hx85=>?_;conv=>rhs;whnf
           exact Zf (ih _)
          ·refine Ze (Za s0.1 x80.1 s0.2.2.1 x80.2) (hrc s0.1 x80.1 s0.2.2.1 x80.2) fun x86 hx86=>?_;conv=>rhs;whnf
           exact Zf (ih _)
         ·refine Zd rfl ?_ ?_<;>conv=>rhs;whnf
          ·refine Ze (Za (w64 (x80.1+1)) s0.2.1 s0.2.2.1 x80.2) (hrc (w64 (x80.1+1)) s0.2.1 s0.2.2.1 x80.2) fun x87 hx87=>?_;conv=>rhs;whnf
           exact Zf (ih _)
          ·refine Ze (Za (w64 (x80.1+1)) s0.2.1 s0.2.2.1 x80.2) (hrc (w64 (x80.1+1)) s0.2.1 s0.2.2.1 x80.2) fun x88 hx88=>?_;conv=>rhs;whnf
           exact Zf (ih _)
       ·refine Ze _ ZS fun x89 hx89=>?_;conv=>rhs;whnf
        exact Zf (ih _)
      ·refine Ze _ Zu fun x90 hx90=>?_
       clear hx90
       rcases x90 with x90 | x90
       ·conv=>rhs;whnf
        refine ZcI rfl ?_;conv=>rhs;whnf
        refine Zam rfl ?_;conv=>rhs;whnf
        refine Zd rfl ?_ ?_<;>conv=>rhs;whnf
        ·refine Zd rfl ?_ ?_<;>conv=>rhs;whnf
         ·refine Ze (Za s0.1 x90.1 s0.2.2.1 x90.2) (hrc s0.1 x90.1 s0.2.2.1 x90.2) fun x91 hx91=>?_;conv=>rhs;whnf
          exact Zf (ih _)
         ·refine Ze (Za s0.1 x90.1 s0.2.2.1 x90.2) (hrc s0.1 x90.1 s0.2.2.1 x90.2) fun x92 hx92=>?_;conv=>rhs;whnf
          exact Zf (ih _)
        ·refine Zd rfl ?_ ?_<;>conv=>rhs;whnf
         ·refine Ze (Za (w64 (x90.1+1)) s0.2.1 s0.2.2.1 x90.2) (hrc (w64 (x90.1+1)) s0.2.1 s0.2.2.1 x90.2) fun x93 hx93=>?_;conv=>rhs;whnf
          exact Zf (ih _)
         ·refine Ze (Za (w64 (x90.1+1)) s0.2.1 s0.2.2.1 x90.2) (hrc (w64 (x90.1+1)) s0.2.1 s0.2.2.1 x90.2) fun x94 hx94=>?_;conv=>rhs;whnf
          exact Zf (ih _)
       ·conv=>rhs;whnf
        refine Zam rfl ?_;conv=>rhs;whnf
        refine Zam rfl ?_;conv=>rhs;whnf
        refine Zd rfl ?_ ?_<;>conv=>rhs;whnf
        ·refine Zd rfl ?_ ?_<;>conv=>rhs;whnf
         ·refine Ze (Za s0.1 x90.1 s0.2.2.1 x90.2) (hrc s0.1 x90.1 s0.2.2.1 x90.2) fun x95 hx95=>?_;conv=>rhs;whnf
          exact Zf (ih _)
         ·refine Ze (Za s0.1 x90.1 s0.2.2.1 x90.2) (hrc s0.1 x90.1 s0.2.2.1 x90.2) fun x96 hx96=>?_;conv=>rhs;whnf
          exact Zf (ih _)
        ·refine Zd rfl ?_ ?_<;>conv=>rhs;whnf
         ·refine Ze (Za (w64 (x90.1+1)) s0.2.1 s0.2.2.1 x90.2) (hrc (w64 (x90.1+1)) s0.2.1 s0.2.2.1 x90.2) fun x97 hx97=>?_;conv=>rhs;whnf
          exact Zf (ih _)
         ·refine Ze (Za (w64 (x90.1+1)) s0.2.1 s0.2.2.1 x90.2) (hrc (w64 (x90.1+1)) s0.2.1 s0.2.2.1 x90.2) fun x98 hx98=>?_;conv=>rhs;whnf
          exact Zf (ih _)
     ·refine Zd rfl ?_ ?_<;>conv=>rhs;whnf
      ·refine Zm rfl rfl fun x99 hx99=>?_;conv=>rhs;whnf
       refine Zh (Zq rfl hx99) ?_;conv=>rhs;whnf
       refine Zm rfl rfl fun x100 hx100=>?_;conv=>rhs;whnf
       refine Zh (Zq rfl hx100) ?_;conv=>rhs;whnf
       refine Zj _ ZN rfl fun x101 hx101=>?_;conv=>rhs;whnf
       refine Zd rfl ?_ ?_<;>conv=>rhs;whnf
       ·refine Ze _ Zu fun x102 hx102=>?_
        clear hx102
        rcases x102 with x102 | x102
        ·conv=>rhs;whnf
         refine ZcI rfl ?_;conv=>rhs;whnf
         refine Zam rfl ?_;conv=>rhs;whnf
         refine Zd rfl ?_ ?_<;>conv=>rhs;whnf
         ·refine Zd rfl ?_ ?_<;>conv=>rhs;whnf
          ·refine Ze (Za s0.1 x102.1 s0.2.2.1 x102.2) (hrc s0.1 x102.1 s0.2.2.1 x102.2) fun x103 hx103=>?_;conv=>rhs;whnf
           exact Zf (ih _)
          ·refine Ze (Za s0.1 x102.1 s0.2.2.1 x102.2) (hrc s0.1 x102.1 s0.2.2.1 x102.2) fun x104 hx104=>?_;conv=>rhs;whnf
           exact Zf (ih _)
         ·refine Zd rfl ?_ ?_<;>conv=>rhs;whnf
          ·refine Ze (Za (w64 (x102.1+1)) s0.2.1 s0.2.2.1 x102.2) (hrc (w64 (x102.1+1)) s0.2.1 s0.2.2.1 x102.2) fun x105 hx105=>?_;conv=>rhs;whnf
           exact Zf (ih _)
          ·refine Ze (Za (w64 (x102.1+1)) s0.2.1 s0.2.2.1 x102.2) (hrc (w64 (x102.1+1)) s0.2.1 s0.2.2.1 x102.2) fun x106 hx106=>?_;conv=>rhs;whnf
           exact Zf (ih _)
        ·conv=>rhs;whnf
         refine Zam rfl ?_;conv=>rhs;whnf
         refine Zam rfl ?_;conv=>rhs;whnf
         refine Zd rfl ?_ ?_<;>conv=>rhs;whnf
         ·refine Zd rfl ?_ ?_<;>conv=>rhs;whnf
          ·refine Ze (Za s0.1 x102.1 s0.2.2.1 x102.2) (hrc s0.1 x102.1 s0.2.2.1 x102.2) fun x107 hx107=>?_;conv=>rhs;whnf
           exact Zf (ih _)
          ·refine Ze (Za s0.1 x102.1 s0.2.2.1 x102.2) (hrc s0.1 x102.1 s0.2.2.1 x102.2) fun x108 hx108=>?_;conv=>rhs;whnf
           exact Zf (ih _)
         ·refine Zd rfl ?_ ?_<;>conv=>rhs;whnf
          ·refine Ze (Za (w64 (x102.1+1)) s0.2.1 s0.2.2.1 x102.2) (hrc (w64 (x102.1+1)) s0.2.1 s0.2.2.1 x102.2) fun x109 hx109=>?_;conv=>rhs;whnf
           exact Zf (ih _)
          ·refine Ze (Za (w64 (x102.1+1)) s0.2.1 s0.2.2.1 x102.2) (hrc (w64 (x102.1+1)) s0.2.1 s0.2.2.1 x102.2) fun x110 hx110=>?_;conv=>rhs;whnf
           exact Zf (ih _)
       ·refine Ze _ ZS fun x111 hx111=>?_;conv=>rhs;whnf
        exact Zf (ih _)
      ·refine Ze _ Zu fun x112 hx112=>?_
       clear hx112
       rcases x112 with x112 | x112
       ·conv=>rhs;whnf
        refine ZcI rfl ?_;conv=>rhs;whnf
        refine Zam rfl ?_;conv=>rhs;whnf
        refine Zd rfl ?_ ?_<;>conv=>rhs;whnf
        ·refine Zd rfl ?_ ?_<;>conv=>rhs;whnf
         ·refine Ze (Za s0.1 x112.1 s0.2.2.1 x112.2) (hrc s0.1 x112.1 s0.2.2.1 x112.2) fun x113 hx113=>?_;conv=>rhs;whnf
          exact Zf (ih _)
         ·refine Ze (Za s0.1 x112.1 s0.2.2.1 x112.2) (hrc s0.1 x112.1 s0.2.2.1 x112.2) fun x114 hx114=>?_;conv=>rhs;whnf
          exact Zf (ih _)
        ·refine Zd rfl ?_ ?_<;>conv=>rhs;whnf
         ·refine Ze (Za (w64 (x112.1+1)) s0.2.1 s0.2.2.1 x112.2) (hrc (w64 (x112.1+1)) s0.2.1 s0.2.2.1 x112.2) fun x115 hx115=>?_;conv=>rhs;whnf
          exact Zf (ih _)
         ·refine Ze (Za (w64 (x112.1+1)) s0.2.1 s0.2.2.1 x112.2) (hrc (w64 (x112.1+1)) s0.2.1 s0.2.2.1 x112.2) fun x116 hx116=>?_;conv=>rhs;whnf
          exact Zf (ih _)
       ·conv=>rhs;whnf
        refine Zam rfl ?_;conv=>rhs;whnf
        refine Zam rfl ?_;conv=>rhs;whnf
        refine Zd rfl ?_ ?_<;>conv=>rhs;whnf
        ·refine Zd rfl ?_ ?_<;>conv=>rhs;whnf
         ·refine Ze (Za s0.1 x112.1 s0.2.2.1 x112.2) (hrc s0.1 x112.1 s0.2.2.1 x112.2) fun x117 hx117=>?_;conv=>rhs;whnf
          exact Zf (ih _)
         ·refine Ze (Za s0.1 x112.1 s0.2.2.1 x112.2) (hrc s0.1 x112.1 s0.2.2.1 x112.2) fun x118 hx118=>?_;conv=>rhs;whnf
          exact Zf (ih _)
        ·refine Zd rfl ?_ ?_<;>conv=>rhs;whnf
         ·refine Ze (Za (w64 (x112.1+1)) s0.2.1 s0.2.2.1 x112.2) (hrc (w64 (x112.1+1)) s0.2.1 s0.2.2.1 x112.2) fun x119 hx119=>?_;conv=>rhs;whnf
          exact Zf (ih _)
         ·refine Ze (Za (w64 (x112.1+1)) s0.2.1 s0.2.2.1 x112.2) (hrc (w64 (x112.1+1)) s0.2.1 s0.2.2.1 x112.2) fun x120 hx120=>?_;conv=>rhs;whnf
          exact Zf (ih _)
  ·refine Zuy ?_;conv=>rhs;whnf
   refine Zd rfl ?_ ?_<;>conv=>rhs;whnf
   ·refine Ze _ ZbJ fun x1 hx1=>?_;conv=>rhs;whnf
    exact Zc rfl
   ·refine Zd rfl ?_ ?_<;>conv=>rhs;whnf
    ·refine Ze _ Zch fun x2 hx2=>?_;conv=>rhs;whnf
     exact Zc rfl
    ·refine Ze _ ZbY fun x3 hx3=>?_;conv=>rhs;whnf
     refine Zd rfl ?_ ?_<;>conv=>rhs;whnf
     ·refine Ze _ ZbQ fun x4 hx4=>?_;conv=>rhs;whnf
      refine ZcI rfl ?_;conv=>rhs;whnf
      refine Ze _ Zc7 fun x5 hx5=>?_
      clear hx5
      rcases x5 with x5 | x5
      ·conv=>rhs;whnf
       exact Zc rfl
      ·conv=>rhs;whnf
       refine Zd rfl ?_ ?_<;>conv=>rhs;whnf
       ·refine Zm rfl rfl fun x6 hx6=>?_;conv=>rhs;whnf
        refine Zh (Zq rfl hx6) ?_;conv=>rhs;whnf
        refine Zm rfl rfl fun x7 hx7=>?_;conv=>rhs;whnf
        refine Zh (Zq rfl hx7) ?_;conv=>rhs;whnf
        refine Zj _ ZN rfl fun x8 hx8=>?_;conv=>rhs;whnf
        refine Zd rfl ?_ ?_<;>conv=>rhs;whnf
        ·refine Ze _ Zu fun x9 hx9=>?_
         clear hx9
         rcases x9 with x9 | x9
         ·conv=>rhs;whnf
          refine ZcI rfl ?_;conv=>rhs;whnf
          refine Zam rfl ?_;conv=>rhs;whnf
          refine Zd rfl ?_ ?_<;>conv=>rhs;whnf
          ·refine Zd rfl ?_ ?_<;>conv=>rhs;whnf
           ·refine Ze (Za s0.1 x9.1 s0.2.2.1 x9.2) (hrc s0.1 x9.1 s0.2.2.1 x9.2) fun x10 hx10=>?_;conv=>rhs;whnf
            exact Zf (ih _)
           ·refine Ze (Za s0.1 x9.1 s0.2.2.1 x9.2) (hrc s0.1 x9.1 s0.2.2.1 x9.2) fun x11 hx11=>?_;conv=>rhs;whnf
            exact Zf (ih _)
          ·refine Zd rfl ?_ ?_<;>conv=>rhs;whnf
           ·refine Ze (Za (w64 (x9.1+1)) s0.2.1 s0.2.2.1 x9.2) (hrc (w64 (x9.1+1)) s0.2.1 s0.2.2.1 x9.2) fun x12 hx12=>?_;conv=>rhs;whnf
            exact Zf (ih _)
           ·refine Ze (Za (w64 (x9.1+1)) s0.2.1 s0.2.2.1 x9.2) (hrc (w64 (x9.1+1)) s0.2.1 s0.2.2.1 x9.2) fun x13 hx13=>?_;conv=>rhs;whnf
            exact Zf (ih _)
         ·conv=>rhs;whnf
          refine Zam rfl ?_;conv=>rhs;whnf
          refine Zam rfl ?_;conv=>rhs;whnf
          refine Zd rfl ?_ ?_<;>conv=>rhs;whnf
          ·refine Zd rfl ?_ ?_<;>conv=>rhs;whnf
           ·refine Ze (Za s0.1 x9.1 s0.2.2.1 x9.2) (hrc s0.1 x9.1 s0.2.2.1 x9.2) fun x14 hx14=>?_;conv=>rhs;whnf
            exact Zf (ih _)
           ·refine Ze (Za s0.1 x9.1 s0.2.2.1 x9.2) (hrc s0.1 x9.1 s0.2.2.1 x9.2) fun x15 hx15=>?_;conv=>rhs;whnf
            exact Zf (ih _)
          ·refine Zd rfl ?_ ?_<;>conv=>rhs;whnf
           ·refine Ze (Za (w64 (x9.1+1)) s0.2.1 s0.2.2.1 x9.2) (hrc (w64 (x9.1+1)) s0.2.1 s0.2.2.1 x9.2) fun x16 hx16=>?_;conv=>rhs;whnf
            exact Zf (ih _)
           ·refine Ze (Za (w64 (x9.1+1)) s0.2.1 s0.2.2.1 x9.2) (hrc (w64 (x9.1+1)) s0.2.1 s0.2.2.1 x9.2) fun x17 hx17=>?_;conv=>rhs;whnf
            exact Zf (ih _)
        ·refine Ze _ ZS fun x18 hx18=>?_;conv=>rhs;whnf
         exact Zf (ih _)
       ·refine Ze _ Zu fun x19 hx19=>?_
        clear hx19
        rcases x19 with x19 | x19
        ·conv=>rhs;whnf
         refine ZcI rfl ?_;conv=>rhs;whnf
         refine Zam rfl ?_;conv=>rhs;whnf
         refine Zd rfl ?_ ?_<;>conv=>rhs;whnf
         ·refine Zd rfl ?_ ?_<;>conv=>rhs;whnf
          ·refine Ze (Za s0.1 x19.1 s0.2.2.1 x19.2) (hrc s0.1 x19.1 s0.2.2.1 x19.2) fun x20 hx20=>?_;conv=>rhs;whnf
           exact Zf (ih _)
          ·refine Ze (Za s0.1 x19.1 s0.2.2.1 x19.2) (hrc s0.1 x19.1 s0.2.2.1 x19.2) fun x21 hx21=>?_;conv=>rhs;whnf
           exact Zf (ih _)
         ·refine Zd rfl ?_ ?_<;>conv=>rhs;whnf
          ·refine Ze (Za (w64 (x19.1+1)) s0.2.1 s0.2.2.1 x19.2) (hrc (w64 (x19.1+1)) s0.2.1 s0.2.2.1 x19.2) fun x22 hx22=>?_;conv=>rhs;whnf
           exact Zf (ih _)
          ·refine Ze (Za (w64 (x19.1+1)) s0.2.1 s0.2.2.1 x19.2) (hrc (w64 (x19.1+1)) s0.2.1 s0.2.2.1 x19.2) fun x23 hx23=>?_;conv=>rhs;whnf
           exact Zf (ih _)
        ·conv=>rhs;whnf
         refine Zam rfl ?_;conv=>rhs;whnf
         refine Zam rfl ?_;conv=>rhs;whnf
         refine Zd rfl ?_ ?_<;>conv=>rhs;whnf
         ·refine Zd rfl ?_ ?_<;>conv=>rhs;whnf
          ·refine Ze (Za s0.1 x19.1 s0.2.2.1 x19.2) (hrc s0.1 x19.1 s0.2.2.1 x19.2) fun x24 hx24=>?_;conv=>rhs;whnf
           exact Zf (ih _)
          ·refine Ze (Za s0.1 x19.1 s0.2.2.1 x19.2) (hrc s0.1 x19.1 s0.2.2.1 x19.2) fun x25 hx25=>?_;conv=>rhs;whnf
           exact Zf (ih _)
         ·refine Zd rfl ?_ ?_<;>conv=>rhs;whnf
          ·refine Ze (Za (w64 (x19.1+1)) s0.2.1 s0.2.2.1 x19.2) (hrc (w64 (x19.1+1)) s0.2.1 s0.2.2.1 x19.2) fun x26 hx26=>?_;conv=>rhs;whnf
           exact Zf (ih _)
          ·refine Ze (Za (w64 (x19.1+1)) s0.2.1 s0.2.2.1 x19.2) (hrc (w64 (x19.1+1)) s0.2.1 s0.2.2.1 x19.2) fun x27 hx27=>?_;conv=>rhs;whnf
           exact Zf (ih _)
     ·refine Zd rfl ?_ ?_<;>conv=>rhs;whnf
      ·refine Ze _ Zc7 fun x28 hx28=>?_
       clear hx28
       rcases x28 with x28 | x28
       ·conv=>rhs;whnf
        exact Zc rfl
       ·conv=>rhs;whnf
        refine Zd rfl ?_ ?_<;>conv=>rhs;whnf
        ·refine Zm rfl rfl fun x29 hx29=>?_;conv=>rhs;whnf
         refine Zh (Zq rfl hx29) ?_;conv=>rhs;whnf
         refine Zm rfl rfl fun x30 hx30=>?_;conv=>rhs;whnf
         refine Zh (Zq rfl hx30) ?_;conv=>rhs;whnf
         refine Zj _ ZN rfl fun x31 hx31=>?_;conv=>rhs;whnf
         refine Zd rfl ?_ ?_<;>conv=>rhs;whnf
         ·refine Ze _ Zu fun x32 hx32=>?_
          clear hx32
          rcases x32 with x32 | x32
          ·conv=>rhs;whnf
           refine ZcI rfl ?_;conv=>rhs;whnf
           refine Zam rfl ?_;conv=>rhs;whnf
           refine Zd rfl ?_ ?_<;>conv=>rhs;whnf
           ·refine Zd rfl ?_ ?_<;>conv=>rhs;whnf
            ·refine Ze (Za s0.1 x32.1 s0.2.2.1 x32.2) (hrc s0.1 x32.1 s0.2.2.1 x32.2) fun x33 hx33=>?_;conv=>rhs;whnf
             exact Zf (ih _)
            ·refine Ze (Za s0.1 x32.1 s0.2.2.1 x32.2) (hrc s0.1 x32.1 s0.2.2.1 x32.2) fun x34 hx34=>?_;conv=>rhs;whnf
             exact Zf (ih _)
           ·refine Zd rfl ?_ ?_<;>conv=>rhs;whnf
            ·refine Ze (Za (w64 (x32.1+1)) s0.2.1 s0.2.2.1 x32.2) (hrc (w64 (x32.1+1)) s0.2.1 s0.2.2.1 x32.2) fun x35 hx35=>?_;conv=>rhs;whnf
             exact Zf (ih _)
            ·refine Ze (Za (w64 (x32.1+1)) s0.2.1 s0.2.2.1 x32.2) (hrc (w64 (x32.1+1)) s0.2.1 s0.2.2.1 x32.2) fun x36 hx36=>?_;conv=>rhs;whnf
             exact Zf (ih _)
          ·conv=>rhs;whnf
           refine Zam rfl ?_;conv=>rhs;whnf
           refine Zam rfl ?_;conv=>rhs;whnf
           refine Zd rfl ?_ ?_<;>conv=>rhs;whnf
           ·refine Zd rfl ?_ ?_<;>conv=>rhs;whnf
            ·refine Ze (Za s0.1 x32.1 s0.2.2.1 x32.2) (hrc s0.1 x32.1 s0.2.2.1 x32.2) fun x37 hx37=>?_;conv=>rhs;whnf
             exact Zf (ih _)
            ·refine Ze (Za s0.1 x32.1 s0.2.2.1 x32.2) (hrc s0.1 x32.1 s0.2.2.1 x32.2) fun x38 hx38=>?_;conv=>rhs;whnf
             exact Zf (ih _)
           ·refine Zd rfl ?_ ?_<;>conv=>rhs;whnf
            ·refine Ze (Za (w64 (x32.1+1)) s0.2.1 s0.2.2.1 x32.2) (hrc (w64 (x32.1+1)) s0.2.1 s0.2.2.1 x32.2) fun x39 hx39=>?_;conv=>rhs;whnf
             exact Zf (ih _)
            ·refine Ze (Za (w64 (x32.1+1)) s0.2.1 s0.2.2.1 x32.2) (hrc (w64 (x32.1+1)) s0.2.1 s0.2.2.1 x32.2) fun x40 hx40=>?_;conv=>rhs;whnf
             exact Zf (ih _)
         ·refine Ze _ ZS fun x41 hx41=>?_;conv=>rhs;whnf
          exact Zf (ih _)
        ·refine Ze _ Zu fun x42 hx42=>?_
         clear hx42
         rcases x42 with x42 | x42
         ·conv=>rhs;whnf
          refine ZcI rfl ?_;conv=>rhs;whnf
          refine Zam rfl ?_;conv=>rhs;whnf
          refine Zd rfl ?_ ?_<;>conv=>rhs;whnf
          ·refine Zd rfl ?_ ?_<;>conv=>rhs;whnf
           ·refine Ze (Za s0.1 x42.1 s0.2.2.1 x42.2) (hrc s0.1 x42.1 s0.2.2.1 x42.2) fun x43 hx43=>?_;conv=>rhs;whnf
            exact Zf (ih _)
           ·refine Ze (Za s0.1 x42.1 s0.2.2.1 x42.2) (hrc s0.1 x42.1 s0.2.2.1 x42.2) fun x44 hx44=>?_;conv=>rhs;whnf
            exact Zf (ih _)
          ·refine Zd rfl ?_ ?_<;>conv=>rhs;whnf
           ·refine Ze (Za (w64 (x42.1+1)) s0.2.1 s0.2.2.1 x42.2) (hrc (w64 (x42.1+1)) s0.2.1 s0.2.2.1 x42.2) fun x45 hx45=>?_;conv=>rhs;whnf
            exact Zf (ih _)
           ·refine Ze (Za (w64 (x42.1+1)) s0.2.1 s0.2.2.1 x42.2) (hrc (w64 (x42.1+1)) s0.2.1 s0.2.2.1 x42.2) fun x46 hx46=>?_;conv=>rhs;whnf
            exact Zf (ih _)
         ·conv=>rhs;whnf
          refine Zam rfl ?_;conv=>rhs;whnf
          refine Zam rfl ?_;conv=>rhs;whnf
          refine Zd rfl ?_ ?_<;>conv=>rhs;whnf
          ·refine Zd rfl ?_ ?_<;>conv=>rhs;whnf
           ·refine Ze (Za s0.1 x42.1 s0.2.2.1 x42.2) (hrc s0.1 x42.1 s0.2.2.1 x42.2) fun x47 hx47=>?_;conv=>rhs;whnf
            exact Zf (ih _)
           ·refine Ze (Za s0.1 x42.1 s0.2.2.1 x42.2) (hrc s0.1 x42.1 s0.2.2.1 x42.2) fun x48 hx48=>?_;conv=>rhs;whnf
            exact Zf (ih _)
          ·refine Zd rfl ?_ ?_<;>conv=>rhs;whnf
           ·refine Ze (Za (w64 (x42.1+1)) s0.2.1 s0.2.2.1 x42.2) (hrc (w64 (x42.1+1)) s0.2.1 s0.2.2.1 x42.2) fun x49 hx49=>?_;conv=>rhs;whnf
            exact Zf (ih _)
           ·refine Ze (Za (w64 (x42.1+1)) s0.2.1 s0.2.2.1 x42.2) (hrc (w64 (x42.1+1)) s0.2.1 s0.2.2.1 x42.2) fun x50 hx50=>?_;conv=>rhs;whnf
            exact Zf (ih _)
      ·refine Zd rfl ?_ ?_<;>conv=>rhs;whnf
       ·refine Zm rfl rfl fun x51 hx51=>?_;conv=>rhs;whnf
        refine Zh (Zq rfl hx51) ?_;conv=>rhs;whnf
        refine Zm rfl rfl fun x52 hx52=>?_;conv=>rhs;whnf
        refine Zh (Zq rfl hx52) ?_;conv=>rhs;whnf
        refine Zj _ ZN rfl fun x53 hx53=>?_;conv=>rhs;whnf
        refine Zd rfl ?_ ?_<;>conv=>rhs;whnf
        ·refine Ze _ Zu fun x54 hx54=>?_
         clear hx54
         rcases x54 with x54 | x54
         ·conv=>rhs;whnf
          refine ZcI rfl ?_;conv=>rhs;whnf
          refine Zam rfl ?_;conv=>rhs;whnf
          refine Zd rfl ?_ ?_<;>conv=>rhs;whnf
          ·refine Zd rfl ?_ ?_<;>conv=>rhs;whnf
           ·refine Ze (Za s0.1 x54.1 s0.2.2.1 x54.2) (hrc s0.1 x54.1 s0.2.2.1 x54.2) fun x55 hx55=>?_;conv=>rhs;whnf
            exact Zf (ih _)
           ·refine Ze (Za s0.1 x54.1 s0.2.2.1 x54.2) (hrc s0.1 x54.1 s0.2.2.1 x54.2) fun x56 hx56=>?_;conv=>rhs;whnf
            exact Zf (ih _)
          ·refine Zd rfl ?_ ?_<;>conv=>rhs;whnf
           ·refine Ze (Za (w64 (x54.1+1)) s0.2.1 s0.2.2.1 x54.2) (hrc (w64 (x54.1+1)) s0.2.1 s0.2.2.1 x54.2) fun x57 hx57=>?_;conv=>rhs;whnf
            exact Zf (ih _)
           ·refine Ze (Za (w64 (x54.1+1)) s0.2.1 s0.2.2.1 x54.2) (hrc (w64 (x54.1+1)) s0.2.1 s0.2.2.1 x54.2) fun x58 hx58=>?_;conv=>rhs;whnf
            exact Zf (ih _)
         ·conv=>rhs;whnf
          refine Zam rfl ?_;conv=>rhs;whnf
          refine Zam rfl ?_;conv=>rhs;whnf
          refine Zd rfl ?_ ?_<;>conv=>rhs;whnf
          ·refine Zd rfl ?_ ?_<;>conv=>rhs;whnf
           ·refine Ze (Za s0.1 x54.1 s0.2.2.1 x54.2) (hrc s0.1 x54.1 s0.2.2.1 x54.2) fun x59 hx59=>?_;conv=>rhs;whnf
            exact Zf (ih _)
           ·refine Ze (Za s0.1 x54.1 s0.2.2.1 x54.2) (hrc s0.1 x54.1 s0.2.2.1 x54.2) fun x60 hx60=>?_;conv=>rhs;whnf
            exact Zf (ih _)
          ·refine Zd rfl ?_ ?_<;>conv=>rhs;whnf
           ·refine Ze (Za (w64 (x54.1+1)) s0.2.1 s0.2.2.1 x54.2) (hrc (w64 (x54.1+1)) s0.2.1 s0.2.2.1 x54.2) fun x61 hx61=>?_;conv=>rhs;whnf
            exact Zf (ih _)
           ·refine Ze (Za (w64 (x54.1+1)) s0.2.1 s0.2.2.1 x54.2) (hrc (w64 (x54.1+1)) s0.2.1 s0.2.2.1 x54.2) fun x62 hx62=>?_;conv=>rhs;whnf
            exact Zf (ih _)
        ·refine Ze _ ZS fun x63 hx63=>?_;conv=>rhs;whnf
         exact Zf (ih _)
       ·refine Ze _ Zu fun x64 hx64=>?_
        clear hx64
        rcases x64 with x64 | x64
        ·conv=>rhs;whnf
         refine ZcI rfl ?_;conv=>rhs;whnf
         refine Zam rfl ?_;conv=>rhs;whnf
         refine Zd rfl ?_ ?_<;>conv=>rhs;whnf
         ·refine Zd rfl ?_ ?_<;>conv=>rhs;whnf
          ·refine Ze (Za s0.1 x64.1 s0.2.2.1 x64.2) (hrc s0.1 x64.1 s0.2.2.1 x64.2) fun x65 hx65=>?_;conv=>rhs;whnf
           exact Zf (ih _)
          ·refine Ze (Za s0.1 x64.1 s0.2.2.1 x64.2) (hrc s0.1 x64.1 s0.2.2.1 x64.2) fun x66 hx66=>?_;conv=>rhs;whnf
           exact Zf (ih _)
         ·refine Zd rfl ?_ ?_<;>conv=>rhs;whnf
          ·refine Ze (Za (w64 (x64.1+1)) s0.2.1 s0.2.2.1 x64.2) (hrc (w64 (x64.1+1)) s0.2.1 s0.2.2.1 x64.2) fun x67 hx67=>?_;conv=>rhs;whnf
           exact Zf (ih _)
          ·refine Ze (Za (w64 (x64.1+1)) s0.2.1 s0.2.2.1 x64.2) (hrc (w64 (x64.1+1)) s0.2.1 s0.2.2.1 x64.2) fun x68 hx68=>?_;conv=>rhs;whnf
           exact Zf (ih _)
        ·conv=>rhs;whnf
         refine Zam rfl ?_;conv=>rhs;whnf
         refine Zam rfl ?_;conv=>rhs;whnf
         refine Zd rfl ?_ ?_<;>conv=>rhs;whnf
         ·refine Zd rfl ?_ ?_<;>conv=>rhs;whnf
          ·refine Ze (Za s0.1 x64.1 s0.2.2.1 x64.2) (hrc s0.1 x64.1 s0.2.2.1 x64.2) fun x69 hx69=>?_;conv=>rhs;whnf
           exact Zf (ih _)
          ·refine Ze (Za s0.1 x64.1 s0.2.2.1 x64.2) (hrc s0.1 x64.1 s0.2.2.1 x64.2) fun x70 hx70=>?_;conv=>rhs;whnf
           exact Zf (ih _)
         ·refine Zd rfl ?_ ?_<;>conv=>rhs;whnf
          ·refine Ze (Za (w64 (x64.1+1)) s0.2.1 s0.2.2.1 x64.2) (hrc (w64 (x64.1+1)) s0.2.1 s0.2.2.1 x64.2) fun x71 hx71=>?_;conv=>rhs;whnf
           exact Zf (ih _)
          ·refine Ze (Za (w64 (x64.1+1)) s0.2.1 s0.2.2.1 x64.2) (hrc (w64 (x64.1+1)) s0.2.1 s0.2.2.1 x64.2) fun x72 hx72=>?_;conv=>rhs;whnf
           exact Zf (ih _)
theorem Zh0 (rc:Int→Int→Int→(List Int)→Option (List Int)) (hrc:∀(b:Int) (c:Int) (d:Int) (m0_0:List Int) (r:List Int),rc b c d m0_0=some r→evW ctx 178 [(.sl 0 1),(.d (Zb b)),(.d (Zb c)),(.d (Zb d))] [(.arr 1 (List.map Zb m0_0))]=some ((Za b c d m0_0) r)) (b:Int) (c:Int) (d:Int) (m0_0:List Int):∀r,(ZbT rc b c d m0_0)=some r→evW ctx 178 [(.sl 0 1),(.d (Zb b)),(.d (Zb c)),(.d (Zb d))] [(.arr 1 (List.map Zb m0_0))]=some ((Za b c d m0_0) r):=by
 show ZF _ (fun r rhs=>rhs=some ((Za b c d m0_0) r)) _
 unfold ZbT
 rw[Zc5 ctx 178 Zzm _ _ rfl rfl]
 conv=>rhs;whnf
 refine Ze _ (ZhI hrc _) fun r219 hr219=>?_;conv=>rhs;whnf
 exact Zc rfl
theorem Ze4:∀(n:Nat) (b:Int) (c:Int) (d:Int) (m0_0:List Int) (r:List Int),ZaS n b c d m0_0=some r→evW ctx 178 [(.sl 0 1),(.d (Zb b)),(.d (Zb c)),(.d (Zb d))] [(.arr 1 (List.map Zb m0_0))]=some ((Za b c d m0_0) r)
  | 0,b,c,d,m0_0,r,h=>by cases h
  | n+1,b,c,d,m0_0,r,h=>Zh0 (ZaS n) (Ze4 n) b c d m0_0 r h
theorem Ziu {b c d:Int}{m0_0:List Int}:∀r,Zee b c d m0_0=some r→evW ctx 178 [(.sl 0 1),(.d (Zb b)),(.d (Zb c)),(.d (Zb d))] [(.arr 1 (List.map Zb m0_0))]=some ((Za b c d m0_0) r):=fun r h=>by
  obtain⟨n,hn⟩:=ZA0 h
  exact Ze4 n b c d m0_0 r hn
def Zg3 (m0_0:List Int):(List Int)→V×Zn
  | r=>((.d (D.tup [])),[(.arr 1 (List.map Zb r))])
theorem Zgu {m0_0:List Int}:∀r,(ZbK m0_0)=some r→evW ctx 146 [(.sl 0 1)] [(.arr 1 (List.map Zb m0_0))]=some ((Zg3 m0_0) r):=by
 show ZF _ (fun r rhs=>rhs=some ((Zg3 m0_0) r)) _
 unfold ZbK
 rw[Zc5 ctx 146 Zz8 _ _ rfl rfl]
 conv=>rhs;whnf
 refine Zk (ZE _ _) ?_;conv=>rhs;whnf
 refine Zj _ ZjX rfl fun x0 hx0=>?_;conv=>rhs;whnf
 refine Ze _ Ziu fun x1 hx1=>?_;conv=>rhs;whnf
 exact Zc rfl
def Znm (m0_0:List Int) (m1_0:List Int):((List Int)×(List Int)×(List Int))→V×Zn
  | r=>((.sl 2 1),[(.arr 1 (List.map Zb r.1)),(.arr 1 (List.map Zb r.2.1)),(.arr 1 (List.map Zb r.2.2))])
def ZkK (m0_0:List Int):((List Int)×(List Int)×(List Int))→Ex×List V×Zn
  | r=>(.exit 0,[(.sl 2 1)],[(.arr 1 (List.map Zb r.1)),(.arr 1 (List.map Zb r.2.1)),(.arr 1 (List.map Zb r.2.2))])
theorem Zos {m0_0:List Int}:∀(s0:Int×(List Int)×(List Int)×(List Int)) (r:((List Int)×(List Int)×(List Int))),lp (ZeI m0_0) s0=some r→lpW ctx 2 [1,3,7,8,9] [3] ZxK [(.ptr 2 0),(.sl 3 1),(.sl 0 1),(.d (Zb (m0_0.length:Int))),(.d (Zb s0.1))] [(.arr 1 (List.map Zb s0.2.1)),(.arr 1 (List.map Zb s0.2.2.1)),(.cells [(.sl 0 1),(.sl 1 1)]),(.arr 1 (List.map Zb s0.2.2.2))]=some ((ZkK m0_0) r):=by
 refine ZaR (ZkK m0_0) ?_
 intro s0 rcl ih
 show ZF _ _ (lpW _ _ _ _ _ _ _)
 unfold ZeI
 rw[ZaT]
 conv=>rhs;whnf
 refine Zd rfl ?_ ?_<;>conv=>rhs;whnf
 ·refine Zm rfl rfl fun x1 hx1=>?_;conv=>rhs;whnf
  refine Zh (Zq rfl hx1) ?_;conv=>rhs;whnf
  refine Zd rfl ?_ ?_<;>conv=>rhs;whnf
  ·exact Zf (ih _)
  ·refine Zm rfl rfl fun x2 hx2=>?_;conv=>rhs;whnf
   refine Zh (Zq rfl hx2) ?_;conv=>rhs;whnf
   refine Zh (Zbe rfl hx2) ?_;conv=>rhs;whnf
   refine Zh (Zq rfl hx2) ?_;conv=>rhs;whnf
   refine Zk (Zak Zb s0.2.2.1 x1.toNat (w64 (x2-1))) ?_;conv=>rhs;whnf
   refine Zj _ ZgC rfl fun x3 hx3=>?_;conv=>rhs;whnf
   refine Zd rfl ?_ ?_<;>conv=>rhs;whnf
   ·refine Zh (Zbe rfl hx1) ?_;conv=>rhs;whnf
    refine Zh (Zq rfl hx1) ?_;conv=>rhs;whnf
    refine Zk (Zak Zb s0.2.1 s0.1.toNat (-1)) ?_;conv=>rhs;whnf
    refine ZcI rfl ?_;conv=>rhs;whnf
    refine Zd (ZgS Zb s0.2.2.2 1) ?_ ?_
    ·conv=>rhs;whnf
     refine Zk (ZgP Zb s0.2.2.2 [x1]) ?_;conv=>rhs;whnf
     exact Zf (ih _)
    ·exact ZR
   ·exact Zf (ih _)
 ·exact Zc rfl
theorem Zqx {m0_0:List Int}{m1_0:List Int}:∀r,(Zkn m0_0 m1_0)=some r→evW ctx 88 [(.agg [(.sl 0 1),(.sl 1 1)])] [(.arr 1 (List.map Zb m0_0)),(.arr 1 (List.map Zb m1_0))]=some ((Znm m0_0 m1_0) r):=by
 show ZF _ (fun r rhs=>rhs=some ((Znm m0_0 m1_0) r)) _
 unfold Zkn
 rw[Zc5 ctx 88 ZCk _ _ rfl rfl]
 conv=>rhs;whnf
 refine Zk (ZE _ _) ?_;conv=>rhs;whnf
 refine Ze _ (Zos _) fun r4 hr4=>?_;conv=>rhs;whnf
 refine Ze _ Zgu fun x5 hx5=>?_;conv=>rhs;whnf
 exact Zc rfl
def ZnD (t0:Bool) (t1:Bool) (t2:Bool) (t3:Bool) (a:ZL) (b:ZbU):(Int⊕((List Int)×(List Int)×(List Int)))→V×Zn
  | (.inl r)=>((.tup [(.agg [(.nilsl 1),(.nilsl 1)]),(.nilsl 1),(.d (Zb r))]),[])
  | (.inr r)=>((.tup [(.agg [(.sl 0 1),(.sl 1 1)]),(.sl 2 1),(.d (Zb 0))]),[(.arr 1 (List.map Zb r.1)),(.arr 1 (List.map Zb r.2.1)),(.arr 1 (List.map Zb r.2.2))])
theorem Zmd {t0 t1:Bool}{t2 t3:Bool}{a:ZL}{b:ZbU}:∀r,(ZhC a b)=some r→evW ctx 96 [(.d (D.agg [(D.list t0 (List.map Zb a.work)),(D.list t1 (List.map ZH a.edges))])),(.d (D.agg [(D.list t2 (List.map Zb b.on)),(D.list t3 (List.map Zb b.left))]))] []=some ((ZnD t0 t1 t2 t3 a b) r):=by
 show ZF _ (fun r rhs=>rhs=some ((ZnD t0 t1 t2 t3 a b) r)) _
 unfold ZhC
 rw[Zc5 ctx 96 ZBX _ _ rfl rfl]
 conv=>rhs;whnf
 refine Zj _ ZlR rfl fun x0 hx0=>?_;conv=>rhs;whnf
 refine Zd rfl ?_ ?_<;>conv=>rhs;whnf
 ·exact Zc rfl
 ·refine Ze _ ZrA fun x1 hx1=>?_;conv=>rhs;whnf
  refine Ze _ Zqx fun x2 hx2=>?_;conv=>rhs;whnf
  exact Zc rfl
def Zl6 (r:(Int×Bool)):D:=(D.tup [(Zb r.1),(D.bool r.2)])
theorem Zpc {a:ZG}{b0:Int}:∀r,(Zfk a b0)=some r→evD ctx 150 [(.d (D.agg [(Zb a.src),(Zb a.dst)])),(.d (D.rptr [(Zb b0)]))]=some (Zl6 r):=by
 show ZF _ (fun r rhs=>rhs=some (Zl6 r)) _
 unfold Zfk
 rw[ZaJ ctx 150 Zx8 _ rfl rfl]
 conv=>rhs;whnf
 refine Zd rfl ?_ ?_<;>conv=>rhs;whnf
 ·exact Zc rfl
 ·exact Zc rfl
def Zhf (r:List Int):D:=(D.list true (List.map Zb r))
def Zge (t1:Bool) (a:ZL) (b0:Int):(List Int)→Ex×List V×Zn
  | r=>(.exit 0,[(.sl 0 1)],[(.arr 1 (List.map Zb r))])
theorem ZiU {t1:Bool}{a:ZL}{b0:Int}:∀(s0:Int×(List Int)) (r:List Int),lp (ZgR a (fun z0=>Zfk z0 b0)) s0=some r→lpW ctx 0 [1,5,11,12,13] [5] Zwt [(.d (D.fn 150 [(D.rptr [(Zb b0)])])),(.sl 0 1),(.d (D.list t1 (List.map ZH a.edges))),(.d (Zb (a.edges.length:Int))),(.d (Zb s0.1))] [(.arr 1 (List.map Zb s0.2))]=some ((Zge t1 a b0) r):=by
 refine ZaR (Zge t1 a b0) ?_
 intro s0 rcl ih
 show ZF _ _ (lpW _ _ _ _ _ _ _)
 unfold ZgR
 rw[ZaT]
 conv=>rhs;whnf
 refine Zd rfl ?_ ?_<;>conv=>rhs;whnf
 ·refine Zm rfl rfl fun x1 hx1=>?_;conv=>rhs;whnf
  refine Zj _ Zpc rfl fun x2 hx2=>?_;conv=>rhs;whnf
  refine Zd rfl ?_ ?_<;>conv=>rhs;whnf
  ·refine ZcI rfl ?_;conv=>rhs;whnf
   refine Zd (ZgS Zb s0.2 1) ?_ ?_
   ·conv=>rhs;whnf
    refine Zk (ZgP Zb s0.2 [x2.1]) ?_;conv=>rhs;whnf
    exact Zf (ih _)
   ·exact ZR
  ·exact Zf (ih _)
 ·exact Zc rfl
theorem Zkb {t0 t1:Bool}{a:ZL}{b0:Int}:∀r,(Zm1 a (fun z0=>Zfk z0 b0))=some r→evD ctx 149 [(.d (D.agg [(D.list t0 (List.map Zb a.work)),(D.list t1 (List.map ZH a.edges))])),(.d (D.fn 150 [(D.rptr [(Zb b0)])]))]=some (Zhf r):=by
 show ZF _ (fun r rhs=>rhs=some (Zhf r)) _
 unfold Zm1
 rw[ZaJ ctx 149 ZzH _ rfl rfl]
 conv=>rhs;whnf
 refine Zk (ZE _ _) ?_;conv=>rhs;whnf
 refine Ze _ (ZiU _) fun r3 hr3=>?_;conv=>rhs;whnf
 refine Ze _ Zgu fun x4 hx4=>?_;conv=>rhs;whnf
 exact Zc rfl
def Znp (r:List Int):D:=(D.list true (List.map Zb r))
theorem Zmz {t0 t1:Bool}{a:ZL}{b:Int}:∀r,(ZhE a b)=some r→evD ctx 97 [(.d (D.agg [(D.list t0 (List.map Zb a.work)),(D.list t1 (List.map ZH a.edges))])),(.d (Zb b))]=some (Znp r):=by
 show ZF _ (fun r rhs=>rhs=some (Znp r)) _
 unfold ZhE
 rw[ZaJ ctx 97 ZCb _ rfl rfl]
 conv=>rhs;whnf
 refine Zj _ ZjT rfl fun x0 hx0=>?_;conv=>rhs;whnf
 refine Zd rfl ?_ ?_<;>conv=>rhs;whnf
 ·exact Zc rfl
 ·refine Zj _ Zkb rfl fun x1 hx1=>?_;conv=>rhs;whnf
  exact Zc rfl
def Zjf (t0:Bool) (t1:Bool) (m0_0:List Int) (m0_1:List ZG) (m0_2:Int) (m1_0:List Int) (m2_0:List Int) (m3_0:List Zl) (m4_0:List Zt) (m5_0:List Int):(Int⊕(Unit⊕(((List Zl)×(List Int)×(List Int))⊕((List Zl)×(List Int)×(List Int)×(List Int)))))→V×Zn
  | (.inl r)=>((.tup [(.nilsl 1),(.d (Zb r))]),[(.cells [(.sl 1 1),(.sl 2 1),(.sl 3 3),(.sl 4 6),(.sl 5 1),(.d (D.list t0 (List.map Zb m0_0))),(.d (D.list t1 (List.map ZH m0_1))),(.d (Zb m0_2))]),(.arr 1 (List.map Zb m1_0)),(.arr 1 (List.map Zb m2_0)),(.arr 3 (List.map ZaD m3_0)),(.arr 6 (List.map ZaP m4_0)),(.arr 1 (List.map Zb m5_0))])
  | (.inr (.inl r))=>((.tup [(.sl 6 1),(.d (Zb 0))]),[(.cells [(.sl 7 1),(.sl 8 1),(.sl 3 3),(.sl 4 6),(.sl 5 1),(.d (D.list t0 (List.map Zb m0_0))),(.d (D.list t1 (List.map ZH m0_1))),(.d (Zb m0_2))]),(.arr 1 (List.map Zb m1_0)),(.arr 1 (List.map Zb m2_0)),(.arr 3 (List.map ZaD m3_0)),(.arr 6 (List.map ZaP m4_0)),(.arr 1 (List.map Zb m5_0)),(.arr 1 []),(.arr 1 []),(.arr 1 [])])
  | (.inr (.inr (.inl r)))=>((.tup [(.nilsl 1),(.d (Zb 130))]),[(.cells [(.sl 6 1),(.sl 7 1),(.sl 3 3),(.sl 4 6),(.sl 5 1),(.d (D.list t0 (List.map Zb m0_0))),(.d (D.list t1 (List.map ZH m0_1))),(.d (Zb m0_2))]),(.arr 1 (List.map Zb m1_0)),(.arr 1 (List.map Zb m2_0)),(.arr 3 (List.map ZaD r.1)),(.arr 6 (List.map ZaP m4_0)),(.arr 1 (List.map Zb m5_0)),(.arr 1 (List.map Zb r.2.1)),(.arr 1 (List.map Zb r.2.2))])
  | (.inr (.inr (.inr r)))=>((.tup [(.sl 6 1),(.d (Zb 0))]),[(.cells [(.sl 7 1),(.sl 8 1),(.sl 3 3),(.sl 4 6),(.sl 5 1),(.d (D.list t0 (List.map Zb m0_0))),(.d (D.list t1 (List.map ZH m0_1))),(.d (Zb m0_2))]),(.arr 1 (List.map Zb m1_0)),(.arr 1 (List.map Zb m2_0)),(.arr 3 (List.map ZaD r.1)),(.arr 6 (List.map ZaP m4_0)),(.arr 1 (List.map Zb m5_0)),(.arr 1 (List.map Zb r.2.1)),(.arr 1 (List.map Zb r.2.2.1)),(.arr 1 (List.map Zb r.2.2.2))])
def ZhK (t0:Bool) (t1:Bool) (m0_0:List Int) (m0_1:List ZG) (m0_2:Int) (m1_0:List Int) (m2_0:List Int) (m3_0:List Zl) (m4_0:List Zt) (m5_0:List Int) (x2:List Int):Unit→Ex×List V×Zn
  | r=>(.exit 0,[.bad,.bad,(.sl 6 1)],[(.cells [(.sl 7 1),(.sl 8 1),(.sl 3 3),(.sl 4 6),(.sl 5 1),(.d (D.list t0 (List.map Zb m0_0))),(.d (D.list t1 (List.map ZH m0_1))),(.d (Zb m0_2))]),(.arr 1 (List.map Zb m1_0)),(.arr 1 (List.map Zb m2_0)),(.arr 3 (List.map ZaD m3_0)),(.arr 6 (List.map ZaP m4_0)),(.arr 1 (List.map Zb m5_0)),(.arr 1 []),(.arr 1 []),(.arr 1 [])])
theorem ZkY {t0 t1:Bool}{m0_0:List Int}{m0_1:List ZG}{m0_2:Int}{m1_0:List Int}{m2_0:List Int}{m3_0:List Zl}{m4_0:List Zt}{m5_0:List Int}{x2:List Int}:∀(s3:Int) (r:Unit),lp (ZgD m1_0) s3=some r→lpW ctx 6 [0,6,8,9,10,52,53,54] [2,3,6] ZqQ [(.ptr 0 0),(.sl 6 1),(.d (D.list true (List.map Zb x2))),(.fn 1000054 [(.ptr 0 0)]),(.sl 7 1),(.sl 8 1),(.d (Zb (m1_0.length:Int))),(.d (Zb s3))] [(.cells [(.sl 9 1),(.sl 10 1),(.sl 3 3),(.sl 4 6),(.sl 5 1),(.d (D.list t0 (List.map Zb m0_0))),(.d (D.list t1 (List.map ZH m0_1))),(.d (Zb m0_2))]),(.arr 1 (List.map Zb m1_0)),(.arr 1 (List.map Zb m2_0)),(.arr 3 (List.map ZaD m3_0)),(.arr 6 (List.map ZaP m4_0)),(.arr 1 (List.map Zb m5_0)),(.arr 1 []),(.arr 1 []),(.arr 1 (List.map Zb m1_0)),(.arr 1 []),(.arr 1 [])]=some ((ZhK t0 t1 m0_0 m0_1 m0_2 m1_0 m2_0 m3_0 m4_0 m5_0 x2) r):=by
 refine ZaR (ZhK t0 t1 m0_0 m0_1 m0_2 m1_0 m2_0 m3_0 m4_0 m5_0 x2) ?_
 intro s3 rcl ih
 show ZF _ _ (lpW _ _ _ _ _ _ _)
 unfold ZgD
 rw[ZaT]
 conv=>rhs;whnf
 refine Zd rfl ?_ ?_<;>conv=>rhs;whnf
 ·refine Zm rfl rfl fun x4 hx4=>?_;conv=>rhs;whnf
  refine Zh (Zq rfl hx4) ?_;conv=>rhs;whnf
  refine Zd rfl ?_ ?_
  ·conv=>rhs;whnf
   exact Zf (ih _)
  ·exact ZR
 ·exact Zc rfl
def ZhM (t0:Bool) (t1:Bool) (m0_0:List Int) (m0_1:List ZG) (m0_2:Int) (m1_0:List Int) (m2_0:List Int) (m4_0:List Zt) (m5_0:List Int) (x1:((List Int)×(List Int)×(List Int))) (x6:List Int) (s7:Int×(List Zl)×(List Int)) (x10:List Int):(((List Zl)×(List Int))⊕((List Zl)×(List Int)))→Ex×List V×Zn
  | (.inl r)=>(.ret,[(.ptr 0 0),(.nilsl 1),(.d (Zb 130)),(.sl 6 1),(.d (D.list true (List.map Zb x6))),(.fn 1000054 [(.ptr 0 0)]),(.sl 7 1),(.sl 8 1),(.d (Zb (m1_0.length:Int))),(.d (Zb s7.1))],[(.cells [(.sl 9 1),(.sl 10 1),(.sl 3 3),(.sl 4 6),(.sl 5 1),(.d (D.list t0 (List.map Zb m0_0))),(.d (D.list t1 (List.map ZH m0_1))),(.d (Zb m0_2))]),(.arr 1 (List.map Zb m1_0)),(.arr 1 (List.map Zb m2_0)),(.arr 3 (List.map ZaD r.1)),(.arr 6 (List.map ZaP m4_0)),(.arr 1 (List.map Zb m5_0)),(.arr 1 (List.map Zb x1.2.2)),(.arr 1 (List.map Zb r.2)),(.arr 1 (List.map Zb m1_0)),(.arr 1 (List.map Zb x1.1)),(.arr 1 (List.map Zb x1.2.1))])
  | (.inr r)=>(.exit 2,[(.ptr 0 0),.bad,.bad,(.sl 6 1),(.d (D.list true (List.map Zb x6))),(.fn 1000054 [(.ptr 0 0)]),(.sl 7 1),(.sl 8 1),(.d (Zb (m1_0.length:Int))),(.d (Zb s7.1))],[(.cells [(.sl 9 1),(.sl 10 1),(.sl 3 3),(.sl 4 6),(.sl 5 1),(.d (D.list t0 (List.map Zb m0_0))),(.d (D.list t1 (List.map ZH m0_1))),(.d (Zb m0_2))]),(.arr 1 (List.map Zb m1_0)),(.arr 1 (List.map Zb m2_0)),(.arr 3 (List.map ZaD r.1)),(.arr 6 (List.map ZaP m4_0)),(.arr 1 (List.map Zb m5_0)),(.arr 1 (List.map Zb x1.2.2)),(.arr 1 (List.map Zb r.2)),(.arr 1 (List.map Zb m1_0)),(.arr 1 (List.map Zb x1.1)),(.arr 1 (List.map Zb x1.2.1))])
theorem Zld {t0 t1:Bool}{m0_0:List Int}{m0_1:List ZG}{m0_2:Int}{m1_0:List Int}{m2_0:List Int}{m4_0:List Zt}{m5_0:List Int}{x1:((List Int)×(List Int)×(List Int))}{x6:List Int}{s7:Int×(List Zl)×(List Int)}{x10:List Int}:∀(s11:Int×(List Zl)×(List Int)) (r:(((List Zl)×(List Int))⊕((List Zl)×(List Int)))),lp (Zck x6 s7 x10) s11=some r→lpW ctx 6 [0,6,8,9,10,11,52,53,54,78,79,80] [0,2,3,6,8,9,10,52,53,54] Zvq [(.ptr 0 0),(.sl 6 1),(.d (D.list true (List.map Zb x6))),(.fn 1000054 [(.ptr 0 0)]),(.sl 7 1),(.d (Zb s7.1)),(.sl 8 1),(.d (Zb (m1_0.length:Int))),(.d (Zb s7.1)),(.d (D.list true (List.map Zb x10))),(.d (Zb (x10.length:Int))),(.d (Zb s11.1))] [(.cells [(.sl 9 1),(.sl 10 1),(.sl 3 3),(.sl 4 6),(.sl 5 1),(.d (D.list t0 (List.map Zb m0_0))),(.d (D.list t1 (List.map ZH m0_1))),(.d (Zb m0_2))]),(.arr 1 (List.map Zb m1_0)),(.arr 1 (List.map Zb m2_0)),(.arr 3 (List.map ZaD s11.2.1)),(.arr 6 (List.map ZaP m4_0)),(.arr 1 (List.map Zb m5_0)),(.arr 1 (List.map Zb x1.2.2)),(.arr 1 (List.map Zb s11.2.2)),(.arr 1 (List.map Zb m1_0)),(.arr 1 (List.map Zb x1.1)),(.arr 1 (List.map Zb x1.2.1))]=some ((ZhM t0 t1 m0_0 m0_1 m0_2 m1_0 m2_0 m4_0 m5_0 x1 x6 s7 x10) r):=by
 refine ZaR (ZhM t0 t1 m0_0 m0_1 m0_2 m1_0 m2_0 m4_0 m5_0 x1 x6 s7 x10) ?_
 intro s11 rcl ih
 show ZF _ _ (lpW _ _ _ _ _ _ _)
 unfold Zck
 rw[ZaT]
 conv=>rhs;whnf
 refine Zd rfl ?_ ?_<;>conv=>rhs;whnf
 ·refine Zm rfl rfl fun x12 hx12=>?_;conv=>rhs;whnf
  refine Zj _ Zas rfl fun x13 hx13=>?_;conv=>rhs;whnf
  refine Zd rfl ?_ ?_<;>conv=>rhs;whnf
  ·refine Zj _ Zas rfl fun x14 hx14=>?_;conv=>rhs;whnf
   refine Zd rfl ?_ ?_<;>conv=>rhs;whnf
   ·exact Zf (ih _)
   ·refine Ze _ Zhz fun x15 hx15=>?_
    clear hx15
    rcases x15 with x15 | x15
    ·conv=>rhs;whnf
     refine ZcI rfl ?_;conv=>rhs;whnf
     refine Zd (ZgS Zb s11.2.2 1) ?_ ?_
     ·conv=>rhs;whnf
      refine Zk (ZgP Zb s11.2.2 [x12]) ?_;conv=>rhs;whnf
      exact Zf (ih _)
     ·exact ZR
    ·conv=>rhs;whnf
     exact Zc rfl
  ·exact Zf (ih _)
 ·exact Zc rfl
def Zhh (t0:Bool) (t1:Bool) (m0_0:List Int) (m0_1:List ZG) (m0_2:Int) (m1_0:List Int) (m2_0:List Int) (m4_0:List Zt) (m5_0:List Int) (x1:((List Int)×(List Int)×(List Int))) (x6:List Int):((List Zl)⊕(List Zl))→Ex×List V×Zn
  | (.inl r)=>(.ret,[(.nilsl 1),(.d (Zb 130)),(.sl 6 1)],[(.cells [(.sl 7 1),(.sl 8 1),(.sl 3 3),(.sl 4 6),(.sl 5 1),(.d (D.list t0 (List.map Zb m0_0))),(.d (D.list t1 (List.map ZH m0_1))),(.d (Zb m0_2))]),(.arr 1 (List.map Zb m1_0)),(.arr 1 (List.map Zb m2_0)),(.arr 3 (List.map ZaD r)),(.arr 6 (List.map ZaP m4_0)),(.arr 1 (List.map Zb m5_0)),(.arr 1 (List.map Zb x1.2.2)),(.arr 1 (List.map Zb x1.1)),(.arr 1 (List.map Zb x1.2.1))])
  | (.inr r)=>(.exit 0,[.bad,.bad,(.sl 6 1)],[(.cells [(.sl 7 1),(.sl 8 1),(.sl 3 3),(.sl 4 6),(.sl 5 1),(.d (D.list t0 (List.map Zb m0_0))),(.d (D.list t1 (List.map ZH m0_1))),(.d (Zb m0_2))]),(.arr 1 (List.map Zb m1_0)),(.arr 1 (List.map Zb m2_0)),(.arr 3 (List.map ZaD r)),(.arr 6 (List.map ZaP m4_0)),(.arr 1 (List.map Zb m5_0)),(.arr 1 (List.map Zb x1.2.2)),(.arr 1 (List.map Zb x1.1)),(.arr 1 (List.map Zb x1.2.1))])
theorem Zj8 {t0 t1:Bool}{m0_0:List Int}{m0_1:List ZG}{m0_2:Int}{m1_0:List Int}{m2_0:List Int}{m4_0:List Zt}{m5_0:List Int}{x1:((List Int)×(List Int)×(List Int))}{x6:List Int}:∀(s7:Int×(List Zl)×(List Int)) (r:((List Zl)⊕(List Zl))),lp (ZbZ m0_0 m0_1 m1_0 x1 x6) s7=some r→lpW ctx 6 [0,6,8,9,10,52,53,54] [2,3,6] ZqQ [(.ptr 0 0),(.sl 6 1),(.d (D.list true (List.map Zb x6))),(.fn 1000054 [(.ptr 0 0)]),(.sl 7 1),(.sl 8 1),(.d (Zb (m1_0.length:Int))),(.d (Zb s7.1))] [(.cells [(.sl 9 1),(.sl 10 1),(.sl 3 3),(.sl 4 6),(.sl 5 1),(.d (D.list t0 (List.map Zb m0_0))),(.d (D.list t1 (List.map ZH m0_1))),(.d (Zb m0_2))]),(.arr 1 (List.map Zb m1_0)),(.arr 1 (List.map Zb m2_0)),(.arr 3 (List.map ZaD s7.2.1)),(.arr 6 (List.map ZaP m4_0)),(.arr 1 (List.map Zb m5_0)),(.arr 1 (List.map Zb x1.2.2)),(.arr 1 (List.map Zb s7.2.2)),(.arr 1 (List.map Zb m1_0)),(.arr 1 (List.map Zb x1.1)),(.arr 1 (List.map Zb x1.2.1))]=some ((Zhh t0 t1 m0_0 m0_1 m0_2 m1_0 m2_0 m4_0 m5_0 x1 x6) r):=by
 refine ZaR (Zhh t0 t1 m0_0 m0_1 m0_2 m1_0 m2_0 m4_0 m5_0 x1 x6) ?_
 intro s7 rcl ih
 show ZF _ _ (lpW _ _ _ _ _ _ _)
 unfold ZbZ
 rw[ZaT]
 conv=>rhs;whnf
 refine Zd rfl ?_ ?_<;>conv=>rhs;whnf
 ·refine Zm rfl rfl fun x8 hx8=>?_;conv=>rhs;whnf
  refine Zh (Zq rfl hx8) ?_;conv=>rhs;whnf
  refine Zd rfl ?_ ?_<;>conv=>rhs;whnf
  ·exact Zf (ih _)
  ·refine Zm rfl rfl fun x9 hx9=>?_;conv=>rhs;whnf
   refine Zh (Zq rfl hx9) ?_;conv=>rhs;whnf
   refine Zd rfl ?_ ?_<;>conv=>rhs;whnf
   ·exact Zf (ih _)
   ·refine Zj _ Zmz rfl fun x10 hx10=>?_;conv=>rhs;whnf
    refine Zk (ZE _ _) ?_;conv=>rhs;whnf
    refine Ze _ (Zld _) fun r16 hr16=>?_
    clear hr16
    rcases r16 with r16 | r16
    ·conv=>rhs;whnf
     exact Zc rfl
    ·conv=>rhs;whnf
     exact Zf (ih _)
 ·exact Zc rfl
theorem ZmR {t0 t1:Bool}{m0_0:List Int}{m0_1:List ZG}{m0_2:Int}{m1_0:List Int}{m2_0:List Int}{m3_0:List Zl}{m4_0:List Zt}{m5_0:List Int}:∀r,(Ze8 m0_0 m0_1 m1_0 m2_0 m3_0)=some r→evW ctx 48 [(.ptr 0 0)] [(.cells [(.sl 1 1),(.sl 2 1),(.sl 3 3),(.sl 4 6),(.sl 5 1),(.d (D.list t0 (List.map Zb m0_0))),(.d (D.list t1 (List.map ZH m0_1))),(.d (Zb m0_2))]),(.arr 1 (List.map Zb m1_0)),(.arr 1 (List.map Zb m2_0)),(.arr 3 (List.map ZaD m3_0)),(.arr 6 (List.map ZaP m4_0)),(.arr 1 (List.map Zb m5_0))]=some ((Zjf t0 t1 m0_0 m0_1 m0_2 m1_0 m2_0 m3_0 m4_0 m5_0) r):=by
 show ZF _ (fun r rhs=>rhs=some ((Zjf t0 t1 m0_0 m0_1 m0_2 m1_0 m2_0 m3_0 m4_0 m5_0) r)) _
 unfold Ze8
 rw[Zc5 ctx 48 ZAI _ _ rfl rfl]
 conv=>rhs;whnf
 refine Ze _ ZaM fun x0 hx0=>?_;conv=>rhs;whnf
 refine Ze _ Zmd fun x1 hx1=>?_
 clear hx1
 rcases x1 with x1 | x1
 ·conv=>rhs;whnf
  refine Zd rfl ?_ ?_<;>conv=>rhs;whnf
  ·exact Zc rfl
  ·refine Zj _ Zd0 rfl fun x2 hx2=>?_;conv=>rhs;whnf
   refine Zk (ZE _ _) ?_;conv=>rhs;whnf
   refine Ze _ (ZkY _) fun r5 hr5=>?_;conv=>rhs;whnf
   exact Zc rfl
 ·conv=>rhs;whnf
  refine Zam rfl ?_;conv=>rhs;whnf
  refine Zj _ Zd0 rfl fun x6 hx6=>?_;conv=>rhs;whnf
  refine Zk (ZE _ _) ?_;conv=>rhs;whnf
  refine Ze _ (Zj8 _) fun r17 hr17=>?_
  clear hr17
  rcases r17 with r17 | r17
  ·conv=>rhs;whnf
   exact Zc rfl
  ·conv=>rhs;whnf
   exact Zc rfl
def ZlP (r:Bool):D:=(D.bool r)
theorem Zpd {a:Int}:∀r,(Zda a)=some r→evD ctx 45 [(.d (Zb a))]=some (ZlP r):=by
 show ZF _ (fun r rhs=>rhs=some (ZlP r)) _
 unfold Zda
 rw[ZaJ ctx 45 ZCe _ rfl rfl]
 conv=>rhs;whnf
 refine Zd rfl ?_ ?_<;>conv=>rhs;whnf
 ·exact Zc rfl
 ·exact Zc rfl
def Zc4 (r:Int):D:=(Zb r)
def ZcL (t0:Bool) (a:List Int):(Int⊕Unit)→Ex×List V×Zn
  | (.inl r)=>(.ret,[(.d (Zb r))],[])
  | (.inr r)=>(.exit 0,[.bad],[])
theorem Ze2 {t0:Bool}{a:List Int}:∀(s0:Int) (r:(Int⊕Unit)),lp (Zw a (fun z0=>Zda z0)) s0=some r→lpW ctx 0 [0,1,7,8] [4] ZnR [(.d (D.list t0 (List.map Zb a))),(.d (D.fn 45 [])),(.d (Zb (a.length:Int))),(.d (Zb s0))] []=some ((ZcL t0 a) r):=by
 refine ZaR (ZcL t0 a) ?_
 intro s0 rcl ih
 show ZF _ _ (lpW _ _ _ _ _ _ _)
 unfold Zw
 rw[ZaT]
 conv=>rhs;whnf
 refine Zd rfl ?_ ?_<;>conv=>rhs;whnf
 ·refine Zm rfl rfl fun x1 hx1=>?_;conv=>rhs;whnf
  refine Zj _ Zpd rfl fun x2 hx2=>?_;conv=>rhs;whnf
  refine Zd rfl ?_ ?_<;>conv=>rhs;whnf
  ·exact Zc rfl
  ·exact Zf (ih _)
 ·exact Zc rfl
theorem ZfH {t0:Bool}{a:List Int}:∀r,(Zz a (fun z0=>Zda z0))=some r→evD ctx 94 [(.d (D.list t0 (List.map Zb a))),(.d (D.fn 45 []))]=some (Zc4 r):=by
 show ZF _ (fun r rhs=>rhs=some (Zc4 r)) _
 unfold Zz
 rw[ZaJ ctx 94 Zuf _ rfl rfl]
 conv=>rhs;whnf
 refine Zk (ZE _ _) ?_;conv=>rhs;whnf
 refine Ze _ (Ze2 _) fun r3 hr3=>?_
 clear hr3
 rcases r3 with r3 | r3
 ·conv=>rhs;whnf
  exact Zc rfl
 ·conv=>rhs;whnf
  exact Zc rfl
def ZcG (r:Bool):D:=(D.bool r)
theorem ZcB {t0:Bool}{a:List Int}:∀r,(ZC a (fun z0=>Zda z0))=some r→evD ctx 44 [(.d (D.list t0 (List.map Zb a))),(.d (D.fn 45 []))]=some (ZcG r):=by
 show ZF _ (fun r rhs=>rhs=some (ZcG r)) _
 unfold ZC
 rw[ZaJ ctx 44 Zxg _ rfl rfl]
 conv=>rhs;whnf
 refine Zj _ ZfH rfl fun x0 hx0=>?_;conv=>rhs;whnf
 refine Zd rfl ?_ ?_<;>conv=>rhs;whnf
 ·exact Zc rfl
 ·exact Zc rfl
def ZhB (r:List Int):D:=(D.list true (List.map Zb r))
def ZgL (t0:Bool) (t1:Bool) (t2:Bool) (t3:Bool) (a0:List Int) (a1:List Int) (a2:List Int) (a3:List ZG) (a4:Int):(List Int)→Ex×List V×Zn
  | r=>(.exit 0,[(.sl 0 1)],[(.arr 1 (List.map Zb r))])
theorem Zjr {t0 t1:Bool}{t2 t3:Bool}{a0:List Int}{a1:List Int}{a2:List Int}{a3:List ZG}{a4:Int}:∀(s1:Int×(List Int)) (r:List Int),lp (Zff a0) s1=some r→lpW ctx 0 [0,3,4,18,19,20] [4] ZqH [(.d (D.rptr [(D.list t0 (List.map Zb a0)),(D.list t1 (List.map Zb a1)),(D.list false []),(D.list false []),(D.list false []),(D.list t2 (List.map Zb a2)),(D.list t3 (List.map ZH a3)),(Zb a4)])),(.d (D.bool true)),(.sl 0 1),(.d (D.list t0 (List.map Zb a0))),(.d (Zb (a0.length:Int))),(.d (Zb s1.1))] [(.arr 1 (List.map Zb s1.2))]=some ((ZgL t0 t1 t2 t3 a0 a1 a2 a3 a4) r):=by
 refine ZaR (ZgL t0 t1 t2 t3 a0 a1 a2 a3 a4) ?_
 intro s1 rcl ih
 show ZF _ _ (lpW _ _ _ _ _ _ _)
 unfold Zff
 rw[ZaT]
 conv=>rhs;whnf
 refine Zd rfl ?_ ?_<;>conv=>rhs;whnf
 ·refine Zm rfl rfl fun x2 hx2=>?_;conv=>rhs;whnf
  refine Zd rfl ?_ ?_<;>conv=>rhs;whnf
  ·refine ZcI rfl ?_;conv=>rhs;whnf
   refine Zd (ZgS Zb s1.2 1) ?_ ?_
   ·conv=>rhs;whnf
    refine Zk (ZgP Zb s1.2 [s1.1]) ?_;conv=>rhs;whnf
    exact Zf (ih _)
   ·exact ZR
  ·exact Zf (ih _)
 ·exact Zc rfl
def ZfX (t0:Bool) (t1:Bool) (t2:Bool) (t3:Bool) (a0:List Int) (a1:List Int) (a2:List Int) (a3:List ZG) (a4:Int):Unit→Ex×List V×Zn
  | r=>(.exit 0,[(.sl 0 1)],[(.arr 1 [])])
theorem ZiF {t0 t1:Bool}{t2 t3:Bool}{a0:List Int}{a1:List Int}{a2:List Int}{a3:List ZG}{a4:Int}:∀(s4:Int) (r:Unit),lp (Zeu a0) s4=some r→lpW ctx 0 [0,3,4,18,19,20] [4] ZqH [(.d (D.rptr [(D.list t0 (List.map Zb a0)),(D.list t1 (List.map Zb a1)),(D.list false []),(D.list false []),(D.list false []),(D.list t2 (List.map Zb a2)),(D.list t3 (List.map ZH a3)),(Zb a4)])),(.d (D.bool false)),(.sl 0 1),(.d (D.list t0 (List.map Zb a0))),(.d (Zb (a0.length:Int))),(.d (Zb s4))] [(.arr 1 [])]=some ((ZfX t0 t1 t2 t3 a0 a1 a2 a3 a4) r):=by
 refine ZaR (ZfX t0 t1 t2 t3 a0 a1 a2 a3 a4) ?_
 intro s4 rcl ih
 show ZF _ _ (lpW _ _ _ _ _ _ _)
 unfold Zeu
 rw[ZaT]
 conv=>rhs;whnf
 refine Zd rfl ?_ ?_<;>conv=>rhs;whnf
 ·refine Zm rfl rfl fun x5 hx5=>?_;conv=>rhs;whnf
  refine Zd rfl ?_ ?_
  ·exact ZR
  ·conv=>rhs;whnf
   exact Zf (ih _)
 ·exact Zc rfl
theorem Zkx {t0 t1:Bool}{t2 t3:Bool}{a0:List Int}{a1:List Int}{a2:List Int}{a3:List ZG}{a4:Int}:∀r,(Zga a0)=some r→evD ctx 63 [(.d (D.rptr [(D.list t0 (List.map Zb a0)),(D.list t1 (List.map Zb a1)),(D.list false []),(D.list false []),(D.list false []),(D.list t2 (List.map Zb a2)),(D.list t3 (List.map ZH a3)),(Zb a4)]))]=some (ZhB r):=by
 show ZF _ (fun r rhs=>rhs=some (ZhB r)) _
 unfold Zga
 rw[ZaJ ctx 63 ZAH _ rfl rfl]
 conv=>rhs;whnf
 refine Zj _ ZbL rfl fun x0 hx0=>?_;conv=>rhs;whnf
 refine Zd rfl ?_ ?_<;>conv=>rhs;whnf
 ·refine Zk (ZE _ _) ?_;conv=>rhs;whnf
  refine Ze _ (Zjr _) fun r3 hr3=>?_;conv=>rhs;whnf
  exact Zc rfl
 ·refine Zk (ZE _ _) ?_;conv=>rhs;whnf
  refine Ze _ (ZiF _) fun r6 hr6=>?_;conv=>rhs;whnf
  exact Zc rfl
def Zhb (r:Bool):D:=(D.bool r)
theorem Zka {t0 t1:Bool}{t2 t3:Bool}{a:Int}{b0:List Int}{b1:List Int}{b2:List Int}{b3:List ZG}{b4:Int}:∀r,(Zdf a b4)=some r→evD ctx 147 [(.d (Zb a)),(.d (D.rptr [(D.rptr [(D.list t0 (List.map Zb b0)),(D.list t1 (List.map Zb b1)),(D.list false []),(D.list false []),(D.list false []),(D.list t2 (List.map Zb b2)),(D.list t3 (List.map ZH b3)),(Zb b4)])]))]=some (Zhb r):=by
 show ZF _ (fun r rhs=>rhs=some (Zhb r)) _
 unfold Zdf
 rw[ZaJ ctx 147 ZvY _ rfl rfl]
 conv=>rhs;whnf
 refine Zd rfl ?_ ?_<;>conv=>rhs;whnf
 ·exact Zc rfl
 ·exact Zc rfl
def Zb9 (r:Int):D:=(Zb r)
def Zb0 (t0:Bool) (t1:Bool) (t2:Bool) (t3:Bool) (t4:Bool) (a:List Int) (b0:List Int) (b1:List Int) (b2:List Int) (b3:List ZG) (b4:Int):(Int⊕Unit)→Ex×List V×Zn
  | (.inl r)=>(.ret,[(.d (Zb r))],[])
  | (.inr r)=>(.exit 0,[.bad],[])
theorem ZdG {t0 t1:Bool}{t2 t3 t4:Bool}{a:List Int}{b0:List Int}{b1:List Int}{b2:List Int}{b3:List ZG}{b4:Int}:∀(s0:Int) (r:(Int⊕Unit)),lp (Zw a (fun z0=>Zdf z0 b4)) s0=some r→lpW ctx 0 [0,1,7,8] [4] ZnR [(.d (D.list t0 (List.map Zb a))),(.d (D.fn 147 [(D.rptr [(D.rptr [(D.list t1 (List.map Zb b0)),(D.list t2 (List.map Zb b1)),(D.list false []),(D.list false []),(D.list false []),(D.list t3 (List.map Zb b2)),(D.list t4 (List.map ZH b3)),(Zb b4)])])])),(.d (Zb (a.length:Int))),(.d (Zb s0))] []=some ((Zb0 t0 t1 t2 t3 t4 a b0 b1 b2 b3 b4) r):=by
 refine ZaR (Zb0 t0 t1 t2 t3 t4 a b0 b1 b2 b3 b4) ?_
 intro s0 rcl ih
 show ZF _ _ (lpW _ _ _ _ _ _ _)
 unfold Zw
 rw[ZaT]
 conv=>rhs;whnf
 refine Zd rfl ?_ ?_<;>conv=>rhs;whnf
 ·refine Zm rfl rfl fun x1 hx1=>?_;conv=>rhs;whnf
  refine Zj _ Zka rfl fun x2 hx2=>?_;conv=>rhs;whnf
  refine Zd rfl ?_ ?_<;>conv=>rhs;whnf
  ·exact Zc rfl
  ·exact Zf (ih _)
 ·exact Zc rfl
theorem Zd7 {t0 t1:Bool}{t2 t3 t4:Bool}{a:List Int}{b0:List Int}{b1:List Int}{b2:List Int}{b3:List ZG}{b4:Int}:∀r,(Zz a (fun z0=>Zdf z0 b4))=some r→evD ctx 94 [(.d (D.list t0 (List.map Zb a))),(.d (D.fn 147 [(D.rptr [(D.rptr [(D.list t1 (List.map Zb b0)),(D.list t2 (List.map Zb b1)),(D.list false []),(D.list false []),(D.list false []),(D.list t3 (List.map Zb b2)),(D.list t4 (List.map ZH b3)),(Zb b4)])])]))]=some (Zb9 r):=by
 show ZF _ (fun r rhs=>rhs=some (Zb9 r)) _
 unfold Zz
 rw[ZaJ ctx 94 Zuf _ rfl rfl]
 conv=>rhs;whnf
 refine Zk (ZE _ _) ?_;conv=>rhs;whnf
 refine Ze _ (ZdG _) fun r3 hr3=>?_
 clear hr3
 rcases r3 with r3 | r3
 ·conv=>rhs;whnf
  exact Zc rfl
 ·conv=>rhs;whnf
  exact Zc rfl
def ZhW (r:Int):D:=(Zb r)
theorem Zlb {t0 t1:Bool}{t2 t3:Bool}{t4 t5:Bool}{a0:List Int}{a1:List Int}{a2:List Int}{a3:List ZG}{a4:Int}{b:List Int}{c:List Int}{d:Int}:∀r,(Zgx a4 b c d)=some r→evD ctx 95 [(.d (D.rptr [(D.list t0 (List.map Zb a0)),(D.list t1 (List.map Zb a1)),(D.list false []),(D.list false []),(D.list false []),(D.list t2 (List.map Zb a2)),(D.list t3 (List.map ZH a3)),(Zb a4)])),(.d (D.list t4 (List.map Zb b))),(.d (D.list t5 (List.map Zb c))),(.d (Zb d))]=some (ZhW r):=by
 show ZF _ (fun r rhs=>rhs=some (ZhW r)) _
 unfold Zgx
 rw[ZaJ ctx 95 ZAG _ rfl rfl]
 conv=>rhs;whnf
 refine Zk (ZE _ _) ?_;conv=>rhs;whnf
 refine Zd rfl ?_ ?_<;>conv=>rhs;whnf
 ·refine Zm rfl rfl fun x0 hx0=>?_;conv=>rhs;whnf
  refine Zk (ZE _ _) ?_;conv=>rhs;whnf
  refine Zd rfl ?_ ?_
  ·exact ZR
  ·conv=>rhs;whnf
   refine Zm rfl rfl fun x1 hx1=>?_;conv=>rhs;whnf
   exact Zc rfl
 ·refine Zj _ Zd7 rfl fun x2 hx2=>?_;conv=>rhs;whnf
  refine Zm rfl rfl fun x3 hx3=>?_;conv=>rhs;whnf
  exact Zc rfl
def Zh2 (t0:Bool) (t1:Bool) (t2:Bool) (b:List Int) (m0_0:List Int) (m0_1:List ZG) (m0_2:Int) (m1_0:List Int) (m2_0:List Int):Unit→V×Zn
  | r=>((.d (D.tup [(Zb 0),(Zb 0)])),[(.cells [(.sl 1 1),(.sl 2 1),(.sl 3 3),(.sl 4 6),(.sl 5 1),(.d (D.list t1 (List.map Zb m0_0))),(.d (D.list t2 (List.map ZH m0_1))),(.d (Zb (-1)))]),(.arr 1 (List.map Zb m1_0)),(.arr 1 (List.map Zb m2_0)),(.arr 3 []),(.arr 6 []),(.arr 1 [])])
def ZgY (t0:Bool) (t1:Bool) (t2:Bool) (b:List Int) (m0_0:List Int) (m0_1:List ZG) (m1_0:List Int) (m2_0:List Int) (x0:List Int):Unit→Ex×List V×Zn
  | r=>(.exit 0,[.bad,.bad,(.d (Zb 0))],[(.cells [(.sl 1 1),(.sl 2 1),(.sl 3 3),(.sl 4 6),(.sl 5 1),(.d (D.list t1 (List.map Zb m0_0))),(.d (D.list t2 (List.map ZH m0_1))),(.d (Zb (-1)))]),(.arr 1 (List.map Zb m1_0)),(.arr 1 (List.map Zb m2_0)),(.arr 3 []),(.arr 6 []),(.arr 1 [])])
theorem ZjH {t0 t1 t2:Bool}{b:List Int}{m0_0:List Int}{m0_1:List ZG}{m1_0:List Int}{m2_0:List Int}{x0:List Int}:∀(s1:Unit) (r:Unit),lp (ZfF b x0) s1=some r→lpW ctx 6 [0,1,6,7] [4,5,6] ZuN [(.ptr 0 0),(.d (D.list t0 (List.map Zb b))),(.d (Zb 0)),(.d (D.list true (List.map Zb x0)))] [(.cells [(.sl 1 1),(.sl 2 1),(.sl 3 3),(.sl 4 6),(.sl 5 1),(.d (D.list t1 (List.map Zb m0_0))),(.d (D.list t2 (List.map ZH m0_1))),(.d (Zb (-1)))]),(.arr 1 (List.map Zb m1_0)),(.arr 1 (List.map Zb m2_0)),(.arr 3 []),(.arr 6 []),(.arr 1 [])]=some ((ZgY t0 t1 t2 b m0_0 m0_1 m1_0 m2_0 x0) r):=by
 refine ZaR (ZgY t0 t1 t2 b m0_0 m0_1 m1_0 m2_0 x0) ?_
 intro s1 rcl ih
 show ZF _ _ (lpW _ _ _ _ _ _ _)
 unfold ZfF
 rw[ZaT]
 conv=>rhs;whnf
 refine Zk (ZE _ _) ?_;conv=>rhs;whnf
 refine Zd rfl ?_ ?_<;>conv=>rhs;whnf
 ·refine Zj _ Zlb rfl fun x2 hx2=>?_
  exact ZR
 ·exact Zc rfl
theorem ZkV {t0 t1 t2:Bool}{b:List Int}{m0_0:List Int}{m0_1:List ZG}{m0_2:Int}{m1_0:List Int}{m2_0:List Int}:∀r,(ZgA b m1_0)=some r→evW ctx 46 [(.ptr 0 0),(.d (D.list t0 (List.map Zb b)))] [(.cells [(.sl 1 1),(.sl 2 1),(.sl 3 3),(.sl 4 6),(.sl 5 1),(.d (D.list t1 (List.map Zb m0_0))),(.d (D.list t2 (List.map ZH m0_1))),(.d (Zb m0_2))]),(.arr 1 (List.map Zb m1_0)),(.arr 1 (List.map Zb m2_0)),(.arr 3 []),(.arr 6 []),(.arr 1 [])]=some ((Zh2 t0 t1 t2 b m0_0 m0_1 m0_2 m1_0 m2_0) r):=by
 show ZF _ (fun r rhs=>rhs=some ((Zh2 t0 t1 t2 b m0_0 m0_1 m0_2 m1_0 m2_0) r)) _
 unfold ZgA
 rw[Zc5 ctx 46 ZAD _ _ rfl rfl]
 conv=>rhs;whnf
 refine Zj _ Zkx rfl fun x0 hx0=>?_;conv=>rhs;whnf
 refine Ze _ (ZjH _) fun r3 hr3=>?_;conv=>rhs;whnf
 exact Zc rfl
def ZhV (t0:Bool) (t1:Bool) (m0_0:List Int) (m0_1:List ZG) (m0_2:Int) (m1_0:List Int) (m2_0:List Int):(Int⊕(Unit⊕((List Int)×(List Int)×(List Int))))→V×Zn
  | (.inl r)=>((.tup [(.nilsl 1),(.d (Zb r))]),[(.cells [(.sl 1 1),(.sl 2 1),(.sl 3 3),(.sl 4 6),(.sl 5 1),(.d (D.list t0 (List.map Zb m0_0))),(.d (D.list t1 (List.map ZH m0_1))),(.d (Zb m0_2))]),(.arr 1 (List.map Zb m1_0)),(.arr 1 (List.map Zb m2_0)),(.arr 3 []),(.arr 6 []),(.arr 1 [])])
  | (.inr (.inl r))=>((.tup [(.sl 6 1),(.d (Zb 0))]),[(.cells [(.sl 7 1),(.sl 8 1),(.sl 3 3),(.sl 4 6),(.sl 5 1),(.d (D.list t0 (List.map Zb m0_0))),(.d (D.list t1 (List.map ZH m0_1))),(.d (Zb m0_2))]),(.arr 1 (List.map Zb m1_0)),(.arr 1 (List.map Zb m2_0)),(.arr 3 []),(.arr 6 []),(.arr 1 []),(.arr 1 []),(.arr 1 []),(.arr 1 [])])
  | (.inr (.inr r))=>((.tup [(.sl 6 1),(.d (Zb 0))]),[(.cells [(.sl 7 1),(.sl 8 1),(.sl 3 3),(.sl 4 6),(.sl 5 1),(.d (D.list t0 (List.map Zb m0_0))),(.d (D.list t1 (List.map ZH m0_1))),(.d (Zb m0_2))]),(.arr 1 (List.map Zb m1_0)),(.arr 1 (List.map Zb m2_0)),(.arr 3 []),(.arr 6 []),(.arr 1 []),(.arr 1 (List.map Zb r.1)),(.arr 1 (List.map Zb r.2.1)),(.arr 1 (List.map Zb r.2.2))])
def ZgZ (t0:Bool) (t1:Bool) (m0_0:List Int) (m0_1:List ZG) (m0_2:Int) (m1_0:List Int) (m2_0:List Int) (x2:List Int):Unit→Ex×List V×Zn
  | r=>(.exit 0,[.bad,.bad,(.sl 6 1)],[(.cells [(.sl 7 1),(.sl 8 1),(.sl 3 3),(.sl 4 6),(.sl 5 1),(.d (D.list t0 (List.map Zb m0_0))),(.d (D.list t1 (List.map ZH m0_1))),(.d (Zb m0_2))]),(.arr 1 (List.map Zb m1_0)),(.arr 1 (List.map Zb m2_0)),(.arr 3 []),(.arr 6 []),(.arr 1 []),(.arr 1 []),(.arr 1 []),(.arr 1 [])])
theorem ZjR {t0 t1:Bool}{m0_0:List Int}{m0_1:List ZG}{m0_2:Int}{m1_0:List Int}{m2_0:List Int}{x2:List Int}:∀(s3:Int) (r:Unit),lp (ZfD m1_0) s3=some r→lpW ctx 6 [0,6,8,9,10,52,53,54] [2,3,6] ZqQ [(.ptr 0 0),(.sl 6 1),(.d (D.list true (List.map Zb x2))),(.fn 1000054 [(.ptr 0 0)]),(.sl 7 1),(.sl 8 1),(.d (Zb (m1_0.length:Int))),(.d (Zb s3))] [(.cells [(.sl 9 1),(.sl 10 1),(.sl 3 3),(.sl 4 6),(.sl 5 1),(.d (D.list t0 (List.map Zb m0_0))),(.d (D.list t1 (List.map ZH m0_1))),(.d (Zb m0_2))]),(.arr 1 (List.map Zb m1_0)),(.arr 1 (List.map Zb m2_0)),(.arr 3 []),(.arr 6 []),(.arr 1 []),(.arr 1 []),(.arr 1 []),(.arr 1 (List.map Zb m1_0)),(.arr 1 []),(.arr 1 [])]=some ((ZgZ t0 t1 m0_0 m0_1 m0_2 m1_0 m2_0 x2) r):=by
 refine ZaR (ZgZ t0 t1 m0_0 m0_1 m0_2 m1_0 m2_0 x2) ?_
 intro s3 rcl ih
 show ZF _ _ (lpW _ _ _ _ _ _ _)
 unfold ZfD
 rw[ZaT]
 conv=>rhs;whnf
 refine Zd rfl ?_ ?_<;>conv=>rhs;whnf
 ·refine Zm rfl rfl fun x4 hx4=>?_;conv=>rhs;whnf
  refine Zh (Zq rfl hx4) ?_;conv=>rhs;whnf
  refine Zd rfl ?_ ?_
  ·conv=>rhs;whnf
   exact Zf (ih _)
  ·exact ZR
 ·exact Zc rfl
def Zg5 (t0:Bool) (t1:Bool) (m0_0:List Int) (m0_1:List ZG) (m0_2:Int) (m1_0:List Int) (m2_0:List Int) (x1:((List Int)×(List Int)×(List Int))) (x6:List Int) (s7:Int) (x10:List Int):Unit→Ex×List V×Zn
  | r=>(.exit 2,[(.ptr 0 0),.bad,.bad,(.sl 6 1),(.d (D.list true (List.map Zb x6))),(.fn 1000054 [(.ptr 0 0)]),(.sl 7 1),(.sl 8 1),(.d (Zb (m1_0.length:Int))),(.d (Zb s7))],[(.cells [(.sl 9 1),(.sl 10 1),(.sl 3 3),(.sl 4 6),(.sl 5 1),(.d (D.list t0 (List.map Zb m0_0))),(.d (D.list t1 (List.map ZH m0_1))),(.d (Zb m0_2))]),(.arr 1 (List.map Zb m1_0)),(.arr 1 (List.map Zb m2_0)),(.arr 3 []),(.arr 6 []),(.arr 1 []),(.arr 1 (List.map Zb x1.2.2)),(.arr 1 []),(.arr 1 (List.map Zb m1_0)),(.arr 1 (List.map Zb x1.1)),(.arr 1 (List.map Zb x1.2.1))])
theorem ZjZ {t0 t1:Bool}{m0_0:List Int}{m0_1:List ZG}{m0_2:Int}{m1_0:List Int}{m2_0:List Int}{x1:((List Int)×(List Int)×(List Int))}{x6:List Int}{s7:Int}{x10:List Int}:∀(s11:Int) (r:Unit),lp (Zfz x6 x10) s11=some r→lpW ctx 6 [0,6,8,9,10,11,52,53,54,78,79,80] [0,2,3,6,8,9,10,52,53,54] Zvq [(.ptr 0 0),(.sl 6 1),(.d (D.list true (List.map Zb x6))),(.fn 1000054 [(.ptr 0 0)]),(.sl 7 1),(.d (Zb s7)),(.sl 8 1),(.d (Zb (m1_0.length:Int))),(.d (Zb s7)),(.d (D.list true (List.map Zb x10))),(.d (Zb (x10.length:Int))),(.d (Zb s11))] [(.cells [(.sl 9 1),(.sl 10 1),(.sl 3 3),(.sl 4 6),(.sl 5 1),(.d (D.list t0 (List.map Zb m0_0))),(.d (D.list t1 (List.map ZH m0_1))),(.d (Zb m0_2))]),(.arr 1 (List.map Zb m1_0)),(.arr 1 (List.map Zb m2_0)),(.arr 3 []),(.arr 6 []),(.arr 1 []),(.arr 1 (List.map Zb x1.2.2)),(.arr 1 []),(.arr 1 (List.map Zb m1_0)),(.arr 1 (List.map Zb x1.1)),(.arr 1 (List.map Zb x1.2.1))]=some ((Zg5 t0 t1 m0_0 m0_1 m0_2 m1_0 m2_0 x1 x6 s7 x10) r):=by
 refine ZaR (Zg5 t0 t1 m0_0 m0_1 m0_2 m1_0 m2_0 x1 x6 s7 x10) ?_
 intro s11 rcl ih
 show ZF _ _ (lpW _ _ _ _ _ _ _)
 unfold Zfz
 rw[ZaT]
 conv=>rhs;whnf
 refine Zd rfl ?_ ?_<;>conv=>rhs;whnf
 ·refine Zm rfl rfl fun x12 hx12=>?_;conv=>rhs;whnf
  refine Zj _ Zas rfl fun x13 hx13=>?_;conv=>rhs;whnf
  refine Zd rfl ?_ ?_<;>conv=>rhs;whnf
  ·refine Zj _ Zas rfl fun x14 hx14=>?_;conv=>rhs;whnf
   refine Zd rfl ?_ ?_
   ·conv=>rhs;whnf
    exact Zf (ih _)
   ·exact ZR
  ·exact Zf (ih _)
 ·exact Zc rfl
def Zgi (t0:Bool) (t1:Bool) (m0_0:List Int) (m0_1:List ZG) (m0_2:Int) (m1_0:List Int) (m2_0:List Int) (x1:((List Int)×(List Int)×(List Int))) (x6:List Int):Unit→Ex×List V×Zn
  | r=>(.exit 0,[.bad,.bad,(.sl 6 1)],[(.cells [(.sl 7 1),(.sl 8 1),(.sl 3 3),(.sl 4 6),(.sl 5 1),(.d (D.list t0 (List.map Zb m0_0))),(.d (D.list t1 (List.map ZH m0_1))),(.d (Zb m0_2))]),(.arr 1 (List.map Zb m1_0)),(.arr 1 (List.map Zb m2_0)),(.arr 3 []),(.arr 6 []),(.arr 1 []),(.arr 1 (List.map Zb x1.2.2)),(.arr 1 (List.map Zb x1.1)),(.arr 1 (List.map Zb x1.2.1))])
theorem ZiX {t0 t1:Bool}{m0_0:List Int}{m0_1:List ZG}{m0_2:Int}{m1_0:List Int}{m2_0:List Int}{x1:((List Int)×(List Int)×(List Int))}{x6:List Int}:∀(s7:Int) (r:Unit),lp (ZeV m0_0 m0_1 m1_0 x1 x6) s7=some r→lpW ctx 6 [0,6,8,9,10,52,53,54] [2,3,6] ZqQ [(.ptr 0 0),(.sl 6 1),(.d (D.list true (List.map Zb x6))),(.fn 1000054 [(.ptr 0 0)]),(.sl 7 1),(.sl 8 1),(.d (Zb (m1_0.length:Int))),(.d (Zb s7))] [(.cells [(.sl 9 1),(.sl 10 1),(.sl 3 3),(.sl 4 6),(.sl 5 1),(.d (D.list t0 (List.map Zb m0_0))),(.d (D.list t1 (List.map ZH m0_1))),(.d (Zb m0_2))]),(.arr 1 (List.map Zb m1_0)),(.arr 1 (List.map Zb m2_0)),(.arr 3 []),(.arr 6 []),(.arr 1 []),(.arr 1 (List.map Zb x1.2.2)),(.arr 1 []),(.arr 1 (List.map Zb m1_0)),(.arr 1 (List.map Zb x1.1)),(.arr 1 (List.map Zb x1.2.1))]=some ((Zgi t0 t1 m0_0 m0_1 m0_2 m1_0 m2_0 x1 x6) r):=by
 refine ZaR (Zgi t0 t1 m0_0 m0_1 m0_2 m1_0 m2_0 x1 x6) ?_
 intro s7 rcl ih
 show ZF _ _ (lpW _ _ _ _ _ _ _)
 unfold ZeV
 rw[ZaT]
 conv=>rhs;whnf
 refine Zd rfl ?_ ?_<;>conv=>rhs;whnf
 ·refine Zm rfl rfl fun x8 hx8=>?_;conv=>rhs;whnf
  refine Zh (Zq rfl hx8) ?_;conv=>rhs;whnf
  refine Zd rfl ?_ ?_<;>conv=>rhs;whnf
  ·exact Zf (ih _)
  ·refine Zm rfl rfl fun x9 hx9=>?_;conv=>rhs;whnf
   refine Zh (Zq rfl hx9) ?_;conv=>rhs;whnf
   refine Zd rfl ?_ ?_<;>conv=>rhs;whnf
   ·exact Zf (ih _)
   ·refine Zj _ Zmz rfl fun x10 hx10=>?_;conv=>rhs;whnf
    refine Zk (ZE _ _) ?_;conv=>rhs;whnf
    refine Ze _ (ZjZ _) fun r15 hr15=>?_;conv=>rhs;whnf
    exact Zf (ih _)
 ·exact Zc rfl
theorem Zlh {t0 t1:Bool}{m0_0:List Int}{m0_1:List ZG}{m0_2:Int}{m1_0:List Int}{m2_0:List Int}:∀r,(ZgK m0_0 m0_1 m1_0 m2_0)=some r→evW ctx 48 [(.ptr 0 0)] [(.cells [(.sl 1 1),(.sl 2 1),(.sl 3 3),(.sl 4 6),(.sl 5 1),(.d (D.list t0 (List.map Zb m0_0))),(.d (D.list t1 (List.map ZH m0_1))),(.d (Zb m0_2))]),(.arr 1 (List.map Zb m1_0)),(.arr 1 (List.map Zb m2_0)),(.arr 3 []),(.arr 6 []),(.arr 1 [])]=some ((ZhV t0 t1 m0_0 m0_1 m0_2 m1_0 m2_0) r):=by
 show ZF _ (fun r rhs=>rhs=some ((ZhV t0 t1 m0_0 m0_1 m0_2 m1_0 m2_0) r)) _
 unfold ZgK
 rw[Zc5 ctx 48 ZAI _ _ rfl rfl]
 conv=>rhs;whnf
 refine Ze _ ZaM fun x0 hx0=>?_;conv=>rhs;whnf
 refine Ze _ Zmd fun x1 hx1=>?_
 clear hx1
 rcases x1 with x1 | x1
 ·conv=>rhs;whnf
  refine Zd rfl ?_ ?_<;>conv=>rhs;whnf
  ·exact Zc rfl
  ·refine Zj _ Zd0 rfl fun x2 hx2=>?_;conv=>rhs;whnf
   refine Zk (ZE _ _) ?_;conv=>rhs;whnf
   refine Ze _ (ZjR _) fun r5 hr5=>?_;conv=>rhs;whnf
   exact Zc rfl
 ·conv=>rhs;whnf
  refine Zam rfl ?_;conv=>rhs;whnf
  refine Zj _ Zd0 rfl fun x6 hx6=>?_;conv=>rhs;whnf
  refine Zk (ZE _ _) ?_;conv=>rhs;whnf
  refine Ze _ (ZiX _) fun r16 hr16=>?_;conv=>rhs;whnf
  exact Zc rfl
def ZnB (r:((List (List Int))×Int×Int)):D:=(D.tup [(D.list true (List.map (Zen true) r.1)),(Zb r.2.1),(Zb r.2.2)])
def ZkH (t0:Bool) (t1:Bool) (t2:Bool) (t3:Bool) (a:ZL) (b:List Int) (d:List Int):Int→Ex×List V×Zn
  | r=>(.exit 0,[(.d (D.list t3 (List.map Zb d))),(.ptr 0 0),(.ptr 1 0),(.d (Zb r))],[(.cells [(.d (D.list t0 (List.map Zb a.work))),(.d (D.list t1 (List.map ZH a.edges)))]),(.cells [(.sl 2 1),(.sl 3 1),(.sl 4 3),(.sl 5 6),(.sl 6 1)]),(.arr 1 []),(.arr 1 []),(.arr 3 []),(.arr 6 []),(.arr 1 [])])
theorem Zox {t0 t1:Bool}{t2 t3:Bool}{a:ZL}{b:List Int}{d:List Int}:∀(s1:Int×Int) (r:Int),lp (ZjJ b) s1=some r→lpW ctx 0 [3,4,11,13,33,34,35] [3,4,11,13] Zsv [(.d (D.list t3 (List.map Zb d))),(.ptr 0 0),(.ptr 1 0),(.d (Zb s1.1)),(.d (D.list t2 (List.map Zb b))),(.d (Zb (b.length:Int))),(.d (Zb s1.2))] [(.cells [(.d (D.list t0 (List.map Zb a.work))),(.d (D.list t1 (List.map ZH a.edges)))]),(.cells [(.sl 2 1),(.sl 3 1),(.sl 4 3),(.sl 5 6),(.sl 6 1)]),(.arr 1 []),(.arr 1 []),(.arr 3 []),(.arr 6 []),(.arr 1 [])]=some ((ZkH t0 t1 t2 t3 a b d) r):=by
 refine ZaR (ZkH t0 t1 t2 t3 a b d) ?_
 intro s1 rcl ih
 show ZF _ _ (lpW _ _ _ _ _ _ _)
 unfold ZjJ
 rw[ZaT]
 conv=>rhs;whnf
 refine Zd rfl ?_ ?_<;>conv=>rhs;whnf
 ·refine Zm rfl rfl fun x2 hx2=>?_;conv=>rhs;whnf
  exact Zf (ih _)
 ·exact Zc rfl
def ZkL (t0:Bool) (t1:Bool) (t3:Bool) (a:ZL) (d:List Int):((Int×(List (List Int)))⊕(List (List Int)))→Ex×List V×Zn
  | (.inl r)=>(.ret,[(.nilsl 1),(.d (Zb 0)),(.d (Zb r.1)),(.sl 0 1),(.d (Zb 0))],[(.arr 1 (List.map (Zen true) r.2))])
  | (.inr r)=>(.exit 2,[.bad,.bad,.bad,(.sl 0 1),(.d (Zb 0))],[(.arr 1 (List.map (Zen true) r))])
theorem ZoG {t0 t1 t3:Bool}{a:ZL}{d:List Int}:∀(s4:Int×(List (List Int))×(List Int)×(List Int)) (r:((Int×(List (List Int)))⊕(List (List Int)))),lp (ZjI a d) s4=some r→lpW ctx 0 [3,16,17,18] [8,9,10,17,18] Zvb [(.d (D.list t3 (List.map Zb d))),(.ptr 0 0),(.sl 1 1),(.d (Zb 0))] [(.cells [(.sl 2 1),(.sl 3 1),(.sl 4 3),(.sl 5 6),(.sl 6 1),(.d (D.list t0 (List.map Zb a.work))),(.d (D.list t1 (List.map ZH a.edges))),(.d (Zb s4.1))]),(.arr 1 (List.map (Zen true) s4.2.1)),(.arr 1 (List.map Zb s4.2.2.1)),(.arr 1 (List.map Zb s4.2.2.2)),(.arr 3 []),(.arr 6 []),(.arr 1 [])]=some ((ZkL t0 t1 t3 a d) r):=by
 refine ZaR (ZkL t0 t1 t3 a d) ?_
 intro s4 rcl ih
 show ZF _ _ (lpW _ _ _ _ _ _ _)
 unfold ZjI
 rw[ZaT]
 conv=>rhs;whnf
 refine Zj _ ZcB rfl fun x5 hx5=>?_;conv=>rhs;whnf
 refine Zd rfl ?_ ?_<;>conv=>rhs;whnf
 ·refine Zk (ZE _ _) ?_;conv=>rhs;whnf
  refine Zd rfl ?_ ?_
  ·conv=>rhs;whnf
   refine Zd (Ztk Zb d (bif decide ((d.length:Int)<0) then (d.length:Int) else 0).toNat) ?_ ?_
   ·conv=>rhs;whnf
    refine ZcI (Zx6 Zb (fun _=>⟨rfl,rfl⟩) d _) ?_;conv=>rhs;whnf
    refine Zk (Zq8 Zb d (bif decide ((d.length:Int)<0) then (d.length:Int) else 0).toNat) ?_;conv=>rhs;whnf
    refine Ze _ ZkV fun x6 hx6=>?_;conv=>rhs;whnf
    refine Zam rfl ?_;conv=>rhs;whnf
    refine Ze _ ZaM fun x7 hx7=>?_;conv=>rhs;whnf
    refine ZcI rfl ?_;conv=>rhs;whnf
    refine Zd (ZgS (Zen true) s4.2.1 1) ?_ ?_
    ·conv=>rhs;whnf
     refine Zk (ZgP (Zen true) s4.2.1 [s4.2.2.1]) ?_;conv=>rhs;whnf
     refine Ze _ Zlh fun x8 hx8=>?_
     clear hx8
     rcases x8 with x8 | (x8 | x8)
     ·conv=>rhs;whnf
      refine Zd rfl ?_ ?_<;>conv=>rhs;whnf
      ·exact Zc rfl
      ·exact Zf (ih _)
     ·conv=>rhs;whnf
      refine Zam rfl ?_;conv=>rhs;whnf
      exact Zf (ih _)
     ·conv=>rhs;whnf
      refine Zam rfl ?_;conv=>rhs;whnf
      exact Zf (ih _)
    ·exact ZR
   ·exact ZR
  ·exact ZR
 ·exact Zc rfl
def Zj5 (t0:Bool) (t1:Bool) (t2:Bool) (t3:Bool) (a:ZL) (b:List Int) (c:Int) (d:List Int) (x0:List Zl):Int→Ex×List V×Zn
  | r=>(.exit 0,[(.d (D.list t3 (List.map Zb d))),(.ptr 0 0),(.ptr 1 0),(.d (Zb r))],[(.cells [(.d (D.list t0 (List.map Zb a.work))),(.d (D.list t1 (List.map ZH a.edges)))]),(.cells [(.sl 2 1),(.sl 3 1),(.sl 4 3),(.sl 5 6),(.sl 6 1)]),(.arr 1 []),(.arr 1 []),(.arr 3 (List.map ZaD x0)),(.arr 6 (List.map ZaP (List.replicate c.toNat ((Zt.mk false 0 0 0 0 0):Zt)))),(.arr 1 (List.map Zb (List.replicate c.toNat (0:Int))))])
theorem Znd {t0 t1:Bool}{t2 t3:Bool}{a:ZL}{b:List Int}{c:Int}{d:List Int}{x0:List Zl}:∀(s10:Int×Int) (r:Int),lp (Zir b) s10=some r→lpW ctx 0 [3,4,11,13,33,34,35] [3,4,11,13] Zsv [(.d (D.list t3 (List.map Zb d))),(.ptr 0 0),(.ptr 1 0),(.d (Zb s10.1)),(.d (D.list t2 (List.map Zb b))),(.d (Zb (b.length:Int))),(.d (Zb s10.2))] [(.cells [(.d (D.list t0 (List.map Zb a.work))),(.d (D.list t1 (List.map ZH a.edges)))]),(.cells [(.sl 2 1),(.sl 3 1),(.sl 4 3),(.sl 5 6),(.sl 6 1)]),(.arr 1 []),(.arr 1 []),(.arr 3 (List.map ZaD x0)),(.arr 6 (List.map ZaP (List.replicate c.toNat ((Zt.mk false 0 0 0 0 0):Zt)))),(.arr 1 (List.map Zb (List.replicate c.toNat (0:Int))))]=some ((Zj5 t0 t1 t2 t3 a b c d x0) r):=by
 refine ZaR (Zj5 t0 t1 t2 t3 a b c d x0) ?_
 intro s10 rcl ih
 show ZF _ _ (lpW _ _ _ _ _ _ _)
 unfold Zir
 rw[ZaT]
 conv=>rhs;whnf
 refine Zd rfl ?_ ?_<;>conv=>rhs;whnf
 ·refine Zm rfl rfl fun x11 hx11=>?_;conv=>rhs;whnf
  exact Zf (ih _)
 ·exact Zc rfl
def ZjQ (t0:Bool) (t1:Bool) (t3:Bool) (a:ZL) (d:List Int):((Int×Int×(List (List Int)))⊕(Int×(List (List Int))))→Ex×List V×Zn
  | (.inl r)=>(.ret,[(.nilsl 1),(.d (Zb 0)),(.d (Zb r.1)),(.sl 0 1),(.d (Zb r.2.1))],[(.arr 1 (List.map (Zen true) r.2.2))])
  | (.inr r)=>(.exit 2,[.bad,.bad,.bad,(.sl 0 1),(.d (Zb r.1))],[(.arr 1 (List.map (Zen true) r.2))])
theorem Zi3 {t0 t1 t3:Bool}{a:ZL}{d:List Int}:∀(s13:Int×Int×(List (List Int))×(List Int)×(List Int)×(List Zl)×(List Zt)×(List Int)) (r:((Int×Int×(List (List Int)))⊕(Int×(List (List Int))))),lp (Zcq a d) s13=some r→lpW ctx 0 [3,16,17,18] [8,9,10,17,18] Zvb [(.d (D.list t3 (List.map Zb d))),(.ptr 0 0),(.sl 1 1),(.d (Zb s13.1))] [(.cells [(.sl 2 1),(.sl 3 1),(.sl 4 3),(.sl 5 6),(.sl 6 1),(.d (D.list t0 (List.map Zb a.work))),(.d (D.list t1 (List.map ZH a.edges))),(.d (Zb s13.2.1))]),(.arr 1 (List.map (Zen true) s13.2.2.1)),(.arr 1 (List.map Zb s13.2.2.2.1)),(.arr 1 (List.map Zb s13.2.2.2.2.1)),(.arr 3 (List.map ZaD s13.2.2.2.2.2.1)),(.arr 6 (List.map ZaP s13.2.2.2.2.2.2.1)),(.arr 1 (List.map Zb s13.2.2.2.2.2.2.2))]=some ((ZjQ t0 t1 t3 a d) r):=by
 refine ZaR (ZjQ t0 t1 t3 a d) ?_
 intro s13 rcl ih
 show ZF _ _ (lpW _ _ _ _ _ _ _)
 unfold Zcq
 rw[ZaT]
 conv=>rhs;whnf
 refine Zj _ ZcB rfl fun x14 hx14=>?_;conv=>rhs;whnf
 refine Zd rfl ?_ ?_<;>conv=>rhs;whnf
 ·refine Zk (ZE _ _) ?_;conv=>rhs;whnf
  refine Zd rfl ?_ ?_
  ·conv=>rhs;whnf
   refine Zd (Ztk Zb d (bif decide ((d.length:Int)<s13.1) then (d.length:Int) else s13.1).toNat) ?_ ?_
   ·conv=>rhs;whnf
    refine ZcI (Zx6 Zb (fun _=>⟨rfl,rfl⟩) d _) ?_;conv=>rhs;whnf
    refine Zk (Zq8 Zb d (bif decide ((d.length:Int)<s13.1) then (d.length:Int) else s13.1).toNat) ?_;conv=>rhs;whnf
    refine Ze _ Zl9 fun x15 hx15=>?_;conv=>rhs;whnf
    refine Zd rfl ?_ ?_<;>conv=>rhs;whnf
    ·exact Zc rfl
    ·refine Ze _ ZaM fun x16 hx16=>?_;conv=>rhs;whnf
     refine ZcI rfl ?_;conv=>rhs;whnf
     refine Zd (ZgS (Zen true) s13.2.2.1 1) ?_ ?_
     ·conv=>rhs;whnf
      refine Zk (ZgP (Zen true) s13.2.2.1 [x15.2.2.2.1]) ?_;conv=>rhs;whnf
      refine Ze _ ZmR fun x17 hx17=>?_
      clear hx17
      rcases x17 with x17 | (x17 | (x17 | x17))
      ·conv=>rhs;whnf
       refine Zd rfl ?_ ?_<;>conv=>rhs;whnf
       ·exact Zc rfl
       ·exact Zf (ih _)
      ·conv=>rhs;whnf
       refine Zam rfl ?_;conv=>rhs;whnf
       exact Zf (ih _)
      ·conv=>rhs;whnf
       refine ZcI rfl ?_;conv=>rhs;whnf
       exact Zc rfl
      ·conv=>rhs;whnf
       refine Zam rfl ?_;conv=>rhs;whnf
       exact Zf (ih _)
     ·exact ZR
   ·exact ZR
  ·exact ZR
 ·exact Zc rfl
def ZjO (t0:Bool) (t1:Bool) (t2:Bool) (t3:Bool) (a:ZL) (b:List Int) (c:Int) (d:List Int) (x0:((List Int)×(List Zl))):Int→Ex×List V×Zn
  | r=>(.exit 0,[(.d (D.list t3 (List.map Zb d))),(.ptr 0 0),(.ptr 1 0),(.d (Zb r))],[(.cells [(.d (D.list t0 (List.map Zb a.work))),(.d (D.list t1 (List.map ZH a.edges)))]),(.cells [(.sl 2 1),(.sl 3 1),(.sl 4 3),(.sl 5 6),(.sl 6 1)]),(.arr 1 (List.map Zb x0.1)),(.arr 1 (List.map Zb b)),(.arr 3 (List.map ZaD x0.2)),(.arr 6 (List.map ZaP (List.replicate c.toNat ((Zt.mk false 0 0 0 0 0):Zt)))),(.arr 1 (List.map Zb (List.replicate c.toNat (0:Int))))])
theorem Znf {t0 t1:Bool}{t2 t3:Bool}{a:ZL}{b:List Int}{c:Int}{d:List Int}{x0:((List Int)×(List Zl))}:∀(s19:Int×Int) (r:Int),lp (Zes b) s19=some r→lpW ctx 0 [3,4,11,13,33,34,35] [3,4,11,13] Zsv [(.d (D.list t3 (List.map Zb d))),(.ptr 0 0),(.ptr 1 0),(.d (Zb s19.1)),(.d (D.list t2 (List.map Zb b))),(.d (Zb (b.length:Int))),(.d (Zb s19.2))] [(.cells [(.d (D.list t0 (List.map Zb a.work))),(.d (D.list t1 (List.map ZH a.edges)))]),(.cells [(.sl 2 1),(.sl 3 1),(.sl 4 3),(.sl 5 6),(.sl 6 1)]),(.arr 1 (List.map Zb x0.1)),(.arr 1 (List.map Zb b)),(.arr 3 (List.map ZaD x0.2)),(.arr 6 (List.map ZaP (List.replicate c.toNat ((Zt.mk false 0 0 0 0 0):Zt)))),(.arr 1 (List.map Zb (List.replicate c.toNat (0:Int))))]=some ((ZjO t0 t1 t2 t3 a b c d x0) r):=by
 refine ZaR (ZjO t0 t1 t2 t3 a b c d x0) ?_
 intro s19 rcl ih
 show ZF _ _ (lpW _ _ _ _ _ _ _)
 unfold Zes
 rw[ZaT]
 conv=>rhs;whnf
 refine Zd rfl ?_ ?_<;>conv=>rhs;whnf
 ·refine Zm rfl rfl fun x20 hx20=>?_;conv=>rhs;whnf
  exact Zf (ih _)
 ·exact Zc rfl
theorem Zmq {t0 t1:Bool}{t2 t3:Bool}{a:ZL}{b:List Int}{c:Int}{d:List Int}:∀r,(ZfS a b c d)=some r→evD ctx 12 [(.d (D.agg [(D.list t0 (List.map Zb a.work)),(D.list t1 (List.map ZH a.edges))])),(.d (D.list t2 (List.map Zb b))),(.d (Zb c)),(.d (D.list t3 (List.map Zb d)))]=some (ZnB r):=by
 show ZF _ (fun r rhs=>rhs=some (ZnB r)) _
 unfold ZfS
 rw[ZaJ ctx 12 ZB1 _ rfl rfl]
 conv=>rhs;whnf
 refine Ze _ Zqq fun x0 hx0=>?_
 clear hx0
 rcases x0 with x0 | (x0 | x0)
 ·conv=>rhs;whnf
  refine Zd rfl ?_ ?_<;>conv=>rhs;whnf
  ·exact Zc rfl
  ·refine Zk (ZE _ _) ?_;conv=>rhs;whnf
   refine Ze _ (Zox _) fun r3 hr3=>?_;conv=>rhs;whnf
   refine Zd rfl ?_ ?_<;>conv=>rhs;whnf
   ·exact Zc rfl
   ·refine Ze _ (ZoG _) fun r9 hr9=>?_
    clear hr9
    rcases r9 with r9 | r9
    ·conv=>rhs;whnf
     exact Zc rfl
    ·conv=>rhs;whnf
     exact Zc rfl
 ·conv=>rhs;whnf
  refine Zam rfl ?_;conv=>rhs;whnf
  refine Zk (ZE _ _) ?_;conv=>rhs;whnf
  refine Ze _ (Znd _) fun r12 hr12=>?_;conv=>rhs;whnf
  refine Zd rfl ?_ ?_<;>conv=>rhs;whnf
  ·exact Zc rfl
  ·refine Ze _ (Zi3 _) fun r18 hr18=>?_
   clear hr18
   rcases r18 with r18 | r18
   ·conv=>rhs;whnf
    exact Zc rfl
   ·conv=>rhs;whnf
    exact Zc rfl
 ·conv=>rhs;whnf
  refine Zam rfl ?_;conv=>rhs;whnf
  refine Zk (ZE _ _) ?_;conv=>rhs;whnf
  refine Ze _ (Znf _) fun r21 hr21=>?_;conv=>rhs;whnf
  refine Zd rfl ?_ ?_<;>conv=>rhs;whnf
  ·exact Zc rfl
  ·refine Ze _ (Zi3 _) fun r27 hr27=>?_
   clear hr27
   rcases r27 with r27 | r27
   ·conv=>rhs;whnf
    exact Zc rfl
   ·conv=>rhs;whnf
    exact Zc rfl
def ZmU (r:Int):D:=(Zb r)
def Zki (t0:Bool) (a:(List (List Int))) (s0:Int×Int) (x1:List Int):Int→Ex×List V×Zn
  | r=>(.exit 2,[(.d (Zb r)),(.d (D.list t0 (List.map (Zen true) a))),(.d (Zb (a.length:Int))),(.d (Zb s0.2))],[])
theorem Zn5 {t0:Bool}{a:(List (List Int))}{s0:Int×Int}{x1:List Int}:∀(s2:Int×Int) (r:Int),lp (ZdX x1) s2=some r→lpW ctx 0 [3,8,9,10,14,15,16] [3,8,9,10] ZxJ [(.d (Zb s2.1)),(.d (D.list t0 (List.map (Zen true) a))),(.d (Zb (a.length:Int))),(.d (Zb s0.2)),(.d (D.list true (List.map Zb x1))),(.d (Zb (x1.length:Int))),(.d (Zb s2.2))] []=some ((Zki t0 a s0 x1) r):=by
 refine ZaR (Zki t0 a s0 x1) ?_
 intro s2 rcl ih
 show ZF _ _ (lpW _ _ _ _ _ _ _)
 unfold ZdX
 rw[ZaT]
 conv=>rhs;whnf
 refine Zd rfl ?_ ?_<;>conv=>rhs;whnf
 ·refine Zm rfl rfl fun x3 hx3=>?_;conv=>rhs;whnf
  refine Zd rfl ?_ ?_<;>conv=>rhs;whnf
  ·exact Zf (ih _)
  ·exact Zf (ih _)
 ·exact Zc rfl
def Zko (t0:Bool) (a:(List (List Int))):Int→Ex×List V×Zn
  | r=>(.exit 0,[(.d (Zb r))],[])
theorem ZnV {t0:Bool}{a:(List (List Int))}:∀(s0:Int×Int) (r:Int),lp (ZdZ a) s0=some r→lpW ctx 0 [3,8,9,10] [3] Zx2 [(.d (Zb s0.1)),(.d (D.list t0 (List.map (Zen true) a))),(.d (Zb (a.length:Int))),(.d (Zb s0.2))] []=some ((Zko t0 a) r):=by
 refine ZaR (Zko t0 a) ?_
 intro s0 rcl ih
 show ZF _ _ (lpW _ _ _ _ _ _ _)
 unfold ZdZ
 rw[ZaT]
 conv=>rhs;whnf
 refine Zd rfl ?_ ?_<;>conv=>rhs;whnf
 ·refine Zm rfl rfl fun x1 hx1=>?_;conv=>rhs;whnf
  refine Zk (ZE _ _) ?_;conv=>rhs;whnf
  refine Ze _ (Zn5 _) fun r4 hr4=>?_;conv=>rhs;whnf
  exact Zf (ih _)
 ·exact Zc rfl
theorem Zl3 {t0:Bool}{a:(List (List Int))}:∀r,(ZgM a)=some r→evD ctx 29 [(.d (D.list t0 (List.map (Zen true) a)))]=some (ZmU r):=by
 show ZF _ (fun r rhs=>rhs=some (ZmU r)) _
 unfold ZgM
 rw[ZaJ ctx 29 ZBZ _ rfl rfl]
 conv=>rhs;whnf
 refine Zk (ZE _ _) ?_;conv=>rhs;whnf
 refine Ze _ (ZnV _) fun r5 hr5=>?_;conv=>rhs;whnf
 exact Zc rfl
def Zj1 (r:Bool):D:=(D.bool r)
def Zig (t2:Bool) (b:List Int) (x8:((List (List Int))×Int×Int)) (x12:((List (List Int))×Int×Int)):Int→Ex×List V×Zn
  | r=>(.exit 0,[(.d (D.list true (List.map (Zen true) x8.1))),(.d (Zb x8.2.2)),(.d (D.list true (List.map (Zen true) x12.1))),(.d (Zb x12.2.2)),(.d (Zb r))],[])
theorem Zlw {t2:Bool}{b:List Int}{x8:((List (List Int))×Int×Int)}{x12:((List (List Int))×Int×Int)}:∀(s13:Int×Int) (r:Int),lp (Zbs b) s13=some r→lpW ctx 0 [1,9,11,12,14,15,16] [9,11,12,14,15] ZBx [(.d (D.list t2 (List.map Zb b))),(.d (D.list true (List.map (Zen true) x8.1))),(.d (Zb x8.2.2)),(.d (D.list true (List.map (Zen true) x12.1))),(.d (Zb x12.2.2)),(.d (Zb s13.1)),(.d (Zb s13.2))] []=some ((Zig t2 b x8 x12) r):=by
 refine ZaR (Zig t2 b x8 x12) ?_
 intro s13 rcl ih
 show ZF _ _ (lpW _ _ _ _ _ _ _)
 unfold Zbs
 rw[ZaT]
 conv=>rhs;whnf
 refine Zk (ZE _ _) ?_;conv=>rhs;whnf
 refine Zd rfl ?_ ?_<;>conv=>rhs;whnf
 ·refine Zm rfl rfl fun x14 hx14=>?_;conv=>rhs;whnf
  exact Zf (ih _)
 ·exact Zc rfl
theorem Zni {t0 t1:Bool}{t2 t3:Bool}{a:ZL}{b:List Int}{c:Int}{d:List Int}:∀r,(ZgO a b c d)=some r→evD ctx 6 [(.d (D.agg [(D.list t0 (List.map Zb a.work)),(D.list t1 (List.map ZH a.edges))])),(.d (D.list t2 (List.map Zb b))),(.d (Zb c)),(.d (D.list t3 (List.map Zb d)))]=some (Zj1 r):=by
 show ZF _ (fun r rhs=>rhs=some (Zj1 r)) _
 unfold ZgO
 rw[ZaJ ctx 6 fn6 _ rfl rfl]
 conv=>rhs;whnf
 refine Zj _ Zer rfl fun x0 hx0=>?_;conv=>rhs;whnf
 refine Zd rfl ?_ ?_<;>conv=>rhs;whnf
 ·refine Zj _ Zqv rfl fun x1 hx1=>?_;conv=>rhs;whnf
  refine Zd rfl ?_ ?_<;>conv=>rhs;whnf
  ·refine Zk (ZE _ _) ?_;conv=>rhs;whnf
   refine Zd rfl ?_ ?_<;>conv=>rhs;whnf
   ·refine Zj _ Zer rfl fun x2 hx2=>?_;conv=>rhs;whnf
    refine Zd rfl ?_ ?_<;>conv=>rhs;whnf
    ·exact Zc rfl
    ·exact Zc rfl
   ·refine Zj _ ZoN rfl fun x3 hx3=>?_;conv=>rhs;whnf
    refine Zd rfl ?_ ?_<;>conv=>rhs;whnf
    ·refine Zk (ZE _ _) ?_;conv=>rhs;whnf
     refine Zd rfl ?_ ?_<;>conv=>rhs;whnf
     ·refine Zj _ Zer rfl fun x4 hx4=>?_;conv=>rhs;whnf
      refine Zd rfl ?_ ?_<;>conv=>rhs;whnf
      ·exact Zc rfl
      ·exact Zc rfl
     ·refine Ze _ ZmH fun x5 hx5=>?_;conv=>rhs;whnf
      refine Ze _ Zhn fun x6 hx6=>?_;conv=>rhs;whnf
      refine Ze _ Zhn fun x7 hx7=>?_;conv=>rhs;whnf
      refine Zj _ Zmq rfl fun x8 hx8=>?_;conv=>rhs;whnf
      refine Ze _ ZmH fun x9 hx9=>?_;conv=>rhs;whnf
      refine Ze _ Zhn fun x10 hx10=>?_;conv=>rhs;whnf
      refine Ze _ Zhn fun x11 hx11=>?_;conv=>rhs;whnf
      refine Zj _ Zmq rfl fun x12 hx12=>?_;conv=>rhs;whnf
      refine Ze _ (Zlw _) fun r15 hr15=>?_;conv=>rhs;whnf
      refine Zd rfl ?_ ?_<;>conv=>rhs;whnf
      ·refine Zd rfl ?_ ?_<;>conv=>rhs;whnf
       ·exact Zc rfl
       ·refine Zk (ZE _ _) ?_;conv=>rhs;whnf
        refine Zd rfl ?_ ?_<;>conv=>rhs;whnf
        ·refine Zd rfl ?_ ?_<;>conv=>rhs;whnf
         ·exact Zc rfl
         ·exact Zc rfl
        ·exact Zc rfl
      ·refine Zd rfl ?_ ?_<;>conv=>rhs;whnf
       ·refine Zd rfl ?_ ?_<;>conv=>rhs;whnf
        ·exact Zc rfl
        ·refine Zk (ZE _ _) ?_;conv=>rhs;whnf
         refine Zd rfl ?_ ?_<;>conv=>rhs;whnf
         ·refine Zd rfl ?_ ?_<;>conv=>rhs;whnf
          ·exact Zc rfl
          ·exact Zc rfl
         ·exact Zc rfl
       ·refine Zk (ZE _ _) ?_;conv=>rhs;whnf
        refine Zd rfl ?_ ?_<;>conv=>rhs;whnf
        ·refine Zj _ Zl3 rfl fun x16 hx16=>?_;conv=>rhs;whnf
         refine Zd rfl ?_ ?_<;>conv=>rhs;whnf
         ·refine Zj _ Zl3 rfl fun x17 hx17=>?_;conv=>rhs;whnf
          refine Zd rfl ?_ ?_<;>conv=>rhs;whnf
          ·refine Zk (ZE _ _) ?_;conv=>rhs;whnf
           refine Zd rfl ?_ ?_<;>conv=>rhs;whnf
           ·exact Zc rfl
           ·exact Zc rfl
          ·exact Zc rfl
         ·exact Zc rfl
        ·exact Zc rfl
    ·refine Zj _ Zer rfl fun x18 hx18=>?_;conv=>rhs;whnf
     refine Zd rfl ?_ ?_<;>conv=>rhs;whnf
     ·exact Zc rfl
     ·exact Zc rfl
  ·refine Zj _ Zer rfl fun x19 hx19=>?_;conv=>rhs;whnf
   refine Zd rfl ?_ ?_<;>conv=>rhs;whnf
   ·exact Zc rfl
   ·exact Zc rfl
 ·refine Zj _ Zer rfl fun x20 hx20=>?_;conv=>rhs;whnf
  refine Zd rfl ?_ ?_<;>conv=>rhs;whnf
  ·exact Zc rfl
  ·exact Zc rfl
abbrev ZyV:List Lf×Bool:=([.int .i64],false)
abbrev ZnE:List Lf×Bool:=([.sl false [.int .i64]],false)
abbrev Zua:List Lf×Bool:=([.sl false [.int .i64],.sl true [.int .i64,.int .i64]],true)
theorem ZsC (g:ZL) (need:List Int) (c:Int) (picks:List Int):ZgO g need c picks=some true:=by
  unfold ZgO
  simp only[Zeo,ZCw,Option.bind_some,cond_true]
  cases hf:Zxy g with
  | false=>rfl
  | true=>
  obtain⟨hw,he,hsh⟩:=Zwz hf
  rw[cond_true]
  by_cases hl:70<(need.length:Int)
  · rw[decide_eq_true hl];rfl
  rw[decide_eq_false hl,cond_false]
  obtain⟨b,hb,hb2⟩:=ZyF need (by omega)
  rw[hb,Option.bind_some]
  cases b with
  | false=>rfl
  | true=>
  rw[cond_true]
  by_cases hp:600<(picks.length:Int)
  · rw[decide_eq_true hp];rfl
  rw[decide_eq_false hp,cond_false]
  simp only[ZBI hf,ZrP (show need.length≤1000 by omega),ZrP (show picks.length≤1000 by omega),Option.bind_some]
  by_cases h1:ZjU g need 1=0
  · have in1:=Zlx.1 h1
    have hr:∀x∈need,0≤x∧x≤1000:=fun x hx=>by have:=in1.rng x hx;omega
    have hs:=hb2 rfl fun x hx=>(hr x hx).1
    have hw64:=(ZdV in1.ck).1.wl
    have hnl:=in1.nl
    have hsum:=Zr3 hr (by omega) (Zbs need) (fun i s x hi hx=>by simp only[Zbs,Zh5 hi,cond_true,ZaN hx,Option.bind_some]) (fun s=>by simp only[Zbs,Zib];rfl)
    obtain⟨t,s1,e1,R1⟩:=ZBD (picks:=picks) in1 (by omega) (by omega)
    have A1:=R1.all in1
    rw[e1,Option.bind_some]
    by_cases h2:ZjU g need c=0
    · have in2:=Zlx.1 h2
      obtain⟨u,s2,e2,R2⟩:=ZBD (picks:=picks) in2 (by omega) (by omega)
      have A2:=R2.all in2
      have hc8:=in2.c8
      have hc1:=in2.c1
      have b1:=A1.busy
      have b2:=A2.busy
      have o1:=A1.one rfl
      have sh2:=A2.short
      rw[e2,Option.bind_some,hsum,Option.bind_some]
      dsimp only
      simp only[show((0:Int) != 0)=false from rfl,cond_false]
      rw[show((t.length:Int)==need.sum)=true from beq_iff_eq.2 (by omega),cond_true,ZzK t (by omega) (fun row hrow=>by have:=A1.rows row hrow;omega),Option.bind_some,show((ZeJ t:Int)==need.sum)=true from beq_iff_eq.2 b1,cond_true,
        ZzK u (by omega) (fun row hrow=>by have:=A2.rows row hrow;omega),Option.bind_some,show((ZeJ u:Int)==need.sum)=true from beq_iff_eq.2 b2,cond_true,decide_eq_true (show(u.length:Int)≤need.sum by omega)]
      rfl
    · rw[ZqS hsh h2,Option.bind_some,hsum,Option.bind_some]
      dsimp only
      rw[show(ZjU g need c != 0)=true by simpa using h2]
      rfl
  · have h2:ZjU g need c≠0:=fun h2=>h1 (Zlx.2 (by
      have in2:=Zlx.1 h2
      exact⟨in2.ck,in2.nl,in2.rng,by omega,by omega⟩))
    rw[ZqS hsh h1,Option.bind_some,ZqS hsh h2,Option.bind_some]
    dsimp only
    have hsum:∃r,lp (Zbs need) (0,0)=some r:=by
      have key:∀(k i:Nat) (s:Int),i+k=need.length→∃r,lp (Zbs need) (s,(i:Int))=some r:=by
        intro k
        induction k with
        | zero => intro i s hi; have : i = need.length := by omega
                  subst this;exact⟨s,by rw[Zbh];simp only[Zbs,Zib];rfl⟩
        | succ k ih=>
          intro i s hi
          have hi':i<need.length:=by omega
          have hx:=List.getElem?_eq_getElem hi'
          obtain⟨r,hr⟩:=ih (i+1) (w64 (s+need[i])) (by omega)
          refine⟨r,?_⟩
          rw[Zbh]
          simp only[Zbs,Zh5 hi',cond_true,ZaN hx,Option.bind_some,Za6 hi' (show need.length<9223372036854775808 by omega)]
          exact hr
      exact key need.length 0 0 (by omega)
    obtain⟨r,hr⟩:=hsum
    rw[hr,Option.bind_some,show(ZjU g need 1 != 0)=true by simpa using h1,show(ZjU g need 1==0)=false from beq_eq_false_iff_ne.2 h1,show(ZjU g need c != 0)=true by simpa using h2]
    rfl
theorem Zt7 (xs:List D) (h:Zhv Zua.1 xs) (ys:List D) (k:Zhv ZnE.1 ys) (zs:List D) (m:Zhv ZyV.1 zs) (vs:List D) (n:Zhv ZnE.1 vs) :
    ∃H',evW ctx 6 (Zdt [ZnX Zua.2 xs,ZnX ZnE.2 ys,ZnX ZyV.2 zs,ZnX ZnE.2 vs]) []=some (.d (.bool true),H'):=by
  obtain⟨d,hd,_⟩:=Zxq h
  obtain⟨a,ha,_⟩:=ZqM k
  obtain⟨c,hc,_⟩:=ZCi m
  obtain⟨p,hp,_⟩:=ZqM n
  show ∃H',evW ctx 6 [.d (D.agg xs),.d (ZnX false ys),.d (ZnX false zs),.d (ZnX false vs)] []=_
  rw[hd,ha,hc,hp]
  exact Zz2 (Zni true (ZsC d a c p))
end Go.Proofs.YtgcfmiajkbbmeaaGreatDoor
namespace Go.Proofs.YtgcfmiajkbbmeaaGreatDoor.LawStealOne
open Go.ChangeShapes Go.WideShapes Go.ChangeAt Go.RowKit Go.Proofs.YtgcfmiajkbbmeaaGreatDoorE
theorem own:ownKnob Tryz.prog.godebug=none:=by kernel_rfl
theorem Zp8:laidOutB Tryz.prog=true:=by kernel_rfl
def Zrr : List (String × DataW Unit) := [("math/bits.deBruijn32tab", Rows.laid_math_bits_deBruijn32tab), ("math/bits.deBruijn64tab", Rows.laid_math_bits_deBruijn64tab)]
theorem ZzF (os:Os) (args:Array Value):laidMetH Tryz.prog Zrr ((World.doorLaid Tryz.prog 19 os).forCall (fun _ _=>0) ⟨#[],args,[]⟩).memory:=
 laidMetH_of_parts3 (fuel:=8) (laidMet_of_run' 8 (by kernel_rfl) (by kernel_rfl)) (by kernel_rfl) (by kernel_rfl)
theorem Zyh {W:World} (h:laidMetH Tryz.prog Zrr W):GOK Zo R0 W:=by
 intro g l hg
 unfold Zo at hg
 split at hg
 ·cases hg
  exact Zrb (t := 246) (N := 32) (e := 5) (k := .u8) h (by kernel_rfl) (n := "math/bits.deBruijn32tab") (by rw [show DataW.agg (Zn1 ZBv) = Rows.laid_math_bits_deBruijn32tab by kernel_rfl]; simp [Zrr]) (by kernel_rfl) (by kernel_rfl) (by kernel_rfl) (by kernel_rfl) (by kernel_rfl) (by kernel_rfl) (by decide)
 ·cases hg
  exact Zrb (t := 247) (N := 64) (e := 5) (k := .u8) h (by kernel_rfl) (n := "math/bits.deBruijn64tab") (by rw [show DataW.agg (Zn1 ZBh) = Rows.laid_math_bits_deBruijn64tab by kernel_rfl]; simp [Zrr]) (by kernel_rfl) (by kernel_rfl) (by kernel_rfl) (by kernel_rfl) (by kernel_rfl) (by kernel_rfl) (by decide)
 ·cases hg
theorem ZCn (os:Os) (started:os.Started) (H:Type) (enc:TypeId×Value→H) :
  ReturnsInHanded {} Tryz.checked os 6 .any (fun w args=>(Rows.stealOneSpec.pre enc Tryz.prog Tryz.f6 [] false w args∧laidMetH Tryz.prog Zrr w)∧sizedMet enc Tryz.prog Tryz.f6 (OpenSpec.ofChange Rows.stealOneSpec) false w args) (Rows.stealOneSpec.post enc Tryz.prog Tryz.f6 false true false false):=by
 refine returnsInHanded_of_change_and (C:=Tryz.checked) (X:=fun w _=>laidMetH Tryz.prog Zrr w) (fun _ _ _ hh h=>h.of_heap hh) own started (by kernel_rfl) Tryz.func6
  (ChangeSpec.witness_shaped (enc:=enc) (C:=Tryz.checked) (os:=os) (X:=fun w _=>laidMetH Tryz.prog Zrr w) false (World.doorLaid Tryz.prog 19 os) #[.agg #[.slice none 0 0,.slice none 0 0],.slice none 0 0,.int .i64 0,.slice none 0 0] 8 rfl (World.shaped_of_RefB (by kernel_rfl) (by kernel_rfl)) (by kernel_rfl) (by kernel_rfl) (by kernel_rfl) (ZzF os _)) ?_
 intro W base args ds gs before hval0 hW _ _ hL _
 have hval:∀(j:Nat) t v,Tryz.f6.params[j]? = some t→args[j]? = some v→Value.okWide Tryz.prog W .any base t v:=hval0
 have hW':=hW
 obtain⟨p,q,hA0,hV,rfl,hfz,hnd⟩:=hW
 have hA:DataW.TrodAll enc Tryz.prog W 0 (fun _=>true) true Tryz.f6.params.toList args.toList ds p:=hA0
 rw[Tryz.params6] at hA hval
 obtain⟨v0,vs0,d0,ds0,p0,q0,hargs,rfl,rfl,h0,r0⟩:=trodAll_cons hA
 obtain⟨v1,vs1,d1,ds1,p1,q1,rfl,rfl,rfl,h1,r1⟩:=trodAll_cons r0
 obtain⟨v2,vs2,d2,ds2,p2,q2,rfl,rfl,rfl,h2,r2⟩:=trodAll_cons r1
 obtain⟨v3,vs3,d3,ds3,p3,q3,rfl,rfl,rfl,h3,r3⟩:=trodAll_cons r2
 obtain⟨rfl,rfl,rfl⟩:=trodAll_nil r3
 obtain rfl:args = #[v0,v1,v2,v3]:=by cases args;simp_all
 obtain⟨rfl,rfl⟩:=trodVars_none hV
 have lt0:∀x∈p0,x.block<W.heap.size:=by obtain⟨m,hm⟩:=h0;exact DataW.trod_lt m _ _ _ hm
 obtain⟨x0,ok0,den0⟩:=ZsH (P:=Tryz.prog) (n:=8) (t:=25) (l:=Zua.1) (ag:=Zua.2) (by kernel_rfl) (hval 0 25 v0 rfl rfl) h0
 have lt1:∀x∈p1,x.block<W.heap.size:=by obtain⟨m,hm⟩:=h1;exact DataW.trod_lt m _ _ _ hm
 obtain⟨x1,ok1,den1⟩:=ZsH (P:=Tryz.prog) (n:=8) (t:=22) (l:=ZnE.1) (ag:=ZnE.2) (by kernel_rfl) (hval 1 22 v1 rfl rfl) h1
 have lt2:∀x∈p2,x.block<W.heap.size:=by obtain⟨m,hm⟩:=h2;exact DataW.trod_lt m _ _ _ hm
 obtain⟨x2,ok2,den2⟩:=ZsH (P:=Tryz.prog) (n:=8) (t:=3) (l:=ZyV.1) (ag:=ZyV.2) (by kernel_rfl) (hval 2 3 v2 rfl rfl) h2
 have lt3:∀x∈p3,x.block<W.heap.size:=by obtain⟨m,hm⟩:=h3;exact DataW.trod_lt m _ _ _ hm
 obtain⟨x3,ok3,den3⟩:=ZsH (P:=Tryz.prog) (n:=8) (t:=22) (l:=ZnE.1) (ag:=ZnE.2) (by kernel_rfl) (hval 3 22 v3 rfl rfl) h3
 obtain⟨H1,ev⟩:=Zt7 x0 ok0 x1 ok1 x2 ok2 x3 ok3
 have den:Zbz All All All W [ZnX Zua.2 x0,ZnX ZnE.2 x1,ZnX ZyV.2 x2,ZnX ZnE.2 x3] [v0,v1,v2,v3]:=⟨_,_,rfl,den0,⟨_,_,rfl,den1,⟨_,_,rfl,den2,⟨_,_,rfl,den3,rfl⟩⟩⟩⟩
 refine(Zxk ZEo (Zyh hL) den ev).mono fun e W' ⟨he,bel⟩=>?_
 subst he
 exact⟨_,rfl,_,_,_,[],_,[],hW',trodAll_mk1 (shut_bool Tryz.underlying4 _),(trodAll_cons_mk (Below.trod Zp8 (by kernel_rfl) (of_decide_eq_true (by kernel_rfl)) h0 bel lt0) (trodAll_cons_mk (Below.trod Zp8 (by kernel_rfl) (of_decide_eq_true (by kernel_rfl)) h1 bel lt1) (trodAll_cons_mk (Below.trod Zp8 (by kernel_rfl) (of_decide_eq_true (by kernel_rfl)) h2 bel lt2) (trodAll_cons_mk (Below.trod Zp8 (by kernel_rfl) (of_decide_eq_true (by kernel_rfl)) h3 bel lt3) trodAll_mk0)))),rfl,bel.frame _,fun h=>by cases h⟩
theorem over:Rows.stealOneRow.holds Tryz.pinned (OpenSpec.ofChange Rows.stealOneSpec):=
 OpenClaim.holds_of_wide 6 Tryz.f6 rfl rfl rfl rfl rfl rfl rfl ⟨rfl,rfl,rfl,rfl,rfl⟩ rfl rfl rfl rfl rfl (by kernel_rfl) Tryz.func6 (by kernel_rfl)
  (of_decide_eq_true (by kernel_rfl)) (by unfold Func.isWrapper;first | (rw[if_pos (by decide +kernel)];kernel_rfl) | (rw[if_neg (by decide +kernel)];exact⟨rfl,rfl⟩))
  (fun os started H enc _=>ZCn os started H enc)
theorem proved:Rows.StealOneSaid:=over
theorem carded:Rows.StealOneCardSaid:=
 Claim7.holds_tied_plain_at .later [] [.data, .data] true (true, "d6d7d9d5c807326625a91c6e0083beb2768bae7db06b561411ca8dd5dfe6ff89") false
  proved (fun _ h=>by cases h) (by kernel_rfl) (fun _ h=>by cases h) stealOne_row_tie rfl ⟨rfl,rfl⟩ (by kernel_rfl) rfl
  (fun f fn hf hfn=>by
   obtain rfl : f = 6 := Option.some.inj ((show Tryz.prog.funcNamed "trefoil/trefoillaw13.StealOne" = some 6 by kernel_rfl).symm.trans hf) |>.symm
   obtain rfl:fn=Tryz.f6:=(Option.some.inj (Tryz.func6.symm.trans hfn)).symm
   exact⟨by kernel_rfl,fun j t ht=>by
    rw[Tryz.params6] at ht
    have hm:t∈[25,22,3,22]:=by simpa using Array.mem_of_getElem? ht
    have hall:([25,22,3,22].all fun u=>!Tryz.prog.wantsStandIn u)=true:=by kernel_rfl
    exact(show Tryz.prog.wantsStandIn t=false by simpa using List.all_eq_true.1 hall t hm)⟩)
  (by kernel_rfl)
end Go.Proofs.YtgcfmiajkbbmeaaGreatDoor.LawStealOne
namespace Go.Proofs.YtgcfmiajkbbmeaaGreatDoor
theorem stealOne_holds:Rows.StealOneCardSaid:=LawStealOne.carded
#print axioms stealOne_holds
end Go.Proofs.YtgcfmiajkbbmeaaGreatDoor
