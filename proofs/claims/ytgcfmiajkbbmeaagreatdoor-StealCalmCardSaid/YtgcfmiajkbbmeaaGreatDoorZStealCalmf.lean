/- StealCalm: part 6 of 6 of the proof: the row and the card of the law, out of what the evaluator says of it; without conditions. -/
import Derived.Test.YtgcfmiajkbbmeaaGreatDoorZStealCalme
import Derived.KernelRfl
import Derived.Test.YtgcfmiajkbbmeaaGreatDoorRows
import Derived.Test.YtgcfmiajkbbmeaaGreatDoorCards
import Derived.Test.YtgcfmiajkbbmeaaGreatDoorTie
import Derived.WalkKit
import Derived.ProofKit
import Derived.OpenShut
import Derived.ShutString
import Derived.ChangeOld
import Derived.Below
import Derived.SizedLaws
import Derived.Handed
import Derived.LaidMore
import Derived.Stop.Joined
import Derived.ChangeShapes
import Derived.Carry
import Derived.SevenTiedAt
set_option maxRecDepth 100000
set_option maxHeartbeats 40000000
set_option linter.unusedVariables false
set_option linter.unusedSimpArgs false
namespace Go.Proofs.YtgcfmiajkbbmeaaGreatDoor
open Go Go.Proofs.YtgcfmiajkbbmeaaGreatDoorE
open Go.IntKind (u64 i64 u32 i32 u8)
theorem Zdy:∀r,ZdJ=some r→evD ctx 9 []=some (D.bool r):=fun r h=>by
  cases h
  exact ZCR 100 (by kernel_rfl)
def ZnF (r:Bool):D:=(D.bool r)
theorem Zqz {t0 t1:Bool}{a:ZD}:∀r,(Ziu a)=some r→evD ctx 10 [(.d (D.agg [(zL t0 a.work),(D.list t1 (List.map ZW a.edges))]))]=some (ZnF r):=by
 show ZE _ (fun r rhs=>rhs=some (ZnF r)) _
 unfold Ziu
 rw[ZaH ctx 10 ZBX _ rfl rfl]
 conv=>rhs;whnf
 refine Zk (Zz _ _) ?_;conv=>rhs;whnf
 refine Zc rfl ?_ ?_<;>conv=>rhs;whnf
 ·refine Zk (Zz _ _) ?_;conv=>rhs;whnf
  refine Zc rfl ?_ ?_<;>conv=>rhs;whnf
  ·exact Zb rfl
  ·exact Zb rfl
 ·exact Zb rfl
def ZkK (r:Bool):D:=(D.bool r)
def Zja (t0:Bool) (a:List Int):(Unit⊕(Unit⊕Unit))→Ex×List V×Zm
  | (.inl r)=>(.ret,[(.d (D.bool true))],[])
  | (.inr (.inl r))=>(.ret,[(.d (D.bool false))],[])
  | (.inr (.inr r))=>(.exit 0,[.bad],[])
theorem Zml {t0:Bool}{a:List Int}:∀(s0:Int×Int) (r:(Unit⊕(Unit⊕Unit))),lp (Zdj a) s0=some r→lpW ctx 0 [0,3,4] [2] ZzZ [(.d (zL t0 a)),(.d (Ze s0.1)),(.d (Ze s0.2))] []=some ((Zja t0 a) r):=by
 refine Zbm (Zja t0 a) ?_
 intro s0 rcl ih
 show ZE _ _ (lpW _ _ _ _ _ _ _)
 unfold Zdj
 rw[Zbn]
 conv=>rhs;whnf
 refine Zk (Zz _ _) ?_;conv=>rhs;whnf
 refine Zc rfl ?_ ?_<;>conv=>rhs;whnf
 ·refine Zn rfl rfl fun x1 hx1=>?_;conv=>rhs;whnf
  refine Zc rfl ?_ ?_<;>conv=>rhs;whnf
  ·refine Zh (Za8 rfl hx1) ?_;conv=>rhs;whnf
   refine Zc rfl ?_ ?_<;>conv=>rhs;whnf
   ·exact Zb rfl
   ·exact Zb rfl
  ·refine Zh (Za8 rfl hx1) ?_;conv=>rhs;whnf
   refine Zc rfl ?_ ?_<;>conv=>rhs;whnf
   ·refine Zh (Za8 rfl hx1) ?_;conv=>rhs;whnf
    refine Zc rfl ?_ ?_<;>conv=>rhs;whnf
    ·exact Zb rfl
    ·exact Zb rfl
   ·refine Zh (Za8 rfl hx1) ?_;conv=>rhs;whnf
    exact Zf (ih _)
 ·exact Zb rfl
theorem ZoQ {t0:Bool}{a:List Int}:∀r,(ZgP a)=some r→evD ctx 11 [(.d (zL t0 a))]=some (ZkK r):=by
 show ZE _ (fun r rhs=>rhs=some (ZkK r)) _
 unfold ZgP
 rw[ZaH ctx 11 ZC1 _ rfl rfl]
 conv=>rhs;whnf
 refine Zd _ (Zml _) fun r2 hr2=>?_
 clear hr2
 rcases r2 with r2 | (r2 | r2)
 ·conv=>rhs;whnf
  exact Zb rfl
 ·conv=>rhs;whnf
  exact Zb rfl
 ·conv=>rhs;whnf
  exact Zb rfl
def ZnB (t0:Bool) (t1:Bool) (a:ZD):Unit→V×Zm
  | r=>((.agg [(.sl 0 1),(.sl 1 2)]),[(.arr 1 (List.map Ze a.work)),(.arr 2 (List.map ZW a.edges))])
theorem Zco {t0 t1:Bool}{a:ZD}:∀r,(Zcj a)=some r→evW ctx 13 [(.d (D.agg [(zL t0 a.work),(D.list t1 (List.map ZW a.edges))]))] []=some ((ZnB t0 t1 a) r):=by
 show ZE _ (fun r rhs=>rhs=some ((ZnB t0 t1 a) r)) _
 unfold Zcj
 rw[ZcU ctx 13 ZCQ _ _ rfl rfl]
 conv=>rhs;whnf
 refine ZbW (ZgS (f:=Ze) (fun _=>⟨rfl,rfl⟩) a.work 0) ?_;conv=>rhs;whnf
 refine Zc (ZgR Ze a.work) ?_ ?_
 ·conv=>rhs;whnf
  refine Zk (rfl:_=List.map Ze a.work) ?_;conv=>rhs;whnf
  refine ZbW (ZgS (f:=ZW) (fun _=>⟨rfl,rfl⟩) a.edges 0) ?_;conv=>rhs;whnf
  refine Zc (ZgR ZW a.edges) ?_ ?_
  ·conv=>rhs;whnf
   refine Zk (rfl:_=List.map ZW a.edges) ?_;conv=>rhs;whnf
   exact Zb rfl
  ·exact ZO
 ·exact ZO
def Zmd (t0:Bool) (a:List Int):Unit→V×Zm
  | r=>((.sl 0 1),[(.arr 1 (List.map Ze a))])
theorem Zd3 {t0:Bool}{a:List Int}:∀r,(Zdk a)=some r→evW ctx 14 [(.d (zL t0 a))] []=some ((Zmd t0 a) r):=by
 show ZE _ (fun r rhs=>rhs=some ((Zmd t0 a) r)) _
 unfold Zdk
 rw[ZcU ctx 14 ZDb _ _ rfl rfl]
 conv=>rhs;whnf
 refine ZbW (ZgS (f:=Ze) (fun _=>⟨rfl,rfl⟩) a 0) ?_;conv=>rhs;whnf
 refine Zc (ZgR Ze a) ?_ ?_
 ·conv=>rhs;whnf
  refine Zk (rfl:_=List.map Ze a) ?_;conv=>rhs;whnf
  exact Zb rfl
 ·exact ZO
def ZlQ (r:Bool):D:=(D.bool r)
theorem Zpf {a:Int}:∀r,(ZdI a)=some r→evD ctx 142 [(.d (Ze a))]=some (ZlQ r):=by
 show ZE _ (fun r rhs=>rhs=some (ZlQ r)) _
 unfold ZdI
 rw[ZaH ctx 142 Zzk _ rfl rfl]
 conv=>rhs;whnf
 refine Zc rfl ?_ ?_<;>conv=>rhs;whnf
 ·exact Zb rfl
 ·refine Zc rfl ?_ ?_<;>conv=>rhs;whnf
  ·exact Zb rfl
  ·exact Zb rfl
def Zdc (r:Int):D:=(Ze r)
def ZcL (t0:Bool) (a:List Int):(Int⊕Unit)→Ex×List V×Zm
  | (.inl r)=>(.ret,[(.d (Ze r))],[])
  | (.inr r)=>(.exit 0,[.bad],[])
theorem Zff {t0:Bool}{a:List Int}:∀(s0:Int) (r:(Int⊕Unit)),lp (ZC a (fun z0=>ZdI z0)) s0=some r→lpW ctx 0 [0,1,7,8] [4] ZqO [(.d (zL t0 a)),(.d (D.fn 142 [])),(.d (Ze (a.length:Int))),(.d (Ze s0))] []=some ((ZcL t0 a) r):=by
 refine Zbm (ZcL t0 a) ?_
 intro s0 rcl ih
 show ZE _ _ (lpW _ _ _ _ _ _ _)
 unfold ZC
 rw[Zbn]
 conv=>rhs;whnf
 refine Zc rfl ?_ ?_<;>conv=>rhs;whnf
 ·refine Zn rfl rfl fun x1 hx1=>?_;conv=>rhs;whnf
  refine Zi _ Zpf rfl fun x2 hx2=>?_;conv=>rhs;whnf
  refine Zc rfl ?_ ?_<;>conv=>rhs;whnf
  ·exact Zb rfl
  ·exact Zf (ih _)
 ·exact Zb rfl
theorem ZfS {t0:Bool}{a:List Int}:∀r,(ZM a (fun z0=>ZdI z0))=some r→evD ctx 94 [(.d (zL t0 a)),(.d (D.fn 142 []))]=some (Zdc r):=by
 show ZE _ (fun r rhs=>rhs=some (Zdc r)) _
 unfold ZM
 rw[ZaH ctx 94 Zxj _ rfl rfl]
 conv=>rhs;whnf
 refine Zk (Zz _ _) ?_;conv=>rhs;whnf
 refine Zd _ (Zff _) fun r3 hr3=>?_
 clear hr3
 rcases r3 with r3 | r3
 ·conv=>rhs;whnf
  exact Zb rfl
 ·conv=>rhs;whnf
  exact Zb rfl
def ZcM (r:Bool):D:=(D.bool r)
theorem Zfi {t0:Bool}{a:List Int}:∀r,(ZS a (fun z0=>ZdI z0))=some r→evD ctx 44 [(.d (zL t0 a)),(.d (D.fn 142 []))]=some (ZcM r):=by
 show ZE _ (fun r rhs=>rhs=some (ZcM r)) _
 unfold ZS
 rw[ZaH ctx 44 ZzE _ rfl rfl]
 conv=>rhs;whnf
 refine Zi _ ZfS rfl fun x0 hx0=>?_;conv=>rhs;whnf
 refine Zc rfl ?_ ?_<;>conv=>rhs;whnf
 ·exact Zb rfl
 ·exact Zb rfl
def ZlU (r:Bool):D:=(D.bool r)
theorem ZkI {t0 t1:Bool}{a:Int}{b0:List Int}{b1:List ZX}:∀r,(Zgc a b0)=some r→evD ctx 143 [(.d (Ze a)),(.d (D.rptr [(zL t0 b0),(D.list t1 (List.map ZW b1))]))]=some (ZlU r):=by
 show ZE _ (fun r rhs=>rhs=some (ZlU r)) _
 unfold Zgc
 rw[ZaH ctx 143 ZzF _ rfl rfl]
 conv=>rhs;whnf
 refine Zc rfl ?_ ?_<;>conv=>rhs;whnf
 ·refine Zk (Zz _ _) ?_;conv=>rhs;whnf
  refine Zc rfl ?_ ?_<;>conv=>rhs;whnf
  ·exact Zb rfl
  ·exact Zb rfl
 ·exact Zb rfl
def Zf9 (r:Int):D:=(Ze r)
def ZfA (t0:Bool) (a:List ZX) (b:ZX):(Int⊕Unit)→Ex×List V×Zm
  | (.inl r)=>(.ret,[(.d (Ze r))],[])
  | (.inr r)=>(.exit 0,[.bad],[])
theorem ZhS {t0:Bool}{a:List ZX}{b:ZX}:∀(s0:Int) (r:(Int⊕Unit)),lp (ZbT a b) s0=some r→lpW ctx 0 [0,3,7,8] [4] ZvB [(.d (D.list t0 (List.map ZW a))),(.ptr 0 0),(.d (Ze (a.length:Int))),(.d (Ze s0))] [(.cells [(.d (Ze b.src)),(.d (Ze b.dst))])]=some ((ZfA t0 a b) r):=by
 refine Zbm (ZfA t0 a b) ?_
 intro s0 rcl ih
 show ZE _ _ (lpW _ _ _ _ _ _ _)
 unfold ZbT
 rw[Zbn]
 conv=>rhs;whnf
 refine Zc rfl ?_ ?_<;>conv=>rhs;whnf
 ·refine Zn rfl rfl fun x1 hx1=>?_;conv=>rhs;whnf
  refine Zc rfl ?_ ?_<;>conv=>rhs;whnf
  ·exact Zb rfl
  ·exact Zf (ih _)
 ·exact Zb rfl
theorem ZiL {t0:Bool}{a:List ZX}{b:ZX}:∀r,(Zde a b)=some r→evD ctx 174 [(.d (D.list t0 (List.map ZW a))),(.d (D.agg [(Ze b.src),(Ze b.dst)]))]=some (Zf9 r):=by
 show ZE _ (fun r rhs=>rhs=some (Zf9 r)) _
 unfold Zde
 rw[ZaH ctx 174 ZzJ _ rfl rfl]
 conv=>rhs;whnf
 refine Zk (Zz _ _) ?_;conv=>rhs;whnf
 refine Zd _ (ZhS _) fun r2 hr2=>?_
 clear hr2
 rcases r2 with r2 | r2
 ·conv=>rhs;whnf
  exact Zb rfl
 ·conv=>rhs;whnf
  exact Zb rfl
def ZfC (r:Bool):D:=(D.bool r)
theorem ZhT {t0:Bool}{a:List ZX}{b:ZX}:∀r,(ZbZ a b)=some r→evD ctx 136 [(.d (D.list t0 (List.map ZW a))),(.d (D.agg [(Ze b.src),(Ze b.dst)]))]=some (ZfC r):=by
 show ZE _ (fun r rhs=>rhs=some (ZfC r)) _
 unfold ZbZ
 rw[ZaH ctx 136 Zzi _ rfl rfl]
 conv=>rhs;whnf
 refine Zi _ ZiL rfl fun x0 hx0=>?_;conv=>rhs;whnf
 refine Zc rfl ?_ ?_<;>conv=>rhs;whnf
 ·exact Zb rfl
 ·exact Zb rfl
def Znn (r:((List Int)×Bool)):D:=(D.tup [(zL true r.1),(D.bool r.2)])
def Zk8 (t0:Bool) (t1:Bool) (a:ZD) (s0:(List Int)×(List Bool)) (s1:Int):(Unit⊕Unit)→Ex×List V×Zm
  | (.inl r)=>(.exit 3,[(.ptr 0 0),(.sl 1 1),(.sl 2 1),(.d (Ze s1)),(.d (Ze (a.work.length:Int))),(.d (Ze s1))],[(.cells [(.d (zL t0 a.work)),(.d (D.list t1 (List.map ZW a.edges)))]),(.arr 1 (List.map Ze s0.1)),(.arr 1 (List.map D.bool s0.2))])
  | (.inr r)=>(.exit 4,[(.ptr 0 0),(.sl 1 1),(.sl 2 1),(.d (Ze s1)),(.d (Ze (a.work.length:Int))),(.d (Ze s1))],[(.cells [(.d (zL t0 a.work)),(.d (D.list t1 (List.map ZW a.edges)))]),(.arr 1 (List.map Ze s0.1)),(.arr 1 (List.map D.bool s0.2))])
theorem ZoD {t0 t1:Bool}{a:ZD}{s0:(List Int)×(List Bool)}{s1:Int}:∀(s3:Int) (r:(Unit⊕Unit)),lp (ZfR a s0 s1) s3=some r→lpW ctx 0 [1,4,5,6,21,22,30,31,32] [1,4,5,6,21,22] ZvY [(.ptr 0 0),(.sl 1 1),(.sl 2 1),(.d (Ze s1)),(.d (Ze (a.work.length:Int))),(.d (Ze s1)),(.d (D.list t1 (List.map ZW a.edges))),(.d (Ze (a.edges.length:Int))),(.d (Ze s3))] [(.cells [(.d (zL t0 a.work)),(.d (D.list t1 (List.map ZW a.edges)))]),(.arr 1 (List.map Ze s0.1)),(.arr 1 (List.map D.bool s0.2))]=some ((Zk8 t0 t1 a s0 s1) r):=by
 refine Zbm (Zk8 t0 t1 a s0 s1) ?_
 intro s3 rcl ih
 show ZE _ _ (lpW _ _ _ _ _ _ _)
 unfold ZfR
 rw[Zbn]
 conv=>rhs;whnf
 refine Zc rfl ?_ ?_<;>conv=>rhs;whnf
 ·refine Zn rfl rfl fun x4 hx4=>?_;conv=>rhs;whnf
  refine Zc rfl ?_ ?_<;>conv=>rhs;whnf
  ·refine Zn rfl rfl fun x5 hx5=>?_;conv=>rhs;whnf
   refine Zh (Zs rfl hx5) ?_;conv=>rhs;whnf
   refine Zc rfl ?_ ?_<;>conv=>rhs;whnf
   ·exact Zf (ih _)
   ·exact Zb rfl
  ·exact Zf (ih _)
 ·exact Zb rfl
def Zk2 (t0:Bool) (t1:Bool) (a:ZD) (s0:(List Int)×(List Bool)):(((List Int)×(List Bool))⊕Unit)→Ex×List V×Zm
  | (.inl r)=>(.exit 1,[(.ptr 0 0),(.sl 1 1),(.sl 2 1)],[(.cells [(.d (zL t0 a.work)),(.d (D.list t1 (List.map ZW a.edges)))]),(.arr 1 (List.map Ze r.1)),(.arr 1 (List.map D.bool r.2))])
  | (.inr r)=>(.exit 2,[(.ptr 0 0),(.sl 1 1),(.sl 2 1)],[(.cells [(.d (zL t0 a.work)),(.d (D.list t1 (List.map ZW a.edges)))]),(.arr 1 (List.map Ze s0.1)),(.arr 1 (List.map D.bool s0.2))])
theorem ZoI {t0 t1:Bool}{a:ZD}{s0:(List Int)×(List Bool)}:∀(s1:Int) (r:(((List Int)×(List Bool))⊕Unit)),lp (Zew a s0) s1=some r→lpW ctx 0 [1,4,5,21,22] [1,4,5] Zwz [(.ptr 0 0),(.sl 1 1),(.sl 2 1),(.d (Ze (a.work.length:Int))),(.d (Ze s1))] [(.cells [(.d (zL t0 a.work)),(.d (D.list t1 (List.map ZW a.edges)))]),(.arr 1 (List.map Ze s0.1)),(.arr 1 (List.map D.bool s0.2))]=some ((Zk2 t0 t1 a s0) r):=by
 refine Zbm (Zk2 t0 t1 a s0) ?_
 intro s1 rcl ih
 show ZE _ _ (lpW _ _ _ _ _ _ _)
 unfold Zew
 rw[Zbn]
 conv=>rhs;whnf
 refine Zc rfl ?_ ?_<;>conv=>rhs;whnf
 ·refine Zn rfl rfl fun x2 hx2=>?_;conv=>rhs;whnf
  refine Zh (Zs rfl hx2) ?_;conv=>rhs;whnf
  refine Zc rfl ?_ ?_<;>conv=>rhs;whnf
  ·exact Zf (ih _)
  ·refine Zk (Zz _ _) ?_;conv=>rhs;whnf
   refine Zd _ (ZoD _) fun r6 hr6=>?_
   clear hr6
   rcases r6 with r6 | r6
   ·conv=>rhs;whnf
    exact Zf (ih _)
   ·conv=>rhs;whnf
    refine Zh (Za8 rfl hx2) ?_;conv=>rhs;whnf
    refine Zh (Zs rfl hx2) ?_;conv=>rhs;whnf
    refine Zk (Zan D.bool s0.2 s1.toNat true) ?_;conv=>rhs;whnf
    refine ZbW rfl ?_;conv=>rhs;whnf
    refine Zc (Zhm Ze s0.1 1) ?_ ?_
    ·conv=>rhs;whnf
     refine Zk (Zhl Ze s0.1 [s1]) ?_;conv=>rhs;whnf
     exact Zb rfl
    ·exact ZO
 ·exact Zb rfl
def ZkE (t0:Bool) (t1:Bool) (a:ZD):((List Int)⊕(List Int))→Ex×List V×Zm
  | (.inl r)=>(.ret,[(.nilsl 1),(.d (D.bool false)),(.sl 0 1)],[(.arr 1 (List.map Ze r))])
  | (.inr r)=>(.exit 0,[.bad,.bad,(.sl 0 1)],[(.arr 1 (List.map Ze r))])
theorem ZoZ {t0 t1:Bool}{a:ZD}:∀(s0:(List Int)×(List Bool)) (r:((List Int)⊕(List Int))),lp (ZfU a) s0=some r→lpW ctx 0 [1,4,5] [2,3,4] Zv2 [(.ptr 0 0),(.sl 1 1),(.sl 2 1)] [(.cells [(.d (zL t0 a.work)),(.d (D.list t1 (List.map ZW a.edges)))]),(.arr 1 (List.map Ze s0.1)),(.arr 1 (List.map D.bool s0.2))]=some ((ZkE t0 t1 a) r):=by
 refine Zbm (ZkE t0 t1 a) ?_
 intro s0 rcl ih
 show ZE _ _ (lpW _ _ _ _ _ _ _)
 unfold ZfU
 rw[Zbn]
 conv=>rhs;whnf
 refine Zk (Zz _ _) ?_;conv=>rhs;whnf
 refine Zk (Zz _ _) ?_;conv=>rhs;whnf
 refine Zc rfl ?_ ?_<;>conv=>rhs;whnf
 ·refine Zk (Zz _ _) ?_;conv=>rhs;whnf
  refine Zd _ (ZoI _) fun r7 hr7=>?_
  clear hr7
  rcases r7 with r7 | r7
  ·conv=>rhs;whnf
   exact Zf (ih _)
  ·conv=>rhs;whnf
   exact Zb rfl
 ·exact Zb rfl
theorem ZqW {t0 t1:Bool}{a:ZD}:∀r,(ZgA a)=some r→evD ctx 144 [(.d (D.agg [(zL t0 a.work),(D.list t1 (List.map ZW a.edges))]))]=some (Znn r):=by
 show ZE _ (fun r rhs=>rhs=some (Znn r)) _
 unfold ZgA
 rw[ZaH ctx 144 Zyd _ rfl rfl]
 conv=>rhs;whnf
 refine Zk (Zz _ _) ?_;conv=>rhs;whnf
 refine Zc rfl ?_ ?_
 ·conv=>rhs;whnf
  refine Zk (Zlm D.bool (false:Bool) (a.work.length:Int)) ?_;conv=>rhs;whnf
  refine Zd _ (ZoZ _) fun r8 hr8=>?_
  clear hr8
  rcases r8 with r8 | r8
  ·conv=>rhs;whnf
   exact Zb rfl
  ·conv=>rhs;whnf
   exact Zb rfl
 ·exact ZO
def Znw (r:Int):D:=(Ze r)
def ZkJ (t0:Bool) (t1:Bool) (a:ZD):(Unit⊕Unit)→Ex×List V×Zm
  | (.inl r)=>(.ret,[(.ptr 0 0),(.d (Ze 42))],[(.cells [(.d (zL t0 a.work)),(.d (D.list t1 (List.map ZW a.edges)))])])
  | (.inr r)=>(.exit 0,[(.ptr 0 0),.bad],[(.cells [(.d (zL t0 a.work)),(.d (D.list t1 (List.map ZW a.edges)))])])
theorem Zo0 {t0 t1:Bool}{a:ZD}:∀(s1:Int) (r:(Unit⊕Unit)),lp (ZeO a) s1=some r→lpW ctx 0 [1,3,23,24,25] [1,2] ZyR [(.ptr 0 0),(.fn 143 [(.ptr 0 0)]),(.d (D.list t1 (List.map ZW a.edges))),(.d (Ze (a.edges.length:Int))),(.d (Ze s1))] [(.cells [(.d (zL t0 a.work)),(.d (D.list t1 (List.map ZW a.edges)))])]=some ((ZkJ t0 t1 a) r):=by
 refine Zbm (ZkJ t0 t1 a) ?_
 intro s1 rcl ih
 show ZE _ _ (lpW _ _ _ _ _ _ _)
 unfold ZeO
 rw[Zbn]
 conv=>rhs;whnf
 refine Zc rfl ?_ ?_<;>conv=>rhs;whnf
 ·refine Zn rfl rfl fun x2 hx2=>?_;conv=>rhs;whnf
  refine Zi _ ZkI rfl fun x3 hx3=>?_;conv=>rhs;whnf
  refine Zc rfl ?_ ?_<;>conv=>rhs;whnf
  ·refine Zi _ ZkI rfl fun x4 hx4=>?_;conv=>rhs;whnf
   refine Zc rfl ?_ ?_<;>conv=>rhs;whnf
   ·refine Zc rfl ?_ ?_<;>conv=>rhs;whnf
    ·exact Zb rfl
    ·refine Zc rfl ?_ ?_
     ·conv=>rhs;whnf
      refine Zc (ZyV ZW a.edges s1.toNat) ?_ ?_
      ·conv=>rhs;whnf
       refine ZbW rfl ?_;conv=>rhs;whnf
       refine Zk (Zte ZW a.edges s1.toNat) ?_;conv=>rhs;whnf
       refine Zi _ ZhT rfl fun x5 hx5=>?_;conv=>rhs;whnf
       refine Zc rfl ?_ ?_<;>conv=>rhs;whnf
       ·exact Zb rfl
       ·exact Zf (ih _)
      ·exact ZO
     ·exact ZO
   ·exact Zb rfl
  ·exact Zb rfl
 ·exact Zb rfl
theorem ZjN {t0 t1:Bool}{a:ZD}:∀r,(ZgK a)=some r→evD ctx 85 [(.d (D.agg [(zL t0 a.work),(D.list t1 (List.map ZW a.edges))]))]=some (Znw r):=by
 show ZE _ (fun r rhs=>rhs=some (Znw r)) _
 unfold ZgK
 rw[ZaH ctx 85 ZBZ _ rfl rfl]
 conv=>rhs;whnf
 refine Zk (Zz _ _) ?_;conv=>rhs;whnf
 refine Zc rfl ?_ ?_<;>conv=>rhs;whnf
 ·exact Zb rfl
 ·refine Zk (Zz _ _) ?_;conv=>rhs;whnf
  refine Zc rfl ?_ ?_<;>conv=>rhs;whnf
  ·exact Zb rfl
  ·refine Zi _ Zfi rfl fun x0 hx0=>?_;conv=>rhs;whnf
   refine Zc rfl ?_ ?_<;>conv=>rhs;whnf
   ·exact Zb rfl
   ·refine Zk (Zz _ _) ?_;conv=>rhs;whnf
    refine Zd _ (Zo0 _) fun r6 hr6=>?_
    clear hr6
    rcases r6 with r6 | r6
    ·conv=>rhs;whnf
     exact Zb rfl
    ·conv=>rhs;whnf
     refine Zi _ ZqW rfl fun x7 hx7=>?_;conv=>rhs;whnf
     refine Zc rfl ?_ ?_<;>conv=>rhs;whnf
     ·exact Zb rfl
     ·exact Zb rfl
def Zke (r:Bool):D:=(D.bool r)
theorem Zoa {a:Int}:∀r,(Zdp a)=some r→evD ctx 127 [(.d (Ze a))]=some (Zke r):=by
 show ZE _ (fun r rhs=>rhs=some (Zke r)) _
 unfold Zdp
 rw[ZaH ctx 127 Zzq _ rfl rfl]
 conv=>rhs;whnf
 refine Zc rfl ?_ ?_<;>conv=>rhs;whnf
 ·exact Zb rfl
 ·refine Zc rfl ?_ ?_<;>conv=>rhs;whnf
  ·exact Zb rfl
  ·exact Zb rfl
def ZcX (r:Int):D:=(Ze r)
def ZcB (t0:Bool) (a:List Int):(Int⊕Unit)→Ex×List V×Zm
  | (.inl r)=>(.ret,[(.d (Ze r))],[])
  | (.inr r)=>(.exit 0,[.bad],[])
theorem ZeS {t0:Bool}{a:List Int}:∀(s0:Int) (r:(Int⊕Unit)),lp (ZC a (fun z0=>Zdp z0)) s0=some r→lpW ctx 0 [0,1,7,8] [4] ZqO [(.d (zL t0 a)),(.d (D.fn 127 [])),(.d (Ze (a.length:Int))),(.d (Ze s0))] []=some ((ZcB t0 a) r):=by
 refine Zbm (ZcB t0 a) ?_
 intro s0 rcl ih
 show ZE _ _ (lpW _ _ _ _ _ _ _)
 unfold ZC
 rw[Zbn]
 conv=>rhs;whnf
 refine Zc rfl ?_ ?_<;>conv=>rhs;whnf
 ·refine Zn rfl rfl fun x1 hx1=>?_;conv=>rhs;whnf
  refine Zi _ Zoa rfl fun x2 hx2=>?_;conv=>rhs;whnf
  refine Zc rfl ?_ ?_<;>conv=>rhs;whnf
  ·exact Zb rfl
  ·exact Zf (ih _)
 ·exact Zb rfl
theorem Zfx {t0:Bool}{a:List Int}:∀r,(ZM a (fun z0=>Zdp z0))=some r→evD ctx 94 [(.d (zL t0 a)),(.d (D.fn 127 []))]=some (ZcX r):=by
 show ZE _ (fun r rhs=>rhs=some (ZcX r)) _
 unfold ZM
 rw[ZaH ctx 94 Zxj _ rfl rfl]
 conv=>rhs;whnf
 refine Zk (Zz _ _) ?_;conv=>rhs;whnf
 refine Zd _ (ZeS _) fun r3 hr3=>?_
 clear hr3
 rcases r3 with r3 | r3
 ·conv=>rhs;whnf
  exact Zb rfl
 ·conv=>rhs;whnf
  exact Zb rfl
def Zcy (r:Bool):D:=(D.bool r)
theorem ZeT {t0:Bool}{a:List Int}:∀r,(ZS a (fun z0=>Zdp z0))=some r→evD ctx 44 [(.d (zL t0 a)),(.d (D.fn 127 []))]=some (Zcy r):=by
 show ZE _ (fun r rhs=>rhs=some (Zcy r)) _
 unfold ZS
 rw[ZaH ctx 44 ZzE _ rfl rfl]
 conv=>rhs;whnf
 refine Zi _ Zfx rfl fun x0 hx0=>?_;conv=>rhs;whnf
 refine Zc rfl ?_ ?_<;>conv=>rhs;whnf
 ·exact Zb rfl
 ·exact Zb rfl
def ZlJ (r:(Bool×Int)):D:=(D.tup [(D.bool r.1),(Ze r.2)])
theorem Zpl {t0 t1 t2:Bool}{a:ZD}{b:List Int}{c:Int}:∀r,(Zhe a b c)=some r→evD ctx 73 [(.d (D.agg [(zL t0 a.work),(D.list t1 (List.map ZW a.edges))])),(.d (zL t2 b)),(.d (Ze c))]=some (ZlJ r):=by
 show ZE _ (fun r rhs=>rhs=some (ZlJ r)) _
 unfold Zhe
 rw[ZaH ctx 73 ZB7 _ rfl rfl]
 conv=>rhs;whnf
 refine Zi _ ZjN rfl fun x0 hx0=>?_;conv=>rhs;whnf
 refine Zc rfl ?_ ?_<;>conv=>rhs;whnf
 ·exact Zb rfl
 ·refine Zk (Zz _ _) ?_;conv=>rhs;whnf
  refine Zk (Zz _ _) ?_;conv=>rhs;whnf
  refine Zc rfl ?_ ?_<;>conv=>rhs;whnf
  ·refine Zi _ ZeT rfl fun x1 hx1=>?_;conv=>rhs;whnf
   refine Zc rfl ?_ ?_<;>conv=>rhs;whnf
   ·exact Zb rfl
   ·refine Zc rfl ?_ ?_<;>conv=>rhs;whnf
    ·refine Zc rfl ?_ ?_<;>conv=>rhs;whnf
     ·exact Zb rfl
     ·exact Zb rfl
    ·exact Zb rfl
  ·exact Zb rfl
def Zky (r:Bool):D:=(D.bool r)
theorem ZoS {t0:Bool}{a:List Int}{b0:Int}:∀r,(ZeC a b0)=some r→evD ctx 118 [(.d (zL t0 a)),(.d (D.rptr [(Ze b0)]))]=some (Zky r):=by
 show ZE _ (fun r rhs=>rhs=some (Zky r)) _
 unfold ZeC
 rw[ZaH ctx 118 Zzo _ rfl rfl]
 conv=>rhs;whnf
 refine Zk (Zz _ _) ?_;conv=>rhs;whnf
 refine Zc rfl ?_ ?_<;>conv=>rhs;whnf
 ·exact Zb rfl
 ·exact Zb rfl
def ZcO (r:Int):D:=(Ze r)
def Zcu (t0:Bool) (a:(List (List Int))) (b0:Int):(Int⊕Unit)→Ex×List V×Zm
  | (.inl r)=>(.ret,[(.d (Ze r))],[])
  | (.inr r)=>(.exit 0,[.bad],[])
theorem ZeN {t0:Bool}{a:(List (List Int))}{b0:Int}:∀(s0:Int) (r:(Int⊕Unit)),lp (Zc9 a (fun z0=>ZeC z0 b0)) s0=some r→lpW ctx 0 [0,1,7,8] [4] Zv9 [(.d (D.list t0 (List.map (ZkM true) a))),(.d (D.fn 118 [(D.rptr [(Ze b0)])])),(.d (Ze (a.length:Int))),(.d (Ze s0))] []=some ((Zcu t0 a b0) r):=by
 refine Zbm (Zcu t0 a b0) ?_
 intro s0 rcl ih
 show ZE _ _ (lpW _ _ _ _ _ _ _)
 unfold Zc9
 rw[Zbn]
 conv=>rhs;whnf
 refine Zc rfl ?_ ?_<;>conv=>rhs;whnf
 ·refine Zn rfl rfl fun x1 hx1=>?_;conv=>rhs;whnf
  refine Zi _ ZoS rfl fun x2 hx2=>?_;conv=>rhs;whnf
  refine Zc rfl ?_ ?_<;>conv=>rhs;whnf
  ·exact Zb rfl
  ·exact Zf (ih _)
 ·exact Zb rfl
theorem Zfm {t0:Bool}{a:(List (List Int))}{b0:Int}:∀r,(Zcv a (fun z0=>ZeC z0 b0))=some r→evD ctx 170 [(.d (D.list t0 (List.map (ZkM true) a))),(.d (D.fn 118 [(D.rptr [(Ze b0)])]))]=some (ZcO r):=by
 show ZE _ (fun r rhs=>rhs=some (ZcO r)) _
 unfold Zcv
 rw[ZaH ctx 170 ZyD _ rfl rfl]
 conv=>rhs;whnf
 refine Zk (Zz _ _) ?_;conv=>rhs;whnf
 refine Zd _ (ZeN _) fun r3 hr3=>?_
 clear hr3
 rcases r3 with r3 | r3
 ·conv=>rhs;whnf
  exact Zb rfl
 ·conv=>rhs;whnf
  exact Zb rfl
def Zcs (r:Bool):D:=(D.bool r)
theorem Zez {t0:Bool}{a:(List (List Int))}{b0:Int}:∀r,(Zbt a (fun z0=>ZeC z0 b0))=some r→evD ctx 119 [(.d (D.list t0 (List.map (ZkM true) a))),(.d (D.fn 118 [(D.rptr [(Ze b0)])]))]=some (Zcs r):=by
 show ZE _ (fun r rhs=>rhs=some (Zcs r)) _
 unfold Zbt
 rw[ZaH ctx 119 Zzh _ rfl rfl]
 conv=>rhs;whnf
 refine Zi _ Zfm rfl fun x0 hx0=>?_;conv=>rhs;whnf
 refine Zc rfl ?_ ?_<;>conv=>rhs;whnf
 ·exact Zb rfl
 ·exact Zb rfl
def ZlG (t0:Bool) (a:List Int):(List Int)→V×Zm
  | r=>((.ptr 0 0),[(.cells [(.d (zL t0 a)),(.sl 1 1),(.sl 2 2),(.sl 3 1)]),(.arr 1 (List.map Ze (List.replicate (a.length:Int).toNat (0:Int)))),(.arr 2 (List.map Zgs (List.replicate (a.length:Int).toNat ((Zcf.mk 0 0):Zcf)))),(.arr 1 (List.map Ze r))])
def ZjV (t0:Bool) (a:List Int):(List Int)→Ex×List V×Zm
  | r=>(.exit 0,[(.ptr 0 0)],[(.cells [(.d (zL t0 a)),(.sl 1 1),(.sl 2 2),(.sl 3 1)]),(.arr 1 (List.map Ze (List.replicate (a.length:Int).toNat (0:Int)))),(.arr 2 (List.map Zgs (List.replicate (a.length:Int).toNat ((Zcf.mk 0 0):Zcf)))),(.arr 1 (List.map Ze r))])
theorem Znd {t0:Bool}{a:List Int}:∀(s0:Int×(List Int)) (r:List Int),lp (Zc2 a) s0=some r→lpW ctx 0 [3,18,19] [3] Zwd [(.ptr 0 0),(.d (Ze (a.length:Int))),(.d (Ze s0.1))] [(.cells [(.d (zL t0 a)),(.sl 1 1),(.sl 2 2),(.sl 3 1)]),(.arr 1 (List.map Ze (List.replicate (a.length:Int).toNat (0:Int)))),(.arr 2 (List.map Zgs (List.replicate (a.length:Int).toNat ((Zcf.mk 0 0):Zcf)))),(.arr 1 (List.map Ze s0.2))]=some ((ZjV t0 a) r):=by
 refine Zbm (ZjV t0 a) ?_
 intro s0 rcl ih
 show ZE _ _ (lpW _ _ _ _ _ _ _)
 unfold Zc2
 rw[Zbn]
 conv=>rhs;whnf
 refine Zc rfl ?_ ?_<;>conv=>rhs;whnf
 ·refine Zn rfl rfl fun x1 hx1=>?_;conv=>rhs;whnf
  refine Zh (Zs rfl hx1) ?_;conv=>rhs;whnf
  refine Zk (Zan Ze s0.2 s0.1.toNat (-1)) ?_;conv=>rhs;whnf
  exact Zf (ih _)
 ·exact Zb rfl
theorem Zps {t0:Bool}{a:List Int}:∀r,(Zg9 a)=some r→evW ctx 120 [(.d (zL t0 a))] []=some ((ZlG t0 a) r):=by
 show ZE _ (fun r rhs=>rhs=some ((ZlG t0 a) r)) _
 unfold Zg9
 rw[ZcU ctx 120 Zzc _ _ rfl rfl]
 conv=>rhs;whnf
 refine Zk (Zz _ _) ?_;conv=>rhs;whnf
 refine Zc rfl ?_ ?_
 ·conv=>rhs;whnf
  refine Zk (Zlm Ze (0:Int) (a.length:Int)) ?_;conv=>rhs;whnf
  refine Zk (Zz _ _) ?_;conv=>rhs;whnf
  refine Zc rfl ?_ ?_
  ·conv=>rhs;whnf
   refine Zk (Zlm Zgs ((Zcf.mk 0 0):Zcf) (a.length:Int)) ?_;conv=>rhs;whnf
   refine Zk (Zz _ _) ?_;conv=>rhs;whnf
   refine Zc rfl ?_ ?_
   ·conv=>rhs;whnf
    refine Zk (Zlm Ze (0:Int) (a.length:Int)) ?_;conv=>rhs;whnf
    refine Zk (Zz _ _) ?_;conv=>rhs;whnf
    refine Zd _ (Znd _) fun r2 hr2=>?_;conv=>rhs;whnf
    exact Zb rfl
   ·exact ZO
  ·exact ZO
 ·exact ZO
def ZgO (r:Int):D:=(Ze r)
def Zf1 (t0:Bool) (a:List Int) (b:Int):(Int⊕Unit)→Ex×List V×Zm
  | (.inl r)=>(.ret,[(.d (Ze r))],[])
  | (.inr r)=>(.exit 0,[.bad],[])
theorem Zih {t0:Bool}{a:List Int}{b:Int}:∀(s0:Int) (r:(Int⊕Unit)),lp (Zca a b) s0=some r→lpW ctx 0 [0,1,7,8] [4] Zvs [(.d (zL t0 a)),(.d (Ze b)),(.d (Ze (a.length:Int))),(.d (Ze s0))] []=some ((Zf1 t0 a b) r):=by
 refine Zbm (Zf1 t0 a b) ?_
 intro s0 rcl ih
 show ZE _ _ (lpW _ _ _ _ _ _ _)
 unfold Zca
 rw[Zbn]
 conv=>rhs;whnf
 refine Zc rfl ?_ ?_<;>conv=>rhs;whnf
 ·refine Zn rfl rfl fun x1 hx1=>?_;conv=>rhs;whnf
  refine Zc rfl ?_ ?_<;>conv=>rhs;whnf
  ·exact Zb rfl
  ·exact Zf (ih _)
 ·exact Zb rfl
theorem Zjs {t0:Bool}{a:List Int}{b:Int}:∀r,(ZdK a b)=some r→evD ctx 123 [(.d (zL t0 a)),(.d (Ze b))]=some (ZgO r):=by
 show ZE _ (fun r rhs=>rhs=some (ZgO r)) _
 unfold ZdK
 rw[ZaH ctx 123 Zzt _ rfl rfl]
 conv=>rhs;whnf
 refine Zk (Zz _ _) ?_;conv=>rhs;whnf
 refine Zd _ (Zih _) fun r2 hr2=>?_
 clear hr2
 rcases r2 with r2 | r2
 ·conv=>rhs;whnf
  exact Zb rfl
 ·conv=>rhs;whnf
  exact Zb rfl
def ZfW (r:Bool):D:=(D.bool r)
theorem Zbj {t0:Bool}{a:List Int}{b:Int}:∀r,(Zai a b)=some r→evD ctx 71 [(.d (zL t0 a)),(.d (Ze b))]=some (ZfW r):=by
 show ZE _ (fun r rhs=>rhs=some (ZfW r)) _
 unfold Zai
 rw[ZaH ctx 71 ZCE _ rfl rfl]
 conv=>rhs;whnf
 refine Zi _ Zjs rfl fun x0 hx0=>?_;conv=>rhs;whnf
 refine Zc rfl ?_ ?_<;>conv=>rhs;whnf
 ·exact Zb rfl
 ·exact Zb rfl
def Zi2 (r:Bool):D:=(D.bool r)
theorem ZmS {t0 t1:Bool}{t2 t3:Bool}{a0:List Int}{a1:List Int}{a2:List Zcf}{a3:List Int}{b c:Int}:∀r,(ZhQ a3 b c)=some r→evD ctx 126 [(.d (D.rptr [(zL t0 a0),(zL t1 a1),(D.list t2 (List.map Zgs a2)),(zL t3 a3)])),(.d (Ze b)),(.d (Ze c))]=some (Zi2 r):=by
 show ZE _ (fun r rhs=>rhs=some (Zi2 r)) _
 unfold ZhQ
 rw[ZaH ctx 126 Zzm _ rfl rfl]
 conv=>rhs;whnf
 refine Zn rfl rfl fun x0 hx0=>?_;conv=>rhs;whnf
 refine Zc rfl ?_ ?_<;>conv=>rhs;whnf
 ·refine Zh (Za8 rfl hx0) ?_;conv=>rhs;whnf
  refine Zc rfl ?_ ?_<;>conv=>rhs;whnf
  ·exact Zb rfl
  ·exact Zb rfl
 ·exact Zb rfl
def Zh8 (r:Bool):D:=(D.bool r)
theorem Zlw {t0 t1:Bool}{t2 t3:Bool}{a:ZX}{b0:Int}{c0:List Int}{c1:List Int}{c2:List Zcf}{c3:List Int}{d0:Int}:∀r,(Zdn a b0 c3 d0)=some r→evD ctx 125 [(.d (D.agg [(Ze a.src),(Ze a.dst)])),(.d (D.rptr [(Ze b0)])),(.d (D.rptr [(D.rptr [(zL t0 c0),(zL t1 c1),(D.list t2 (List.map Zgs c2)),(zL t3 c3)])])),(.d (D.rptr [(Ze d0)]))]=some (Zh8 r):=by
 show ZE _ (fun r rhs=>rhs=some (Zh8 r)) _
 unfold Zdn
 rw[ZaH ctx 125 Zy4 _ rfl rfl]
 conv=>rhs;whnf
 refine Zc rfl ?_ ?_<;>conv=>rhs;whnf
 ·refine Zi _ ZmS rfl fun x0 hx0=>?_;conv=>rhs;whnf
  refine Zc rfl ?_ ?_<;>conv=>rhs;whnf
  ·exact Zb rfl
  ·exact Zb rfl
 ·exact Zb rfl
def Zcg (r:Int):D:=(Ze r)
def Zb2 (t0:Bool) (t1:Bool) (t2:Bool) (t3:Bool) (t4:Bool) (a:List ZX) (b0:Int) (b1:List Int) (b2:List Int) (b3:List Zcf) (b4:List Int) (b5:Int):(Int⊕Unit)→Ex×List V×Zm
  | (.inl r)=>(.ret,[(.d (Ze r))],[])
  | (.inr r)=>(.exit 0,[.bad],[])
theorem ZdY {t0 t1:Bool}{t2 t3 t4:Bool}{a:List ZX}{b0:Int}{b1:List Int}{b2:List Int}{b3:List Zcf}{b4:List Int}{b5:Int}:∀(s0:Int) (r:(Int⊕Unit)),lp (Zay a (fun z0=>Zdn z0 b0 b4 b5)) s0=some r→lpW ctx 0 [0,1,7,8] [4] Zs3 [(.d (D.list t0 (List.map ZW a))),(.d (D.fn 125 [(D.rptr [(Ze b0)]),(D.rptr [(D.rptr [(zL t1 b1),(zL t2 b2),(D.list t3 (List.map Zgs b3)),(zL t4 b4)])]),(D.rptr [(Ze b5)])])),(.d (Ze (a.length:Int))),(.d (Ze s0))] []=some ((Zb2 t0 t1 t2 t3 t4 a b0 b1 b2 b3 b4 b5) r):=by
 refine Zbm (Zb2 t0 t1 t2 t3 t4 a b0 b1 b2 b3 b4 b5) ?_
 intro s0 rcl ih
 show ZE _ _ (lpW _ _ _ _ _ _ _)
 unfold Zay
 rw[Zbn]
 conv=>rhs;whnf
 refine Zc rfl ?_ ?_<;>conv=>rhs;whnf
 ·refine Zn rfl rfl fun x1 hx1=>?_;conv=>rhs;whnf
  refine Zi _ Zlw rfl fun x2 hx2=>?_;conv=>rhs;whnf
  refine Zc rfl ?_ ?_<;>conv=>rhs;whnf
  ·exact Zb rfl
  ·exact Zf (ih _)
 ·exact Zb rfl
theorem Zek {t0 t1:Bool}{t2 t3 t4:Bool}{a:List ZX}{b0:Int}{b1:List Int}{b2:List Int}{b3:List Zcf}{b4:List Int}{b5:Int}:∀r,(Zbk a (fun z0=>Zdn z0 b0 b4 b5))=some r→evD ctx 171 [(.d (D.list t0 (List.map ZW a))),(.d (D.fn 125 [(D.rptr [(Ze b0)]),(D.rptr [(D.rptr [(zL t1 b1),(zL t2 b2),(D.list t3 (List.map Zgs b3)),(zL t4 b4)])]),(D.rptr [(Ze b5)])]))]=some (Zcg r):=by
 show ZE _ (fun r rhs=>rhs=some (Zcg r)) _
 unfold Zbk
 rw[ZaH ctx 171 ZvW _ rfl rfl]
 conv=>rhs;whnf
 refine Zk (Zz _ _) ?_;conv=>rhs;whnf
 refine Zd _ (ZdY _) fun r3 hr3=>?_
 clear hr3
 rcases r3 with r3 | r3
 ·conv=>rhs;whnf
  exact Zb rfl
 ·conv=>rhs;whnf
  exact Zb rfl
def Zb4 (r:Bool):D:=(D.bool r)
theorem ZdZ {t0 t1:Bool}{t2 t3 t4:Bool}{a:List ZX}{b0:Int}{b1:List Int}{b2:List Int}{b3:List Zcf}{b4:List Int}{b5:Int}:∀r,(Zag a (fun z0=>Zdn z0 b0 b4 b5))=some r→evD ctx 124 [(.d (D.list t0 (List.map ZW a))),(.d (D.fn 125 [(D.rptr [(Ze b0)]),(D.rptr [(D.rptr [(zL t1 b1),(zL t2 b2),(D.list t3 (List.map Zgs b3)),(zL t4 b4)])]),(D.rptr [(Ze b5)])]))]=some (Zb4 r):=by
 show ZE _ (fun r rhs=>rhs=some (Zb4 r)) _
 unfold Zag
 rw[ZaH ctx 124 ZwD _ rfl rfl]
 conv=>rhs;whnf
 refine Zi _ Zek rfl fun x0 hx0=>?_;conv=>rhs;whnf
 refine Zc rfl ?_ ?_<;>conv=>rhs;whnf
 ·exact Zb rfl
 ·exact Zb rfl
def Zi9 (r:Bool):D:=(D.bool r)
theorem ZiN {t0 t1:Bool}{t2 t3:Bool}{t4 t5:Bool}{a0:List Int}{a1:List Int}{a2:List Zcf}{a3:List Int}{b:ZD}{c d:Int}:∀r,(Zgo a3 b c d)=some r→evD ctx 72 [(.d (D.rptr [(zL t0 a0),(zL t1 a1),(D.list t2 (List.map Zgs a2)),(zL t3 a3)])),(.d (D.agg [(zL t4 b.work),(D.list t5 (List.map ZW b.edges))])),(.d (Ze c)),(.d (Ze d))]=some (Zi9 r):=by
 show ZE _ (fun r rhs=>rhs=some (Zi9 r)) _
 unfold Zgo
 rw[ZaH ctx 72 ZBQ _ rfl rfl]
 conv=>rhs;whnf
 refine Zi _ ZdZ rfl fun x0 hx0=>?_;conv=>rhs;whnf
 refine Zc rfl ?_ ?_<;>conv=>rhs;whnf
 ·exact Zb rfl
 ·exact Zb rfl
def Zjz (r:Int):D:=(Ze r)
theorem Zne {t0 t1:Bool}{t2 t3:Bool}{t4 t5 t6:Bool}{a0:List Int}{a1:List Int}{a2:List Zcf}{a3:List Int}{b:ZD}{c:List Int}{d e:Int}:∀r,(Zik a0 a1 a2 a3 b c d e)=some r→evD ctx 121 [(.d (D.rptr [(zL t0 a0),(zL t1 a1),(D.list t2 (List.map Zgs a2)),(zL t3 a3)])),(.d (D.agg [(zL t4 b.work),(D.list t5 (List.map ZW b.edges))])),(.d (zL t6 c)),(.d (Ze d)),(.d (Ze e))]=some (Zjz r):=by
 show ZE _ (fun r rhs=>rhs=some (Zjz r)) _
 unfold Zik
 rw[ZaH ctx 121 Zx4 _ rfl rfl]
 conv=>rhs;whnf
 refine Zn rfl rfl fun x0 hx0=>?_;conv=>rhs;whnf
 refine Zc rfl ?_ ?_<;>conv=>rhs;whnf
 ·exact Zb rfl
 ·refine Zk (Zz _ _) ?_;conv=>rhs;whnf
  refine Zc rfl ?_ ?_<;>conv=>rhs;whnf
  ·exact Zb rfl
  ·refine Zc rfl ?_ ?_
   ·conv=>rhs;whnf
    refine Zc (ZyV Ze c e.toNat) ?_ ?_
    ·conv=>rhs;whnf
     refine ZbW rfl ?_;conv=>rhs;whnf
     refine Zk (Zte Ze c e.toNat) ?_;conv=>rhs;whnf
     refine Zi _ Zbj rfl fun x1 hx1=>?_;conv=>rhs;whnf
     refine Zc rfl ?_ ?_<;>conv=>rhs;whnf
     ·exact Zb rfl
     ·refine Zn rfl rfl fun x2 hx2=>?_;conv=>rhs;whnf
      refine Zn rfl rfl fun x3 hx3=>?_;conv=>rhs;whnf
      refine Zc rfl ?_ ?_<;>conv=>rhs;whnf
      ·exact Zb rfl
      ·refine Zh (Za8 rfl hx2) ?_;conv=>rhs;whnf
       refine Zc rfl ?_ ?_<;>conv=>rhs;whnf
       ·refine Zn rfl rfl fun x4 hx4=>?_;conv=>rhs;whnf
        refine Zc rfl ?_ ?_<;>conv=>rhs;whnf
        ·exact Zb rfl
        ·refine Zh (Za8 rfl hx2) ?_;conv=>rhs;whnf
         refine Zc rfl ?_ ?_<;>conv=>rhs;whnf
         ·refine Zi _ ZiN rfl fun x5 hx5=>?_;conv=>rhs;whnf
          refine Zc rfl ?_ ?_<;>conv=>rhs;whnf
          ·exact Zb rfl
          ·exact Zb rfl
         ·exact Zb rfl
       ·refine Zh (Za8 rfl hx2) ?_;conv=>rhs;whnf
        refine Zc rfl ?_ ?_<;>conv=>rhs;whnf
        ·refine Zi _ ZiN rfl fun x6 hx6=>?_;conv=>rhs;whnf
         refine Zc rfl ?_ ?_<;>conv=>rhs;whnf
         ·exact Zb rfl
         ·exact Zb rfl
        ·exact Zb rfl
    ·exact ZO
   ·exact ZO
def ZmB (t0:Bool) (t1:Bool) (b:Int) (c:List Int) (m0_0:List Int) (m1_0:List Int) (m2_0:List Zcf) (m3_0:List Int):Unit→V×Zm
  | r=>((.d (D.tup [])),[(.cells [(.d (zL t1 m0_0)),(.sl 1 1),(.sl 2 2),(.sl 3 1)]),(.arr 1 (List.map Ze m1_0)),(.arr 2 (List.map Zgs m2_0)),(.arr 1 (List.map Ze m3_0))])
theorem ZpR {t0 t1:Bool}{b:Int}{c:List Int}{m0_0:List Int}{m1_0:List Int}{m2_0:List Zcf}{m3_0:List Int}:∀r,(Zlo b c)=some r→evW ctx 69 [(.ptr 0 0),(.d (Ze b)),(.d (zL t0 c))] [(.cells [(.d (zL t1 m0_0)),(.sl 1 1),(.sl 2 2),(.sl 3 1)]),(.arr 1 (List.map Ze m1_0)),(.arr 2 (List.map Zgs m2_0)),(.arr 1 (List.map Ze m3_0))]=some ((ZmB t0 t1 b c m0_0 m1_0 m2_0 m3_0) r):=by
 show ZE _ (fun r rhs=>rhs=some ((ZmB t0 t1 b c m0_0 m1_0 m2_0 m3_0) r)) _
 unfold Zlo
 rw[ZcU ctx 69 ZCY _ _ rfl rfl]
 conv=>rhs;whnf
 exact Zb rfl
def ZjI (t0:Bool) (b:Int) (c:Int) (d:Int) (m0_0:List Int) (m1_0:List Int) (m2_0:List Zcf) (m3_0:List Int):((List Int)×(List Int))→V×Zm
  | r=>((.d (D.tup [])),[(.cells [(.d (zL t0 m0_0)),(.sl 1 1),(.sl 2 2),(.sl 3 1)]),(.arr 1 (List.map Ze r.1)),(.arr 2 (List.map Zgs (List.set m2_0 b.toNat (Zcf.mk c d)))),(.arr 1 (List.map Ze r.2))])
theorem Znb {t0:Bool}{b c d:Int}{m0_0:List Int}{m1_0:List Int}{m2_0:List Zcf}{m3_0:List Int}:∀r,(Zic b c d m0_0 m1_0 m2_0 m3_0)=some r→evW ctx 122 [(.ptr 0 0),(.d (Ze b)),(.d (Ze c)),(.d (Ze d))] [(.cells [(.d (zL t0 m0_0)),(.sl 1 1),(.sl 2 2),(.sl 3 1)]),(.arr 1 (List.map Ze m1_0)),(.arr 2 (List.map Zgs m2_0)),(.arr 1 (List.map Ze m3_0))]=some ((ZjI t0 b c d m0_0 m1_0 m2_0 m3_0) r):=by
 show ZE _ (fun r rhs=>rhs=some ((ZjI t0 b c d m0_0 m1_0 m2_0 m3_0) r)) _
 unfold Zic
 rw[ZcU ctx 122 ZxM _ _ rfl rfl]
 conv=>rhs;whnf
 refine Zn rfl rfl fun x0 hx0=>?_;conv=>rhs;whnf
 refine Zh (Zs rfl hx0) ?_;conv=>rhs;whnf
 refine Zh (Za8 rfl hx0) ?_;conv=>rhs;whnf
 refine Zh (Zs rfl hx0) ?_;conv=>rhs;whnf
 refine Zk (Zan Ze m1_0 b.toNat (w64 (x0+1))) ?_;conv=>rhs;whnf
 refine Zn rfl rfl fun x1 hx1=>?_;conv=>rhs;whnf
 refine Zh (Zs rfl hx1) ?_;conv=>rhs;whnf
 refine Zk (Zan Zgs m2_0 b.toNat (Zcf.mk c d)) ?_;conv=>rhs;whnf
 refine Zn rfl rfl fun x2 hx2=>?_;conv=>rhs;whnf
 refine Zh (Zs rfl hx2) ?_;conv=>rhs;whnf
 refine Zn rfl rfl fun x3 hx3=>?_;conv=>rhs;whnf
 refine Zc rfl ?_ ?_<;>conv=>rhs;whnf
 ·refine Zn rfl rfl fun x4 hx4=>?_;conv=>rhs;whnf
  refine Zh (Zs rfl hx4) ?_;conv=>rhs;whnf
  refine Zk (Zan Ze m3_0 b.toNat (w64 (c+1))) ?_;conv=>rhs;whnf
  exact Zb rfl
 ·exact Zb rfl
def ZgF (t0:Bool) (t1:Bool) (t2:Bool) (t3:Bool) (a:ZD) (b:List Int) (c:Int) (d:(List (List Int))):(Int⊕(Int×(List Int)×(List Zcf)×(List Int)))→V×Zm
  | (.inl r)=>((.d (D.tup [(D.nilp),(Ze r)])),[])
  | (.inr r)=>((.tup [(.ptr 0 0),(.d (Ze r.1))]),[(.cells [(.d (zL t2 b)),(.sl 1 1),(.sl 2 2),(.sl 3 1)]),(.arr 1 (List.map Ze r.2.1)),(.arr 2 (List.map Zgs r.2.2.1)),(.arr 1 (List.map Ze r.2.2.2))])
def ZfX (t0:Bool) (t1:Bool) (t2:Bool) (t3:Bool) (a:ZD) (b:List Int) (d:(List (List Int))) (s3:Int×Int×(List Int)×(List Zcf)×(List Int)) (x4:List Int):(Int⊕Int)→Ex×List V×Zm
  | (.inl r)=>(.exit 0,[(.d (D.fn 69 [])),(.ptr 0 0),(.d (Ze r)),(.ptr 1 0),(.d (Ze s3.2.1)),(.d (zL true x4)),(.d (D.list t3 (List.map (ZkM true) d))),(.d (Ze (d.length:Int))),(.d (Ze s3.2.1))],[(.cells [(.d (zL t0 a.work)),(.d (D.list t1 (List.map ZW a.edges)))]),(.cells [(.d (zL t2 b)),(.sl 2 1),(.sl 3 2),(.sl 4 1)]),(.arr 1 (List.map Ze s3.2.2.1)),(.arr 2 (List.map Zgs s3.2.2.2.1)),(.arr 1 (List.map Ze s3.2.2.2.2))])
  | (.inr r)=>(.exit 2,[(.d (D.fn 69 [])),(.ptr 0 0),(.d (Ze r)),(.ptr 1 0),(.d (Ze s3.2.1)),(.d (zL true x4)),(.d (D.list t3 (List.map (ZkM true) d))),(.d (Ze (d.length:Int))),(.d (Ze s3.2.1))],[(.cells [(.d (zL t0 a.work)),(.d (D.list t1 (List.map ZW a.edges)))]),(.cells [(.d (zL t2 b)),(.sl 2 1),(.sl 3 2),(.sl 4 1)]),(.arr 1 (List.map Ze s3.2.2.1)),(.arr 2 (List.map Zgs s3.2.2.2.1)),(.arr 1 (List.map Ze s3.2.2.2.2))])
theorem Zib {t0 t1:Bool}{t2 t3:Bool}{a:ZD}{b:List Int}{d:(List (List Int))}{s3:Int×Int×(List Int)×(List Zcf)×(List Int)}{x4:List Int}:∀(s5:Int×Int) (r:(Int⊕Int)),lp (ZiU a b s3 x4) s5=some r→lpW ctx 0 [4,5,13,15,16,17,47,48,49,54,55,56] [4,5,13,15,16,17,47,48,49] Zx3 [(.d (D.fn 69 [])),(.ptr 0 0),(.d (Ze s5.1)),(.ptr 1 0),(.d (Ze s3.2.1)),(.d (zL true x4)),(.d (D.list t3 (List.map (ZkM true) d))),(.d (Ze (d.length:Int))),(.d (Ze s3.2.1)),(.d (zL true x4)),(.d (Ze (x4.length:Int))),(.d (Ze s5.2))] [(.cells [(.d (zL t0 a.work)),(.d (D.list t1 (List.map ZW a.edges)))]),(.cells [(.d (zL t2 b)),(.sl 2 1),(.sl 3 2),(.sl 4 1)]),(.arr 1 (List.map Ze s3.2.2.1)),(.arr 2 (List.map Zgs s3.2.2.2.1)),(.arr 1 (List.map Ze s3.2.2.2.2))]=some ((ZfX t0 t1 t2 t3 a b d s3 x4) r):=by
 refine Zbm (ZfX t0 t1 t2 t3 a b d s3 x4) ?_
 intro s5 rcl ih
 show ZE _ _ (lpW _ _ _ _ _ _ _)
 unfold ZiU
 rw[Zbn]
 conv=>rhs;whnf
 refine Zc rfl ?_ ?_<;>conv=>rhs;whnf
 ·refine Zn rfl rfl fun x6 hx6=>?_;conv=>rhs;whnf
  refine Zc rfl ?_ ?_<;>conv=>rhs;whnf
  ·exact Zf (ih _)
  ·refine Zi _ Zne rfl fun x7 hx7=>?_;conv=>rhs;whnf
   refine Zc rfl ?_ ?_<;>conv=>rhs;whnf
   ·exact Zb rfl
   ·exact Zf (ih _)
 ·exact Zb rfl
def Zf0 (t0:Bool) (t1:Bool) (t2:Bool) (t3:Bool) (a:ZD) (b:List Int) (d:(List (List Int))) (s3:Int×Int×(List Int)×(List Zcf)×(List Int)) (x4:List Int) (r8:Int):((List Int)×(List Zcf)×(List Int))→Ex×List V×Zm
  | r=>(.exit 4,[(.d (D.fn 69 [])),(.ptr 0 0),(.d (Ze r8)),(.ptr 1 0),(.d (D.list t3 (List.map (ZkM true) d))),(.d (Ze (d.length:Int))),(.d (Ze s3.2.1))],[(.cells [(.d (zL t0 a.work)),(.d (D.list t1 (List.map ZW a.edges)))]),(.cells [(.d (zL t2 b)),(.sl 2 1),(.sl 3 2),(.sl 4 1)]),(.arr 1 (List.map Ze r.1)),(.arr 2 (List.map Zgs r.2.1)),(.arr 1 (List.map Ze r.2.2))])
theorem Zia {t0 t1:Bool}{t2 t3:Bool}{a:ZD}{b:List Int}{d:(List (List Int))}{s3:Int×Int×(List Int)×(List Zcf)×(List Int)}{x4:List Int}{r8:Int}:∀(s10:Int×(List Int)×(List Zcf)×(List Int)) (r:((List Int)×(List Zcf)×(List Int))),lp (ZiT b s3 x4) s10=some r→lpW ctx 0 [4,5,13,15,16,47,48,49,77,78,79] [4,5,13,15,47,48,49] Zyr [(.d (D.fn 69 [])),(.ptr 0 0),(.d (Ze r8)),(.ptr 1 0),(.d (Ze s3.2.1)),(.d (D.list t3 (List.map (ZkM true) d))),(.d (Ze (d.length:Int))),(.d (Ze s3.2.1)),(.d (zL true x4)),(.d (Ze (x4.length:Int))),(.d (Ze s10.1))] [(.cells [(.d (zL t0 a.work)),(.d (D.list t1 (List.map ZW a.edges)))]),(.cells [(.d (zL t2 b)),(.sl 2 1),(.sl 3 2),(.sl 4 1)]),(.arr 1 (List.map Ze s10.2.1)),(.arr 2 (List.map Zgs s10.2.2.1)),(.arr 1 (List.map Ze s10.2.2.2))]=some ((Zf0 t0 t1 t2 t3 a b d s3 x4 r8) r):=by
 refine Zbm (Zf0 t0 t1 t2 t3 a b d s3 x4 r8) ?_
 intro s10 rcl ih
 show ZE _ _ (lpW _ _ _ _ _ _ _)
 unfold ZiT
 rw[Zbn]
 conv=>rhs;whnf
 refine Zc rfl ?_ ?_<;>conv=>rhs;whnf
 ·refine Zn rfl rfl fun x11 hx11=>?_;conv=>rhs;whnf
  refine Zc rfl ?_ ?_<;>conv=>rhs;whnf
  ·refine Zd _ Znb fun x12 hx12=>?_;conv=>rhs;whnf
   exact Zf (ih _)
  ·exact Zf (ih _)
 ·exact Zb rfl
def ZfY (t0:Bool) (t1:Bool) (t2:Bool) (t3:Bool) (a:ZD) (b:List Int) (d:(List (List Int))):(Int×(List Int)×(List Zcf)×(List Int))→Ex×List V×Zm
  | r=>(.exit 0,[(.d (Ze r.1)),(.ptr 0 0)],[(.cells [(.d (zL t2 b)),(.sl 1 1),(.sl 2 2),(.sl 3 1)]),(.arr 1 (List.map Ze r.2.1)),(.arr 2 (List.map Zgs r.2.2.1)),(.arr 1 (List.map Ze r.2.2.2))])
theorem Zim {t0 t1:Bool}{t2 t3:Bool}{a:ZD}{b:List Int}{d:(List (List Int))}:∀(s3:Int×Int×(List Int)×(List Zcf)×(List Int)) (r:(Int×(List Int)×(List Zcf)×(List Int))),lp (ZiQ a b d) s3=some r→lpW ctx 0 [4,5,13,15,47,48,49] [13,15] ZyA [(.d (D.fn 69 [])),(.ptr 0 0),(.d (Ze s3.1)),(.ptr 1 0),(.d (D.list t3 (List.map (ZkM true) d))),(.d (Ze (d.length:Int))),(.d (Ze s3.2.1))] [(.cells [(.d (zL t0 a.work)),(.d (D.list t1 (List.map ZW a.edges)))]),(.cells [(.d (zL t2 b)),(.sl 2 1),(.sl 3 2),(.sl 4 1)]),(.arr 1 (List.map Ze s3.2.2.1)),(.arr 2 (List.map Zgs s3.2.2.2.1)),(.arr 1 (List.map Ze s3.2.2.2.2))]=some ((ZfY t0 t1 t2 t3 a b d) r):=by
 refine Zbm (ZfY t0 t1 t2 t3 a b d) ?_
 intro s3 rcl ih
 show ZE _ _ (lpW _ _ _ _ _ _ _)
 unfold ZiQ
 rw[Zbn]
 conv=>rhs;whnf
 refine Zc rfl ?_ ?_<;>conv=>rhs;whnf
 ·refine Zn rfl rfl fun x4 hx4=>?_;conv=>rhs;whnf
  refine Zk (Zz _ _) ?_;conv=>rhs;whnf
  refine Zd _ (Zib _) fun r8 hr8=>?_
  clear hr8
  rcases r8 with r8 | r8
  ·conv=>rhs;whnf
   exact Zb rfl
  ·conv=>rhs;whnf
   refine Zd _ ZpR fun x9 hx9=>?_;conv=>rhs;whnf
   refine Zk (Zz _ _) ?_;conv=>rhs;whnf
   refine Zd _ (Zia _) fun r13 hr13=>?_;conv=>rhs;whnf
   exact Zf (ih _)
 ·exact Zb rfl
theorem Zjq {t0 t1:Bool}{t2 t3:Bool}{a:ZD}{b:List Int}{c:Int}{d:(List (List Int))}:∀r,(Zjr a b c d)=some r→evW ctx 68 [(.d (D.agg [(zL t0 a.work),(D.list t1 (List.map ZW a.edges))])),(.d (zL t2 b)),(.d (Ze c)),(.d (D.list t3 (List.map (ZkM true) d))),(.d (D.fn 69 []))] []=some ((ZgF t0 t1 t2 t3 a b c d) r):=by
 show ZE _ (fun r rhs=>rhs=some ((ZgF t0 t1 t2 t3 a b c d) r)) _
 unfold Zjr
 rw[ZcU ctx 68 ZBU _ _ rfl rfl]
 conv=>rhs;whnf
 refine Zi _ Zpl rfl fun x0 hx0=>?_;conv=>rhs;whnf
 refine Zc rfl ?_ ?_<;>conv=>rhs;whnf
 ·refine Zc rfl ?_ ?_<;>conv=>rhs;whnf
  ·exact Zb rfl
  ·refine Zk (Zz _ _) ?_;conv=>rhs;whnf
   refine Zc rfl ?_ ?_<;>conv=>rhs;whnf
   ·exact Zb rfl
   ·refine Zi _ Zez rfl fun x1 hx1=>?_;conv=>rhs;whnf
    refine Zc rfl ?_ ?_<;>conv=>rhs;whnf
    ·exact Zb rfl
    ·refine Zd _ Zps fun x2 hx2=>?_;conv=>rhs;whnf
     refine Zk (Zz _ _) ?_;conv=>rhs;whnf
     refine Zd _ (Zim _) fun r14 hr14=>?_;conv=>rhs;whnf
     exact Zb rfl
 ·refine Zc rfl ?_ ?_<;>conv=>rhs;whnf
  ·exact Zb rfl
  ·exact Zb rfl
def ZlT (r:Int):D:=(Ze r)
theorem Zo7 {t0 t1:Bool}{t2 t3:Bool}{a:ZD}{b:List Int}{c:Int}{d:(List (List Int))}:∀r,(Zhj a b c d)=some r→evD ctx 31 [(.d (D.agg [(zL t0 a.work),(D.list t1 (List.map ZW a.edges))])),(.d (zL t2 b)),(.d (Ze c)),(.d (D.list t3 (List.map (ZkM true) d)))]=some (ZlT r):=by
 show ZE _ (fun r rhs=>rhs=some (ZlT r)) _
 unfold Zhj
 rw[ZaH ctx 31 ZCh _ rfl rfl]
 conv=>rhs;whnf
 refine Zd _ Zjq fun x0 hx0=>?_
 clear hx0
 rcases x0 with x0 | x0
 ·conv=>rhs;whnf
  exact Zb rfl
 ·conv=>rhs;whnf
  exact Zb rfl
def ZgD (t0:Bool) (a:List Int):Unit→V×Zm
  | r=>((.sl 0 1),[(.arr 1 (List.map Ze a))])
theorem Zaw {t0:Bool}{a:List Int}:∀r,(Z7 a)=some r→evW ctx 47 [(.d (zL t0 a))] []=some ((ZgD t0 a) r):=by
 show ZE _ (fun r rhs=>rhs=some ((ZgD t0 a) r)) _
 unfold Z7
 rw[ZcU ctx 47 ZBV _ _ rfl rfl]
 conv=>rhs;whnf
 refine ZbW (ZgS (f:=Ze) (fun _=>⟨rfl,rfl⟩) a 0) ?_;conv=>rhs;whnf
 refine Zc (ZgR Ze a) ?_ ?_
 ·conv=>rhs;whnf
  refine Zk (rfl:_=List.map Ze a) ?_;conv=>rhs;whnf
  exact Zb rfl
 ·exact ZO
def ZoT (t0:Bool) (t1:Bool) (t2:Bool) (a:ZD) (b:List Int) (c:Int):(Int⊕(List Int))→V×Zm
  | (.inl r)=>((.tup [(.agg [(.nilsl 1),(.nilsl 1)]),(.d (Ze r))]),[])
  | (.inr r)=>((.tup [(.agg [(.sl 0 1),(.sl 1 1)]),(.d (Ze 0))]),[(.arr 1 (List.map Ze r)),(.arr 1 (List.map Ze b))])
def ZlF (b:List Int) (c:Int):(List Int)→Ex×List V×Zm
  | r=>(.exit 0,[(.ptr 0 0),(.ptr 1 0)],[(.cells [(.sl 2 1),(.sl 3 1)]),(.cells [(.sl 4 1),(.sl 5 1)]),(.arr 1 []),(.arr 1 []),(.arr 1 (List.map Ze r)),(.arr 1 (List.map Ze b))])
theorem Zpe {b:List Int}{c:Int}:∀(s2:Int×(List Int)) (r:List Int),lp (Zfq c) s2=some r→lpW ctx 0 [6,9,21,22] [6,9] ZAd [(.ptr 0 0),(.ptr 1 0),(.d (Ze c)),(.d (Ze s2.1))] [(.cells [(.sl 2 1),(.sl 3 1)]),(.cells [(.sl 4 1),(.sl 5 1)]),(.arr 1 []),(.arr 1 []),(.arr 1 (List.map Ze s2.2)),(.arr 1 (List.map Ze b))]=some ((ZlF b c) r):=by
 refine Zbm (ZlF b c) ?_
 intro s2 rcl ih
 show ZE _ _ (lpW _ _ _ _ _ _ _)
 unfold Zfq
 rw[Zbn]
 conv=>rhs;whnf
 refine Zc rfl ?_ ?_<;>conv=>rhs;whnf
 ·refine ZbW rfl ?_;conv=>rhs;whnf
  refine Zc (Zhm Ze s2.2 1) ?_ ?_
  ·conv=>rhs;whnf
   refine Zk (Zhl Ze s2.2 [(-1)]) ?_;conv=>rhs;whnf
   exact Zf (ih _)
  ·exact ZO
 ·exact Zb rfl
theorem ZrC {t0 t1 t2:Bool}{a:ZD}{b:List Int}{c:Int}:∀r,(ZjU a b c)=some r→evW ctx 51 [(.d (D.agg [(zL t0 a.work),(D.list t1 (List.map ZW a.edges))])),(.d (zL t2 b)),(.d (Ze c))] []=some ((ZoT t0 t1 t2 a b c) r):=by
 show ZE _ (fun r rhs=>rhs=some ((ZoT t0 t1 t2 a b c) r)) _
 unfold ZjU
 rw[ZcU ctx 51 ZCu _ _ rfl rfl]
 conv=>rhs;whnf
 refine Zi _ Zo7 rfl fun x0 hx0=>?_;conv=>rhs;whnf
 refine Zc rfl ?_ ?_<;>conv=>rhs;whnf
 ·exact Zb rfl
 ·refine Zd _ Zaw fun x1 hx1=>?_;conv=>rhs;whnf
  refine Zd _ (Zpe _) fun r3 hr3=>?_;conv=>rhs;whnf
  exact Zb rfl
def Zny (r:Int):D:=(Ze r)
theorem Zmj {a:Int}:∀r,(Zhz a)=some r→evD ctx 156 [(.d (Ze a))]=some (Zny r):=by
 show ZE _ (fun r rhs=>rhs=some (Zny r)) _
 unfold Zhz
 rw[ZaH ctx 156 ZzN _ rfl rfl]
 conv=>rhs;whnf
 refine Zc rfl ?_ ?_<;>conv=>rhs;whnf
 ·exact Zb rfl
 ·refine Zc rfl ?_ ?_<;>conv=>rhs;whnf
  ·exact Zb rfl
  ·exact Zb rfl
def ZgZ (r:Int):D:=(Ze r)
theorem Zjy {a:Int}:∀r,(Zc6 a)=some r→evD ctx 184 [(.d (D.int .u64 a))]=some (ZgZ r):=by
 show ZE _ (fun r rhs=>rhs=some (ZgZ r)) _
 unfold Zc6
 rw[ZaH ctx 184 ZxE _ rfl rfl]
 conv=>rhs;whnf
 refine Zau rfl ?_;conv=>rhs;whnf
 refine Zau rfl ?_;conv=>rhs;whnf
 refine Zau rfl ?_;conv=>rhs;whnf
 refine Zau rfl ?_;conv=>rhs;whnf
 refine Zau rfl ?_;conv=>rhs;whnf
 refine Zau rfl ?_;conv=>rhs;whnf
 exact Zb rfl
def ZhC (r:Int):D:=(Ze r)
theorem Zks {a:Int}:∀r,(Zdt a)=some r→evD ctx 157 [(.d (D.int .u64 a))]=some (ZhC r):=by
 show ZE _ (fun r rhs=>rhs=some (ZhC r)) _
 unfold Zdt
 rw[ZaH ctx 157 Zz6 _ rfl rfl]
 conv=>rhs;whnf
 refine Zi _ Zjy rfl fun x0 hx0=>?_;conv=>rhs;whnf
 exact Zb rfl
theorem ZDW (n:Int):0≤u64.wrap n∧u64.wrap n<18446744073709551616:=by
  have:u64.wrap n=n % 18446744073709551616:=by
    show(if (false&&decide (n % 18446744073709551616 ≥ 9223372036854775808))=true then n % 18446744073709551616-18446744073709551616 else n % 18446744073709551616)=_
    simp
  rw[this]
  omega
theorem ZFp (n:Int):∃j:Nat,j<64∧(u64.wrap n).fdiv (2 ^ (min (Int.toNat 58) u64.bits))=(j:Int):=by
  obtain⟨h1,h2⟩:=ZDW n
  have e:(2:Int) ^ (min (Int.toNat 58) u64.bits)=288230376151711744:=by decide
  rw[e,Int.fdiv_eq_ediv_of_nonneg _ (by omega)]
  refine⟨((u64.wrap n) / 288230376151711744).toNat,?_,?_⟩<;>omega
theorem ZFK:∀j:Nat,j<64→Zed [] 1 false (.d (.rptr (Zy9.drop (j*1))))=some (.d (.int .u8 (Ztm.getD j 0))):=by
  have key:((List.range 64).all fun j=>match Zed [] 1 false (.d (.rptr (Zy9.drop (j*1)))) with | some (.d (.int .u8 z))=>z==Ztm.getD j 0 | _=>false)=true:=by rfl
  intro j hj
  have:=List.all_eq_true.1 key j (by simpa using hj)
  split at this
  · rename_i z hz
    rw[hz,eq_of_beq this]
  · cases this
def ZiG (r:Int):D:=Ze r
theorem Zh9 (a:Int):∀r,Zej a=some r→evD ctx 186 [.d (.int .u64 a)]=some (ZiG r):=by
  intro r hr
  unfold Zej at hr
  have hr:=Option.some.inj hr
  subst hr
  rw[ZaH ctx 186 Zyl _ rfl rfl]
  by_cases h:(a==0)=true
  · conv=>lhs;whnf
    rw[h,ZAZ]
    rfl
  · replace h:(a==0)=false:=by simpa using h
    obtain⟨j,hj,e⟩:=ZFp (u64.wrap ((Zg a &&& Zg (u64.wrap (0-a))).toNat:Int)*285870213051353865)
    conv=>lhs;whnf
    rw[h,ZBo]
    conv=>lhs;whnf
    refine(ZFr (by rfl)).trans ?_
    conv=>lhs;whnf
    rw[e]
    refine(ZDB (by simp;omega)).trans ?_
    conv=>lhs;whnf
    erw [ZFK j hj]
    rfl
def Zgr (r:Int):D:=(Ze r)
theorem ZiX {a:Int}:∀r,(Zds a)=some r→evD ctx 158 [(.d (D.int .u64 a))]=some (Zgr r):=by
 show ZE _ (fun r rhs=>rhs=some (Zgr r)) _
 unfold Zds
 rw[ZaH ctx 158 ZyI _ rfl rfl]
 conv=>rhs;whnf
 refine Zi _ (Zh9 _) rfl fun x0 hx0=>?_;conv=>rhs;whnf
 exact Zb rfl
def ZpE (r:(Int×Bool)):D:=(D.tup [(Ze r.1),(D.bool r.2)])
theorem ZoC {a:Int}:∀r,(Zid a)=some r→evD ctx 103 [(.d (Ze a))]=some (ZpE r):=by
 show ZE _ (fun r rhs=>rhs=some (ZpE r)) _
 unfold Zid
 rw[ZaH ctx 103 ZyY _ rfl rfl]
 conv=>rhs;whnf
 refine Zi _ Zmj rfl fun x0 hx0=>?_;conv=>rhs;whnf
 refine Zc rfl ?_ ?_<;>conv=>rhs;whnf
 ·exact Zb rfl
 ·refine Zi _ Zks rfl fun x1 hx1=>?_;conv=>rhs;whnf
  refine Zc rfl ?_ ?_<;>conv=>rhs;whnf
  ·exact Zb rfl
  ·refine Zi _ ZiX rfl fun x2 hx2=>?_;conv=>rhs;whnf
   exact Zb rfl
def Znx (r:(Zj×Int)):D:=(D.tup [(D.agg [(zL true r.1.ring),(Ze r.1.top),(Ze r.1.bottom)]),(Ze r.2)])
theorem Zrt {a:Int}:∀r,(ZiK a)=some r→evD ctx 52 [(.d (Ze a))]=some (Znx r):=by
 show ZE _ (fun r rhs=>rhs=some (Znx r)) _
 unfold ZiK
 rw[ZaH ctx 52 ZC6 _ rfl rfl]
 conv=>rhs;whnf
 refine Zi _ ZoC rfl fun x0 hx0=>?_;conv=>rhs;whnf
 refine Zc rfl ?_ ?_<;>conv=>rhs;whnf
 ·refine Zc rfl ?_ ?_<;>conv=>rhs;whnf
  ·exact Zb rfl
  ·refine Zc rfl ?_ ?_
   ·conv=>rhs;whnf
    refine Zk (Zlm Ze (0:Int) a) ?_;conv=>rhs;whnf
    exact Zb rfl
   ·exact ZO
 ·exact Zb rfl
def Zk7 (r:Bool):D:=(D.bool r)
theorem Zoh {a:Int}:∀r,(ZdM a)=some r→evD ctx 166 [(.d (Ze a))]=some (Zk7 r):=by
 show ZE _ (fun r rhs=>rhs=some (Zk7 r)) _
 unfold ZdM
 rw[ZaH ctx 166 Zyj _ rfl rfl]
 conv=>rhs;whnf
 refine Zc rfl ?_ ?_<;>conv=>rhs;whnf
 ·exact Zb rfl
 ·refine Zc rfl ?_ ?_<;>conv=>rhs;whnf
  ·exact Zb rfl
  ·exact Zb rfl
def Zc8 (r:Int):D:=(Ze r)
def ZcD (t0:Bool) (a:List Int):(Int⊕Unit)→Ex×List V×Zm
  | (.inl r)=>(.ret,[(.d (Ze r))],[])
  | (.inr r)=>(.exit 0,[.bad],[])
theorem Ze0 {t0:Bool}{a:List Int}:∀(s0:Int) (r:(Int⊕Unit)),lp (ZC a (fun z0=>ZdM z0)) s0=some r→lpW ctx 0 [0,1,7,8] [4] ZqO [(.d (zL t0 a)),(.d (D.fn 166 [])),(.d (Ze (a.length:Int))),(.d (Ze s0))] []=some ((ZcD t0 a) r):=by
 refine Zbm (ZcD t0 a) ?_
 intro s0 rcl ih
 show ZE _ _ (lpW _ _ _ _ _ _ _)
 unfold ZC
 rw[Zbn]
 conv=>rhs;whnf
 refine Zc rfl ?_ ?_<;>conv=>rhs;whnf
 ·refine Zn rfl rfl fun x1 hx1=>?_;conv=>rhs;whnf
  refine Zi _ Zoh rfl fun x2 hx2=>?_;conv=>rhs;whnf
  refine Zc rfl ?_ ?_<;>conv=>rhs;whnf
  ·exact Zb rfl
  ·exact Zf (ih _)
 ·exact Zb rfl
theorem ZfD {t0:Bool}{a:List Int}:∀r,(ZM a (fun z0=>ZdM z0))=some r→evD ctx 94 [(.d (zL t0 a)),(.d (D.fn 166 []))]=some (Zc8 r):=by
 show ZE _ (fun r rhs=>rhs=some (Zc8 r)) _
 unfold ZM
 rw[ZaH ctx 94 Zxj _ rfl rfl]
 conv=>rhs;whnf
 refine Zk (Zz _ _) ?_;conv=>rhs;whnf
 refine Zd _ (Ze0 _) fun r3 hr3=>?_
 clear hr3
 rcases r3 with r3 | r3
 ·conv=>rhs;whnf
  exact Zb rfl
 ·conv=>rhs;whnf
  exact Zb rfl
def ZcE (r:Bool):D:=(D.bool r)
theorem ZeZ {t0:Bool}{a:List Int}:∀r,(ZS a (fun z0=>ZdM z0))=some r→evD ctx 44 [(.d (zL t0 a)),(.d (D.fn 166 []))]=some (ZcE r):=by
 show ZE _ (fun r rhs=>rhs=some (ZcE r)) _
 unfold ZS
 rw[ZaH ctx 44 ZzE _ rfl rfl]
 conv=>rhs;whnf
 refine Zi _ ZfD rfl fun x0 hx0=>?_;conv=>rhs;whnf
 refine Zc rfl ?_ ?_<;>conv=>rhs;whnf
 ·exact Zb rfl
 ·exact Zb rfl
def Znq (r:Bool):D:=(D.bool r)
theorem ZgL {t0 t1:Bool}{a:Zar}{b:Int}:∀r,(Zfc a b)=some r→evD ctx 145 [(.d (D.agg [(zL t0 a.on),(zL t1 a.left)])),(.d (Ze b))]=some (Znq r):=by
 show ZE _ (fun r rhs=>rhs=some (Znq r)) _
 unfold Zfc
 rw[ZaH ctx 145 Zyn _ rfl rfl]
 conv=>rhs;whnf
 refine Zn rfl rfl fun x0 hx0=>?_;conv=>rhs;whnf
 refine Zc rfl ?_ ?_<;>conv=>rhs;whnf
 ·exact Zb rfl
 ·exact Zb rfl
def ZlL (r:Bool):D:=(D.bool r)
theorem Zpb {t0 t1:Bool}{a:ZX}{b0:Int}{c0:List Int}{c1:List Int}:∀r,(Zfu a b0 c0 c1)=some r→evD ctx 187 [(.d (D.agg [(Ze a.src),(Ze a.dst)])),(.d (D.rptr [(Ze b0)])),(.d (D.rptr [(zL t0 c0),(zL t1 c1)]))]=some (ZlL r):=by
 show ZE _ (fun r rhs=>rhs=some (ZlL r)) _
 unfold Zfu
 rw[ZaH ctx 187 ZxF _ rfl rfl]
 conv=>rhs;whnf
 refine Zc rfl ?_ ?_<;>conv=>rhs;whnf
 ·refine Zi _ ZgL rfl fun x0 hx0=>?_;conv=>rhs;whnf
  refine Zc rfl ?_ ?_<;>conv=>rhs;whnf
  ·exact Zb rfl
  ·exact Zb rfl
 ·exact Zb rfl
def ZcT (r:Int):D:=(Ze r)
def ZcA (t0:Bool) (t1:Bool) (t2:Bool) (a:List ZX) (b0:Int) (b1:List Int) (b2:List Int):(Int⊕Unit)→Ex×List V×Zm
  | (.inl r)=>(.ret,[(.d (Ze r))],[])
  | (.inr r)=>(.exit 0,[.bad],[])
theorem ZeQ {t0 t1 t2:Bool}{a:List ZX}{b0:Int}{b1:List Int}{b2:List Int}:∀(s0:Int) (r:(Int⊕Unit)),lp (Zay a (fun z0=>Zfu z0 b0 b1 b2)) s0=some r→lpW ctx 0 [0,1,7,8] [4] Zs3 [(.d (D.list t0 (List.map ZW a))),(.d (D.fn 187 [(D.rptr [(Ze b0)]),(D.rptr [(zL t1 b1),(zL t2 b2)])])),(.d (Ze (a.length:Int))),(.d (Ze s0))] []=some ((ZcA t0 t1 t2 a b0 b1 b2) r):=by
 refine Zbm (ZcA t0 t1 t2 a b0 b1 b2) ?_
 intro s0 rcl ih
 show ZE _ _ (lpW _ _ _ _ _ _ _)
 unfold Zay
 rw[Zbn]
 conv=>rhs;whnf
 refine Zc rfl ?_ ?_<;>conv=>rhs;whnf
 ·refine Zn rfl rfl fun x1 hx1=>?_;conv=>rhs;whnf
  refine Zi _ Zpb rfl fun x2 hx2=>?_;conv=>rhs;whnf
  refine Zc rfl ?_ ?_<;>conv=>rhs;whnf
  ·exact Zb rfl
  ·exact Zf (ih _)
 ·exact Zb rfl
theorem Zfs {t0 t1 t2:Bool}{a:List ZX}{b0:Int}{b1:List Int}{b2:List Int}:∀r,(Zbk a (fun z0=>Zfu z0 b0 b1 b2))=some r→evD ctx 171 [(.d (D.list t0 (List.map ZW a))),(.d (D.fn 187 [(D.rptr [(Ze b0)]),(D.rptr [(zL t1 b1),(zL t2 b2)])]))]=some (ZcT r):=by
 show ZE _ (fun r rhs=>rhs=some (ZcT r)) _
 unfold Zbk
 rw[ZaH ctx 171 ZvW _ rfl rfl]
 conv=>rhs;whnf
 refine Zk (Zz _ _) ?_;conv=>rhs;whnf
 refine Zd _ (ZeQ _) fun r3 hr3=>?_
 clear hr3
 rcases r3 with r3 | r3
 ·conv=>rhs;whnf
  exact Zb rfl
 ·conv=>rhs;whnf
  exact Zb rfl
def Zcz (r:Bool):D:=(D.bool r)
theorem ZeR {t0 t1 t2:Bool}{a:List ZX}{b0:Int}{b1:List Int}{b2:List Int}:∀r,(Zag a (fun z0=>Zfu z0 b0 b1 b2))=some r→evD ctx 124 [(.d (D.list t0 (List.map ZW a))),(.d (D.fn 187 [(D.rptr [(Ze b0)]),(D.rptr [(zL t1 b1),(zL t2 b2)])]))]=some (Zcz r):=by
 show ZE _ (fun r rhs=>rhs=some (Zcz r)) _
 unfold Zag
 rw[ZaH ctx 124 ZwD _ rfl rfl]
 conv=>rhs;whnf
 refine Zi _ Zfs rfl fun x0 hx0=>?_;conv=>rhs;whnf
 refine Zc rfl ?_ ?_<;>conv=>rhs;whnf
 ·exact Zb rfl
 ·exact Zb rfl
def Znp (r:Bool):D:=(D.bool r)
theorem Zjx {t0 t1:Bool}{t2 t3:Bool}{a:ZD}{b:Zar}{c:Int}:∀r,(ZgH a b c)=some r→evD ctx 159 [(.d (D.agg [(zL t0 a.work),(D.list t1 (List.map ZW a.edges))])),(.d (D.agg [(zL t2 b.on),(zL t3 b.left)])),(.d (Ze c))]=some (Znp r):=by
 show ZE _ (fun r rhs=>rhs=some (Znp r)) _
 unfold ZgH
 rw[ZaH ctx 159 ZAj _ rfl rfl]
 conv=>rhs;whnf
 refine Zi _ ZeR rfl fun x0 hx0=>?_;conv=>rhs;whnf
 refine Zc rfl ?_ ?_<;>conv=>rhs;whnf
 ·exact Zb rfl
 ·exact Zb rfl
def Zmi (r:Bool):D:=(D.bool r)
def Zkd (t0:Bool) (t1:Bool) (t2:Bool) (t3:Bool) (a:ZD) (b:Zar):(Unit⊕Unit)→Ex×List V×Zm
  | (.inl r)=>(.ret,[(.ptr 0 0),(.ptr 1 0),(.d (D.bool false))],[(.cells [(.d (zL t0 a.work)),(.d (D.list t1 (List.map ZW a.edges)))]),(.cells [(.d (zL t2 b.on)),(.d (zL t3 b.left))])])
  | (.inr r)=>(.exit 0,[(.ptr 0 0),(.ptr 1 0),.bad],[(.cells [(.d (zL t0 a.work)),(.d (D.list t1 (List.map ZW a.edges)))]),(.cells [(.d (zL t2 b.on)),(.d (zL t3 b.left))])])
theorem Zn1 {t0 t1:Bool}{t2 t3:Bool}{a:ZD}{b:Zar}:∀(s1:Int) (r:(Unit⊕Unit)),lp (Ze4 a b) s1=some r→lpW ctx 0 [2,3,35,36,37] [2,3,4] Zv0 [(.ptr 0 0),(.ptr 1 0),(.d (zL t2 b.on)),(.d (Ze (b.on.length:Int))),(.d (Ze s1))] [(.cells [(.d (zL t0 a.work)),(.d (D.list t1 (List.map ZW a.edges)))]),(.cells [(.d (zL t2 b.on)),(.d (zL t3 b.left))])]=some ((Zkd t0 t1 t2 t3 a b) r):=by
 refine Zbm (Zkd t0 t1 t2 t3 a b) ?_
 intro s1 rcl ih
 show ZE _ _ (lpW _ _ _ _ _ _ _)
 unfold Ze4
 rw[Zbn]
 conv=>rhs;whnf
 refine Zc rfl ?_ ?_<;>conv=>rhs;whnf
 ·refine Zn rfl rfl fun x2 hx2=>?_;conv=>rhs;whnf
  refine Zc rfl ?_ ?_<;>conv=>rhs;whnf
  ·exact Zf (ih _)
  ·refine Zc rfl ?_ ?_<;>conv=>rhs;whnf
   ·exact Zb rfl
   ·refine Zk (Zz _ _) ?_;conv=>rhs;whnf
    refine Zc rfl ?_ ?_<;>conv=>rhs;whnf
    ·exact Zb rfl
    ·refine Zi _ ZgL rfl fun x3 hx3=>?_;conv=>rhs;whnf
     refine Zc rfl ?_ ?_<;>conv=>rhs;whnf
     ·exact Zb rfl
     ·refine Zc rfl ?_ ?_
      ·conv=>rhs;whnf
       refine Zc (ZyV Ze b.on s1.toNat) ?_ ?_
       ·conv=>rhs;whnf
        refine ZbW rfl ?_;conv=>rhs;whnf
        refine Zk (Zte Ze b.on s1.toNat) ?_;conv=>rhs;whnf
        refine Zi _ Zbj rfl fun x4 hx4=>?_;conv=>rhs;whnf
        refine Zc rfl ?_ ?_<;>conv=>rhs;whnf
        ·exact Zb rfl
        ·refine Zi _ Zjx rfl fun x5 hx5=>?_;conv=>rhs;whnf
         refine Zc rfl ?_ ?_<;>conv=>rhs;whnf
         ·exact Zf (ih _)
         ·exact Zb rfl
       ·exact ZO
      ·exact ZO
 ·exact Zb rfl
def Zki (t0:Bool) (t1:Bool) (t2:Bool) (t3:Bool) (a:ZD) (b:Zar):(Unit⊕Unit)→Ex×List V×Zm
  | (.inl r)=>(.ret,[(.d (D.bool false))],[])
  | (.inr r)=>(.exit 2,[.bad],[])
theorem ZnS {t0 t1:Bool}{t2 t3:Bool}{a:ZD}{b:Zar}:∀(s7:Int) (r:(Unit⊕Unit)),lp (Ze8 a b) s7=some r→lpW ctx 0 [2,3,76,77] [4] ZvA [(.ptr 0 0),(.ptr 1 0),(.d (Ze (b.left.length:Int))),(.d (Ze s7))] [(.cells [(.d (zL t0 a.work)),(.d (D.list t1 (List.map ZW a.edges)))]),(.cells [(.d (zL t2 b.on)),(.d (zL t3 b.left))])]=some ((Zki t0 t1 t2 t3 a b) r):=by
 refine Zbm (Zki t0 t1 t2 t3 a b) ?_
 intro s7 rcl ih
 show ZE _ _ (lpW _ _ _ _ _ _ _)
 unfold Ze8
 rw[Zbn]
 conv=>rhs;whnf
 refine Zc rfl ?_ ?_<;>conv=>rhs;whnf
 ·refine Zi _ ZgL rfl fun x8 hx8=>?_;conv=>rhs;whnf
  refine Zc rfl ?_ ?_<;>conv=>rhs;whnf
  ·refine Zi _ Zjx rfl fun x9 hx9=>?_;conv=>rhs;whnf
   refine Zc rfl ?_ ?_<;>conv=>rhs;whnf
   ·exact Zf (ih _)
   ·exact Zb rfl
  ·exact Zf (ih _)
 ·exact Zb rfl
theorem ZpO {t0 t1:Bool}{t2 t3:Bool}{a:ZD}{b:Zar}:∀r,(ZhR a b)=some r→evD ctx 114 [(.d (D.agg [(zL t0 a.work),(D.list t1 (List.map ZW a.edges))])),(.d (D.agg [(zL t2 b.on),(zL t3 b.left)]))]=some (Zmi r):=by
 show ZE _ (fun r rhs=>rhs=some (Zmi r)) _
 unfold ZhR
 rw[ZaH ctx 114 ZyK _ rfl rfl]
 conv=>rhs;whnf
 refine Zk (Zz _ _) ?_;conv=>rhs;whnf
 refine Zc rfl ?_ ?_<;>conv=>rhs;whnf
 ·exact Zb rfl
 ·refine Zk (Zz _ _) ?_;conv=>rhs;whnf
  refine Zc rfl ?_ ?_<;>conv=>rhs;whnf
  ·exact Zb rfl
  ·refine Zk (Zz _ _) ?_;conv=>rhs;whnf
   refine Zk (Zz _ _) ?_;conv=>rhs;whnf
   refine Zc rfl ?_ ?_<;>conv=>rhs;whnf
   ·exact Zb rfl
   ·refine Zi _ ZeZ rfl fun x0 hx0=>?_;conv=>rhs;whnf
    refine Zc rfl ?_ ?_<;>conv=>rhs;whnf
    ·exact Zb rfl
    ·refine Zk (Zz _ _) ?_;conv=>rhs;whnf
     refine Zd _ (Zn1 _) fun r6 hr6=>?_
     clear hr6
     rcases r6 with r6 | r6
     ·conv=>rhs;whnf
      exact Zb rfl
     ·conv=>rhs;whnf
      refine Zk (Zz _ _) ?_;conv=>rhs;whnf
      refine Zd _ (ZnS _) fun r10 hr10=>?_
      clear hr10
      rcases r10 with r10 | r10
      ·conv=>rhs;whnf
       exact Zb rfl
      ·conv=>rhs;whnf
       exact Zb rfl
def Zl6 (r:Int):D:=(Ze r)
theorem ZiS {t0 t1:Bool}{t2 t3:Bool}{a:ZD}{b:Zar}:∀r,(Zf5 a b)=some r→evD ctx 65 [(.d (D.agg [(zL t0 a.work),(D.list t1 (List.map ZW a.edges))])),(.d (D.agg [(zL t2 b.on),(zL t3 b.left)]))]=some (Zl6 r):=by
 show ZE _ (fun r rhs=>rhs=some (Zl6 r)) _
 unfold Zf5
 rw[ZaH ctx 65 ZDh _ rfl rfl]
 conv=>rhs;whnf
 refine Zi _ ZjN rfl fun x0 hx0=>?_;conv=>rhs;whnf
 refine Zc rfl ?_ ?_<;>conv=>rhs;whnf
 ·refine Zi _ ZpO rfl fun x1 hx1=>?_;conv=>rhs;whnf
  refine Zc rfl ?_ ?_<;>conv=>rhs;whnf
  ·exact Zb rfl
  ·exact Zb rfl
 ·exact Zb rfl
def Zmh (r:List Int):D:=(zL true r)
def Zkk (t0:Bool) (t1:Bool) (t2:Bool) (t3:Bool) (a:ZD) (b:Zar):(List Int)→Ex×List V×Zm
  | r=>(.exit 0,[(.sl 0 1)],[(.arr 1 (List.map Ze r))])
theorem ZnZ {t0 t1:Bool}{t2 t3:Bool}{a:ZD}{b:Zar}:∀(s0:Int×(List Int)) (r:List Int),lp (Ze1 a b) s0=some r→lpW ctx 0 [2,3,5,9,10] [5] ZwA [(.ptr 0 0),(.ptr 1 0),(.sl 2 1),(.d (Ze (b.left.length:Int))),(.d (Ze s0.1))] [(.cells [(.d (zL t0 a.work)),(.d (D.list t1 (List.map ZW a.edges)))]),(.cells [(.d (zL t2 b.on)),(.d (zL t3 b.left))]),(.arr 1 (List.map Ze s0.2))]=some ((Zkk t0 t1 t2 t3 a b) r):=by
 refine Zbm (Zkk t0 t1 t2 t3 a b) ?_
 intro s0 rcl ih
 show ZE _ _ (lpW _ _ _ _ _ _ _)
 unfold Ze1
 rw[Zbn]
 conv=>rhs;whnf
 refine Zc rfl ?_ ?_<;>conv=>rhs;whnf
 ·refine Zi _ ZgL rfl fun x1 hx1=>?_;conv=>rhs;whnf
  refine Zc rfl ?_ ?_<;>conv=>rhs;whnf
  ·exact Zf (ih _)
  ·refine Zi _ Zbj rfl fun x2 hx2=>?_;conv=>rhs;whnf
   refine Zc rfl ?_ ?_<;>conv=>rhs;whnf
   ·exact Zf (ih _)
   ·refine Zi _ Zjx rfl fun x3 hx3=>?_;conv=>rhs;whnf
    refine Zc rfl ?_ ?_<;>conv=>rhs;whnf
    ·refine ZbW rfl ?_;conv=>rhs;whnf
     refine Zc (Zhm Ze s0.2 1) ?_ ?_
     ·conv=>rhs;whnf
      refine Zk (Zhl Ze s0.2 [s0.1]) ?_;conv=>rhs;whnf
      exact Zf (ih _)
     ·exact ZO
    ·exact Zf (ih _)
 ·exact Zb rfl
theorem ZpP {t0 t1:Bool}{t2 t3:Bool}{a:ZD}{b:Zar}:∀r,(Zjn a b)=some r→evD ctx 104 [(.d (D.agg [(zL t0 a.work),(D.list t1 (List.map ZW a.edges))])),(.d (D.agg [(zL t2 b.on),(zL t3 b.left)]))]=some (Zmh r):=by
 show ZE _ (fun r rhs=>rhs=some (Zmh r)) _
 unfold Zjn
 rw[ZaH ctx 104 Zyt _ rfl rfl]
 conv=>rhs;whnf
 refine Zk (Zz _ _) ?_;conv=>rhs;whnf
 refine Zd _ (ZnZ _) fun r4 hr4=>?_;conv=>rhs;whnf
 exact Zb rfl
def Zma (r:List Int):D:=(zL true r)
theorem ZiV {t0 t1:Bool}{t2 t3:Bool}{a:ZD}{b:Zar}:∀r,(Zfk a b)=some r→evD ctx 53 [(.d (D.agg [(zL t0 a.work),(D.list t1 (List.map ZW a.edges))])),(.d (D.agg [(zL t2 b.on),(zL t3 b.left)]))]=some (Zma r):=by
 show ZE _ (fun r rhs=>rhs=some (Zma r)) _
 unfold Zfk
 rw[ZaH ctx 53 ZDe _ rfl rfl]
 conv=>rhs;whnf
 refine Zi _ ZiS rfl fun x0 hx0=>?_;conv=>rhs;whnf
 refine Zc rfl ?_ ?_<;>conv=>rhs;whnf
 ·exact Zb rfl
 ·refine Zi _ ZpP rfl fun x1 hx1=>?_;conv=>rhs;whnf
  exact Zb rfl
def ZlK (r:Int):D:=(Ze r)
theorem ZfT {t0:Bool}{a:Zj}:∀r,(ZdH a)=some r→evD ctx 115 [(.d (D.agg [(zL t0 a.ring),(Ze a.top),(Ze a.bottom)]))]=some (ZlK r):=by
 show ZE _ (fun r rhs=>rhs=some (ZlK r)) _
 unfold ZdH
 rw[ZaH ctx 115 ZzR _ rfl rfl]
 conv=>rhs;whnf
 refine Zk (Zz _ _) ?_;conv=>rhs;whnf
 refine Zi _ ZoC rfl fun x0 hx0=>?_;conv=>rhs;whnf
 refine Zc rfl ?_ ?_<;>conv=>rhs;whnf
 ·refine Zk (Zz _ _) ?_;conv=>rhs;whnf
  refine Zc rfl ?_ ?_<;>conv=>rhs;whnf
  ·exact Zb rfl
  ·refine Zi _ Zmj rfl fun x1 hx1=>?_;conv=>rhs;whnf
   refine Zc rfl ?_ ?_<;>conv=>rhs;whnf
   ·exact Zb rfl
   ·refine Zc rfl ?_ ?_<;>conv=>rhs;whnf
    ·exact Zb rfl
    ·refine Zk (Zz _ _) ?_;conv=>rhs;whnf
     refine Zc rfl ?_ ?_<;>conv=>rhs;whnf
     ·exact Zb rfl
     ·exact Zb rfl
 ·exact Zb rfl
def Zni (t0:Bool) (a:Zj):Unit→V×Zm
  | r=>((.agg [(.sl 0 1),(.d (Ze a.top)),(.d (Ze a.bottom))]),[(.arr 1 (List.map Ze a.ring))])
theorem Zmt {t0:Bool}{a:Zj}:∀r,(ZhB a)=some r→evW ctx 160 [(.d (D.agg [(zL t0 a.ring),(Ze a.top),(Ze a.bottom)]))] []=some ((Zni t0 a) r):=by
 show ZE _ (fun r rhs=>rhs=some ((Zni t0 a) r)) _
 unfold ZhB
 rw[ZcU ctx 160 ZzK _ _ rfl rfl]
 conv=>rhs;whnf
 refine Zd _ Zaw fun x0 hx0=>?_;conv=>rhs;whnf
 exact Zb rfl
def ZlP (r:Int):D:=(Ze r)
theorem ZgX {t0:Bool}{a:Zj}{b:Int}:∀r,(Zen a b)=some r→evD ctx 161 [(.d (D.agg [(zL t0 a.ring),(Ze a.top),(Ze a.bottom)])),(.d (Ze b))]=some (ZlP r):=by
 show ZE _ (fun r rhs=>rhs=some (ZlP r)) _
 unfold Zen
 rw[ZaH ctx 161 Zx1 _ rfl rfl]
 conv=>rhs;whnf
 refine Zk (Zz _ _) ?_;conv=>rhs;whnf
 refine Zc rfl ?_ ?_
 ·exact ZO
 ·conv=>rhs;whnf
  exact Zb rfl
def Zmn (r:(Zj×Int)):D:=(D.tup [(D.agg [(zL true r.1.ring),(Ze r.1.top),(Ze r.1.bottom)]),(Ze r.2)])
theorem ZpS {t0:Bool}{a:Zj}{b:Int}:∀r,(Zjl a b)=some r→evD ctx 105 [(.d (D.agg [(zL t0 a.ring),(Ze a.top),(Ze a.bottom)])),(.d (Ze b))]=some (Zmn r):=by
 show ZE _ (fun r rhs=>rhs=some (Zmn r)) _
 unfold Zjl
 rw[ZaH ctx 105 ZzB _ rfl rfl]
 conv=>rhs;whnf
 refine Zi _ ZfT rfl fun x0 hx0=>?_;conv=>rhs;whnf
 refine Zc rfl ?_ ?_<;>conv=>rhs;whnf
 ·exact Zb rfl
 ·refine Zc rfl ?_ ?_<;>conv=>rhs;whnf
  ·exact Zb rfl
  ·refine Zk (Zz _ _) ?_;conv=>rhs;whnf
   refine Zc rfl ?_ ?_<;>conv=>rhs;whnf
   ·exact Zb rfl
   ·refine Zd _ Zmt fun x1 hx1=>?_;conv=>rhs;whnf
    refine Zi _ ZgX rfl fun x2 hx2=>?_;conv=>rhs;whnf
    refine Zn rfl rfl fun x3 hx3=>?_;conv=>rhs;whnf
    refine Zh (Zs rfl hx3) ?_;conv=>rhs;whnf
    refine Zk (Zan Ze a.ring x2.toNat b) ?_;conv=>rhs;whnf
    exact Zb rfl
def Zi1 (t0:Bool) (t1:Bool) (b:Int) (c:Int) (m0_0:List Int) (m0_1:List ZX) (m0_2:Int) (m1_0:List Int) (m2_0:List Int) (m3_0:List Zj) (m4_0:List Zp) (m5_0:List Int):((List Zj)⊕(List Zj))→V×Zm
  | (.inl r)=>((.d (D.bool true)),[(.cells [(.sl 1 1),(.sl 2 1),(.sl 3 3),(.sl 4 6),(.sl 5 1),(.d (zL t0 m0_0)),(.d (D.list t1 (List.map ZW m0_1))),(.d (Ze m0_2))]),(.arr 1 (List.map Ze m1_0)),(.arr 1 (List.map Ze m2_0)),(.arr 3 (List.map Z4 r)),(.arr 6 (List.map Zaa m4_0)),(.arr 1 (List.map Ze m5_0))])
  | (.inr r)=>((.d (D.bool false)),[(.cells [(.sl 1 1),(.sl 2 1),(.sl 3 3),(.sl 4 6),(.sl 5 1),(.d (zL t0 m0_0)),(.d (D.list t1 (List.map ZW m0_1))),(.d (Ze m0_2))]),(.arr 1 (List.map Ze m1_0)),(.arr 1 (List.map Ze m2_0)),(.arr 3 (List.map Z4 r)),(.arr 6 (List.map Zaa m4_0)),(.arr 1 (List.map Ze m5_0))])
theorem ZiD {t0 t1:Bool}{b c:Int}{m0_0:List Int}{m0_1:List ZX}{m0_2:Int}{m1_0:List Int}{m2_0:List Int}{m3_0:List Zj}{m4_0:List Zp}{m5_0:List Int}:∀r,(Zd1 b c m3_0)=some r→evW ctx 54 [(.ptr 0 0),(.d (Ze b)),(.d (Ze c))] [(.cells [(.sl 1 1),(.sl 2 1),(.sl 3 3),(.sl 4 6),(.sl 5 1),(.d (zL t0 m0_0)),(.d (D.list t1 (List.map ZW m0_1))),(.d (Ze m0_2))]),(.arr 1 (List.map Ze m1_0)),(.arr 1 (List.map Ze m2_0)),(.arr 3 (List.map Z4 m3_0)),(.arr 6 (List.map Zaa m4_0)),(.arr 1 (List.map Ze m5_0))]=some ((Zi1 t0 t1 b c m0_0 m0_1 m0_2 m1_0 m2_0 m3_0 m4_0 m5_0) r):=by
 show ZE _ (fun r rhs=>rhs=some ((Zi1 t0 t1 b c m0_0 m0_1 m0_2 m1_0 m2_0 m3_0 m4_0 m5_0) r)) _
 unfold Zd1
 rw[ZcU ctx 54 ZCk _ _ rfl rfl]
 conv=>rhs;whnf
 refine Zn rfl rfl fun x0 hx0=>?_;conv=>rhs;whnf
 refine Zh (Zs rfl hx0) ?_;conv=>rhs;whnf
 refine Zi _ ZpS rfl fun x1 hx1=>?_;conv=>rhs;whnf
 refine Zc rfl ?_ ?_<;>conv=>rhs;whnf
 ·refine Zh (Za8 rfl hx0) ?_;conv=>rhs;whnf
  refine Zh (Zs rfl hx0) ?_;conv=>rhs;whnf
  refine Zk (Zan Z4 m3_0 b.toNat x1.1) ?_;conv=>rhs;whnf
  refine Zc rfl ?_ ?_<;>conv=>rhs;whnf
  ·exact Zb rfl
  ·exact Zb rfl
 ·refine Zc rfl ?_ ?_<;>conv=>rhs;whnf
  ·exact Zb rfl
  ·exact Zb rfl
def ZnE (t0:Bool) (t1:Bool) (t2:Bool) (a:ZD) (b:List Int) (c:Int):(Int⊕((List Int)×(List Zj)))→V×Zm
  | (.inl r)=>((.tup [(.agg [(.nilsl 1),(.nilsl 1),(.nilsl 3),(.nilsl 6),(.nilsl 1)]),(.d (Ze r))]),[])
  | (.inr r)=>((.tup [(.agg [(.sl 0 1),(.sl 1 1),(.sl 2 3),(.sl 3 6),(.sl 4 1)]),(.d (Ze 0))]),[(.arr 1 (List.map Ze r.1)),(.arr 1 (List.map Ze b)),(.arr 3 (List.map Z4 r.2)),(.arr 6 (List.map Zaa (List.replicate c.toNat ((Zp.mk false 0 0 0 0 0):Zp)))),(.arr 1 (List.map Ze (List.replicate c.toNat (0:Int))))])
def ZkY (t0:Bool) (t1:Bool) (a:ZD) (b:List Int) (c:Int) (x0:List Int):(List Zj)→Ex×List V×Zm
  | r=>(.exit 0,[(.d (Ze c)),(.ptr 0 0),(.ptr 1 0),(.ptr 2 0),(.ptr 3 0)],[(.cells [(.d (zL t0 a.work)),(.d (D.list t1 (List.map ZW a.edges)))]),(.cells [(.sl 4 1),(.sl 5 1),(.sl 6 3),(.sl 7 6),(.sl 8 1)]),(.cells [(.sl 9 1),(.sl 10 1)]),(.cells [(.sl 9 1),(.sl 10 1),(.sl 11 3),(.sl 12 6),(.sl 13 1),(.d (zL t0 a.work)),(.d (D.list t1 (List.map ZW a.edges))),(.d (Ze 0))]),(.arr 1 []),(.arr 1 []),(.arr 3 []),(.arr 6 []),(.arr 1 []),(.arr 1 (List.map Ze x0)),(.arr 1 (List.map Ze b)),(.arr 3 (List.map Z4 r)),(.arr 6 (List.map Zaa (List.replicate c.toNat ((Zp.mk false 0 0 0 0 0):Zp)))),(.arr 1 (List.map Ze (List.replicate c.toNat (0:Int))))])
theorem Zom {t0 t1:Bool}{a:ZD}{b:List Int}{c:Int}{x0:List Int}:∀(s1:Int×(List Zj)) (r:List Zj),lp (ZeK c) s1=some r→lpW ctx 0 [2,3,6,8,10,35,36] [2,3,6,8,10] ZxO [(.d (Ze c)),(.ptr 0 0),(.ptr 1 0),(.ptr 2 0),(.ptr 3 0),(.d (Ze c)),(.d (Ze s1.1))] [(.cells [(.d (zL t0 a.work)),(.d (D.list t1 (List.map ZW a.edges)))]),(.cells [(.sl 4 1),(.sl 5 1),(.sl 6 3),(.sl 7 6),(.sl 8 1)]),(.cells [(.sl 9 1),(.sl 10 1)]),(.cells [(.sl 9 1),(.sl 10 1),(.sl 11 3),(.sl 12 6),(.sl 13 1),(.d (zL t0 a.work)),(.d (D.list t1 (List.map ZW a.edges))),(.d (Ze 0))]),(.arr 1 []),(.arr 1 []),(.arr 3 []),(.arr 6 []),(.arr 1 []),(.arr 1 (List.map Ze x0)),(.arr 1 (List.map Ze b)),(.arr 3 (List.map Z4 s1.2)),(.arr 6 (List.map Zaa (List.replicate c.toNat ((Zp.mk false 0 0 0 0 0):Zp)))),(.arr 1 (List.map Ze (List.replicate c.toNat (0:Int))))]=some ((ZkY t0 t1 a b c x0) r):=by
 refine Zbm (ZkY t0 t1 a b c x0) ?_
 intro s1 rcl ih
 show ZE _ _ (lpW _ _ _ _ _ _ _)
 unfold ZeK
 rw[Zbn]
 conv=>rhs;whnf
 refine Zc rfl ?_ ?_<;>conv=>rhs;whnf
 ·refine Zi _ Zrt rfl fun x2 hx2=>?_;conv=>rhs;whnf
  refine ZbW rfl ?_;conv=>rhs;whnf
  refine Zc (Zhm Z4 s1.2 1) ?_ ?_
  ·conv=>rhs;whnf
   refine Zk (Zhl Z4 s1.2 [x2.1]) ?_;conv=>rhs;whnf
   exact Zf (ih _)
  ·exact ZO
 ·exact Zb rfl
def ZkU (t0:Bool) (t1:Bool) (a:ZD) (b:List Int) (c:Int) (x0:List Int) (x4:List Int):(List Zj)→Ex×List V×Zm
  | r=>(.exit 2,[(.ptr 0 0),(.ptr 1 0)],[(.cells [(.sl 2 1),(.sl 3 1),(.sl 4 3),(.sl 5 6),(.sl 6 1)]),(.cells [(.sl 7 1),(.sl 8 1),(.sl 9 3),(.sl 10 6),(.sl 11 1),(.d (zL t0 a.work)),(.d (D.list t1 (List.map ZW a.edges))),(.d (Ze 0))]),(.arr 1 []),(.arr 1 []),(.arr 3 []),(.arr 6 []),(.arr 1 []),(.arr 1 (List.map Ze x0)),(.arr 1 (List.map Ze b)),(.arr 3 (List.map Z4 r)),(.arr 6 (List.map Zaa (List.replicate c.toNat ((Zp.mk false 0 0 0 0 0):Zp)))),(.arr 1 (List.map Ze (List.replicate c.toNat (0:Int))))])
theorem Zoj {t0 t1:Bool}{a:ZD}{b:List Int}{c:Int}{x0:List Int}{x4:List Int}:∀(s5:Int×(List Zj)) (r:List Zj),lp (ZeD c x4) s5=some r→lpW ctx 0 [2,6,10,57,58,59] [6,10] ZyC [(.d (Ze c)),(.ptr 0 0),(.ptr 1 0),(.d (zL true x4)),(.d (Ze (x4.length:Int))),(.d (Ze s5.1))] [(.cells [(.sl 2 1),(.sl 3 1),(.sl 4 3),(.sl 5 6),(.sl 6 1)]),(.cells [(.sl 7 1),(.sl 8 1),(.sl 9 3),(.sl 10 6),(.sl 11 1),(.d (zL t0 a.work)),(.d (D.list t1 (List.map ZW a.edges))),(.d (Ze 0))]),(.arr 1 []),(.arr 1 []),(.arr 3 []),(.arr 6 []),(.arr 1 []),(.arr 1 (List.map Ze x0)),(.arr 1 (List.map Ze b)),(.arr 3 (List.map Z4 s5.2)),(.arr 6 (List.map Zaa (List.replicate c.toNat ((Zp.mk false 0 0 0 0 0):Zp)))),(.arr 1 (List.map Ze (List.replicate c.toNat (0:Int))))]=some ((ZkU t0 t1 a b c x0 x4) r):=by
 refine Zbm (ZkU t0 t1 a b c x0 x4) ?_
 intro s5 rcl ih
 show ZE _ _ (lpW _ _ _ _ _ _ _)
 unfold ZeD
 rw[Zbn]
 conv=>rhs;whnf
 refine Zc rfl ?_ ?_<;>conv=>rhs;whnf
 ·refine Zn rfl rfl fun x6 hx6=>?_;conv=>rhs;whnf
  refine Zc rfl ?_ ?_
  ·exact ZO
  ·conv=>rhs;whnf
   refine Zd _ ZiD fun x7 hx7=>?_
   clear hx7
   rcases x7 with x7 | x7
   ·conv=>rhs;whnf
    exact Zf (ih _)
   ·conv=>rhs;whnf
    exact Zf (ih _)
 ·exact Zb rfl
theorem ZjD {t0 t1 t2:Bool}{a:ZD}{b:List Int}{c:Int}:∀r,(Zfl a b c)=some r→evW ctx 16 [(.d (D.agg [(zL t0 a.work),(D.list t1 (List.map ZW a.edges))])),(.d (zL t2 b)),(.d (Ze c))] []=some ((ZnE t0 t1 t2 a b c) r):=by
 show ZE _ (fun r rhs=>rhs=some ((ZnE t0 t1 t2 a b c) r)) _
 unfold Zfl
 rw[ZcU ctx 16 ZC8 _ _ rfl rfl]
 conv=>rhs;whnf
 refine Zd _ ZrC fun x0 hx0=>?_
 clear hx0
 rcases x0 with x0 | x0
 ·conv=>rhs;whnf
  refine Zc rfl ?_ ?_
  ·conv=>rhs;whnf
   exact Zb rfl
  ·exact ZO
 ·conv=>rhs;whnf
  refine Zau rfl ?_;conv=>rhs;whnf
  refine Zc rfl ?_ ?_
  ·conv=>rhs;whnf
   refine Zk (Zlm Zaa ((Zp.mk false 0 0 0 0 0):Zp) c) ?_;conv=>rhs;whnf
   refine Zc rfl ?_ ?_
   ·conv=>rhs;whnf
    refine Zk (Zlm Ze (0:Int) c) ?_;conv=>rhs;whnf
    refine Zd _ (Zom _) fun r3 hr3=>?_;conv=>rhs;whnf
    refine Zi _ ZiV rfl fun x4 hx4=>?_;conv=>rhs;whnf
    refine Zk (Zz _ _) ?_;conv=>rhs;whnf
    refine Zd _ (Zoj _) fun r8 hr8=>?_;conv=>rhs;whnf
    exact Zb rfl
   ·exact ZO
  ·exact ZO
def Znm (t0:Bool) (t1:Bool) (a:Zar):Unit→V×Zm
  | r=>((.agg [(.sl 0 1),(.sl 1 1)]),[(.arr 1 (List.map Ze a.on)),(.arr 1 (List.map Ze a.left))])
theorem ZqM {t0 t1:Bool}{a:Zar}:∀r,(Zj1 a)=some r→evW ctx 61 [(.d (D.agg [(zL t0 a.on),(zL t1 a.left)]))] []=some ((Znm t0 t1 a) r):=by
 show ZE _ (fun r rhs=>rhs=some ((Znm t0 t1 a) r)) _
 unfold Zj1
 rw[ZcU ctx 61 ZCn _ _ rfl rfl]
 conv=>rhs;whnf
 refine ZbW (ZgS (f:=Ze) (fun _=>⟨rfl,rfl⟩) a.on 0) ?_;conv=>rhs;whnf
 refine Zc (ZgR Ze a.on) ?_ ?_
 ·conv=>rhs;whnf
  refine Zk (rfl:_=List.map Ze a.on) ?_;conv=>rhs;whnf
  refine ZbW (ZgS (f:=Ze) (fun _=>⟨rfl,rfl⟩) a.left 0) ?_;conv=>rhs;whnf
  refine Zc (ZgR Ze a.left) ?_ ?_
  ·conv=>rhs;whnf
   refine Zk (rfl:_=List.map Ze a.left) ?_;conv=>rhs;whnf
   exact Zb rfl
  ·exact ZO
 ·exact ZO
def Znz (r:Zj):D:=(D.agg [(zL true r.ring),(Ze r.top),(Ze r.bottom)])
theorem Zrc {t0:Bool}{a:Zj}:∀r,(Zj2 a)=some r→evD ctx 62 [(.d (D.agg [(zL t0 a.ring),(Ze a.top),(Ze a.bottom)]))]=some (Znz r):=by
 show ZE _ (fun r rhs=>rhs=some (Znz r)) _
 unfold Zj2
 rw[ZaH ctx 62 ZCd _ rfl rfl]
 conv=>rhs;whnf
 refine ZbW (ZgS (f:=Ze) (fun _=>⟨rfl,rfl⟩) a.ring 0) ?_;conv=>rhs;whnf
 refine Zc (ZgR Ze a.ring) ?_ ?_
 ·conv=>rhs;whnf
  refine Zk (rfl:_=List.map Ze a.ring) ?_;conv=>rhs;whnf
  exact Zb rfl
 ·exact ZO
def Znr (t0:Bool) (t1:Bool) (t2:Bool) (t3:Bool) (t4:Bool) (a:Zbu):(List Zj)→V×Zm
  | r=>((.agg [(.sl 0 1),(.sl 1 1),(.sl 2 3),(.sl 3 6),(.sl 4 1)]),[(.arr 1 (List.map Ze a.crew.on)),(.arr 1 (List.map Ze a.crew.left)),(.arr 3 (List.map Z4 r)),(.arr 6 (List.map Zaa a.takers)),(.arr 1 (List.map Ze a.from_))])
def ZkA (t0:Bool) (t1:Bool) (t2:Bool) (t3:Bool) (t4:Bool) (a:Zbu):(List Zj)→Ex×List V×Zm
  | r=>(.exit 0,[(.ptr 0 0),(.ptr 1 0)],[(.cells [(.sl 2 1),(.sl 3 1),(.sl 4 3),(.sl 5 6),(.sl 6 1)]),(.cells [(.sl 7 1),(.sl 8 1),(.sl 9 3),(.sl 10 6),(.sl 11 1)]),(.arr 1 []),(.arr 1 []),(.arr 3 []),(.arr 6 []),(.arr 1 []),(.arr 1 (List.map Ze a.crew.on)),(.arr 1 (List.map Ze a.crew.left)),(.arr 3 (List.map Z4 r)),(.arr 6 (List.map Zaa a.takers)),(.arr 1 (List.map Ze a.from_))])
theorem ZoK {t0 t1:Bool}{t2 t3 t4:Bool}{a:Zbu}:∀(s1:Int×(List Zj)) (r:List Zj),lp (ZeB a) s1=some r→lpW ctx 0 [1,2,3,4] [2,3] ZAt [(.ptr 0 0),(.ptr 1 0),(.ptr 2 0),(.d (Ze s1.1))] [(.cells [(.d (zL t0 a.crew.on)),(.d (zL t1 a.crew.left)),(.d (D.list t2 (List.map Z4 a.deques))),(.d (D.list t3 (List.map Zaa a.takers))),(.d (zL t4 a.from_))]),(.cells [(.sl 3 1),(.sl 4 1),(.sl 5 3),(.sl 6 6),(.sl 7 1)]),(.cells [(.sl 8 1),(.sl 9 1),(.sl 10 3),(.sl 11 6),(.sl 12 1)]),(.arr 1 []),(.arr 1 []),(.arr 3 []),(.arr 6 []),(.arr 1 []),(.arr 1 (List.map Ze a.crew.on)),(.arr 1 (List.map Ze a.crew.left)),(.arr 3 (List.map Z4 s1.2)),(.arr 6 (List.map Zaa a.takers)),(.arr 1 (List.map Ze a.from_))]=some ((ZkA t0 t1 t2 t3 t4 a) r):=by
 refine Zbm (ZkA t0 t1 t2 t3 t4 a) ?_
 intro s1 rcl ih
 show ZE _ _ (lpW _ _ _ _ _ _ _)
 unfold ZeB
 rw[Zbn]
 conv=>rhs;whnf
 refine Zk (Zz _ _) ?_;conv=>rhs;whnf
 refine Zc rfl ?_ ?_<;>conv=>rhs;whnf
 ·refine Zn rfl rfl fun x2 hx2=>?_;conv=>rhs;whnf
  refine Zi _ Zrc rfl fun x3 hx3=>?_;conv=>rhs;whnf
  refine ZbW rfl ?_;conv=>rhs;whnf
  refine Zc (Zhm Z4 s1.2 1) ?_ ?_
  ·conv=>rhs;whnf
   refine Zk (Zhl Z4 s1.2 [x3]) ?_;conv=>rhs;whnf
   exact Zf (ih _)
  ·exact ZO
 ·exact Zb rfl
theorem ZdU {t0 t1:Bool}{t2 t3 t4:Bool}{a:Zbu}:∀r,(Zdq a)=some r→evW ctx 22 [(.d (D.agg [(zL t0 a.crew.on),(zL t1 a.crew.left),(D.list t2 (List.map Z4 a.deques)),(D.list t3 (List.map Zaa a.takers)),(zL t4 a.from_)]))] []=some ((Znr t0 t1 t2 t3 t4 a) r):=by
 show ZE _ (fun r rhs=>rhs=some ((Znr t0 t1 t2 t3 t4 a) r)) _
 unfold Zdq
 rw[ZcU ctx 22 ZCx _ _ rfl rfl]
 conv=>rhs;whnf
 refine Zd _ ZqM fun x0 hx0=>?_;conv=>rhs;whnf
 refine ZbW (ZgS (f:=Zaa) (fun _=>⟨rfl,rfl⟩) a.takers 0) ?_;conv=>rhs;whnf
 refine Zc (ZgR Zaa a.takers) ?_ ?_
 ·conv=>rhs;whnf
  refine Zk (rfl:_=List.map Zaa a.takers) ?_;conv=>rhs;whnf
  refine ZbW (ZgS (f:=Ze) (fun _=>⟨rfl,rfl⟩) a.from_ 0) ?_;conv=>rhs;whnf
  refine Zc (ZgR Ze a.from_) ?_ ?_
  ·conv=>rhs;whnf
   refine Zk (rfl:_=List.map Ze a.from_) ?_;conv=>rhs;whnf
   refine Zd _ (ZoK _) fun r4 hr4=>?_;conv=>rhs;whnf
   exact Zb rfl
  ·exact ZO
 ·exact ZO
def ZlS (r:Bool):D:=(D.bool r)
def ZjM (t0:Bool) (t1:Bool) (t2:Bool) (t3:Bool) (t4:Bool) (a:Zbu):(Unit⊕Unit)→Ex×List V×Zm
  | (.inl r)=>(.ret,[(.d (D.bool false))],[])
  | (.inr r)=>(.exit 0,[.bad],[])
theorem Zng {t0 t1:Bool}{t2 t3 t4:Bool}{a:Zbu}:∀(s0:Int) (r:(Unit⊕Unit)),lp (Zet a) s0=some r→lpW ctx 0 [1,3,32,33,34] [2] Zzb [(.ptr 0 0),(.d (Ze (a.crew.on.length:Int))),(.d (D.list t2 (List.map Z4 a.deques))),(.d (Ze (a.deques.length:Int))),(.d (Ze s0))] [(.cells [(.d (zL t0 a.crew.on)),(.d (zL t1 a.crew.left)),(.d (D.list t2 (List.map Z4 a.deques))),(.d (D.list t3 (List.map Zaa a.takers))),(.d (zL t4 a.from_))])]=some ((ZjM t0 t1 t2 t3 t4 a) r):=by
 refine Zbm (ZjM t0 t1 t2 t3 t4 a) ?_
 intro s0 rcl ih
 show ZE _ _ (lpW _ _ _ _ _ _ _)
 unfold Zet
 rw[Zbn]
 conv=>rhs;whnf
 refine Zc rfl ?_ ?_<;>conv=>rhs;whnf
 ·refine Zn rfl rfl fun x1 hx1=>?_;conv=>rhs;whnf
  refine Zn rfl rfl fun x2 hx2=>?_;conv=>rhs;whnf
  refine Zn rfl rfl fun x3 hx3=>?_;conv=>rhs;whnf
  refine Zi _ ZfT rfl fun x4 hx4=>?_;conv=>rhs;whnf
  refine Zc rfl ?_ ?_<;>conv=>rhs;whnf
  ·exact Zb rfl
  ·refine Zk (Zz _ _) ?_;conv=>rhs;whnf
   refine Zc rfl ?_ ?_<;>conv=>rhs;whnf
   ·exact Zb rfl
   ·refine Zc rfl ?_ ?_<;>conv=>rhs;whnf
    ·exact Zb rfl
    ·refine Zc rfl ?_ ?_<;>conv=>rhs;whnf
     ·exact Zb rfl
     ·refine Zc rfl ?_ ?_<;>conv=>rhs;whnf
      ·exact Zb rfl
      ·refine Zc rfl ?_ ?_<;>conv=>rhs;whnf
       ·refine Zc rfl ?_ ?_<;>conv=>rhs;whnf
        ·refine Zau rfl ?_;conv=>rhs;whnf
         refine Zn rfl rfl fun x5 hx5=>?_;conv=>rhs;whnf
         refine Zc rfl ?_ ?_<;>conv=>rhs;whnf
         ·refine Zc rfl ?_ ?_<;>conv=>rhs;whnf
          ·exact Zb rfl
          ·refine Zc rfl ?_ ?_<;>conv=>rhs;whnf
           ·exact Zb rfl
           ·exact Zf (ih _)
         ·exact Zf (ih _)
        ·refine ZbW rfl ?_;conv=>rhs;whnf
         exact Zb rfl
       ·refine Zc rfl ?_ ?_<;>conv=>rhs;whnf
        ·refine ZbW rfl ?_;conv=>rhs;whnf
         exact Zb rfl
        ·refine Zau rfl ?_;conv=>rhs;whnf
         refine Zn rfl rfl fun x6 hx6=>?_;conv=>rhs;whnf
         refine Zc rfl ?_ ?_<;>conv=>rhs;whnf
         ·refine Zc rfl ?_ ?_<;>conv=>rhs;whnf
          ·exact Zb rfl
          ·refine Zc rfl ?_ ?_<;>conv=>rhs;whnf
           ·exact Zb rfl
           ·exact Zf (ih _)
         ·exact Zf (ih _)
 ·exact Zb rfl
theorem Zph {t0 t1:Bool}{t2 t3 t4:Bool}{a:Zbu}:∀r,(Zha a)=some r→evD ctx 66 [(.d (D.agg [(zL t0 a.crew.on),(zL t1 a.crew.left),(D.list t2 (List.map Z4 a.deques)),(D.list t3 (List.map Zaa a.takers)),(zL t4 a.from_)]))]=some (ZlS r):=by
 show ZE _ (fun r rhs=>rhs=some (ZlS r)) _
 unfold Zha
 rw[ZaH ctx 66 ZCq _ rfl rfl]
 conv=>rhs;whnf
 refine Zk (Zz _ _) ?_;conv=>rhs;whnf
 refine Zk (Zz _ _) ?_;conv=>rhs;whnf
 refine Zc rfl ?_ ?_<;>conv=>rhs;whnf
 ·exact Zb rfl
 ·refine Zk (Zz _ _) ?_;conv=>rhs;whnf
  refine Zc rfl ?_ ?_<;>conv=>rhs;whnf
  ·exact Zb rfl
  ·refine Zk (Zz _ _) ?_;conv=>rhs;whnf
   refine Zc rfl ?_ ?_<;>conv=>rhs;whnf
   ·exact Zb rfl
   ·refine Zk (Zz _ _) ?_;conv=>rhs;whnf
    refine Zd _ (Zng _) fun r7 hr7=>?_
    clear hr7
    rcases r7 with r7 | r7
    ·conv=>rhs;whnf
     exact Zb rfl
    ·conv=>rhs;whnf
     exact Zb rfl
def ZlE (r:Int):D:=(Ze r)
theorem ZbL {t0 t1:Bool}{t2 t3:Bool}{t4 t5 t6:Bool}{a:ZD}{b:Zbu}:∀r,(ZbF a b)=some r→evD ctx 26 [(.d (D.agg [(zL t0 a.work),(D.list t1 (List.map ZW a.edges))])),(.d (D.agg [(zL t2 b.crew.on),(zL t3 b.crew.left),(D.list t4 (List.map Z4 b.deques)),(D.list t5 (List.map Zaa b.takers)),(zL t6 b.from_)]))]=some (ZlE r):=by
 show ZE _ (fun r rhs=>rhs=some (ZlE r)) _
 unfold ZbF
 rw[ZaH ctx 26 ZBY _ rfl rfl]
 conv=>rhs;whnf
 refine Zi _ ZiS rfl fun x0 hx0=>?_;conv=>rhs;whnf
 refine Zc rfl ?_ ?_<;>conv=>rhs;whnf
 ·refine Zi _ Zph rfl fun x1 hx1=>?_;conv=>rhs;whnf
  refine Zc rfl ?_ ?_<;>conv=>rhs;whnf
  ·exact Zb rfl
  ·exact Zb rfl
 ·exact Zb rfl
def ZfM (t0:Bool) (a:List Zp):Unit→V×Zm
  | r=>((.sl 0 6),[(.arr 6 (List.map Zaa a))])
theorem Zh4 {t0:Bool}{a:List Zp}:∀r,(Zb6 a)=some r→evW ctx 109 [(.d (D.list t0 (List.map Zaa a)))] []=some ((ZfM t0 a) r):=by
 show ZE _ (fun r rhs=>rhs=some ((ZfM t0 a) r)) _
 unfold Zb6
 rw[ZcU ctx 109 ZyX _ _ rfl rfl]
 conv=>rhs;whnf
 refine Zc (ZvI Zaa a) ?_ ?_
 ·conv=>rhs;whnf
  refine ZbW (ZgS (f:=Zaa) (fun _=>⟨rfl,rfl⟩) a 0) ?_;conv=>rhs;whnf
  refine Zc (ZgR Zaa a) ?_ ?_
  ·conv=>rhs;whnf
   refine Zk (rfl:_=List.map Zaa a) ?_;conv=>rhs;whnf
   exact Zb rfl
  ·exact ZO
 ·exact ZO
def ZfN (t0:Bool) (a:List Zj):Unit→V×Zm
  | r=>((.sl 0 3),[(.arr 3 (List.map Z4 a))])
theorem Zh3 {t0:Bool}{a:List Zj}:∀r,(Zb1 a)=some r→evW ctx 110 [(.d (D.list t0 (List.map Z4 a)))] []=some ((ZfN t0 a) r):=by
 show ZE _ (fun r rhs=>rhs=some ((ZfN t0 a) r)) _
 unfold Zb1
 rw[ZcU ctx 110 Zyu _ _ rfl rfl]
 conv=>rhs;whnf
 refine Zc (ZvI Z4 a) ?_ ?_
 ·conv=>rhs;whnf
  refine ZbW (ZgS (f:=Z4) (fun _=>⟨rfl,rfl⟩) a 0) ?_;conv=>rhs;whnf
  refine Zc (ZgR Z4 a) ?_ ?_
  ·conv=>rhs;whnf
   refine Zk (rfl:_=List.map Z4 a) ?_;conv=>rhs;whnf
   exact Zb rfl
  ·exact ZO
 ·exact ZO
def Zno (t0:Bool) (t1:Bool) (t2:Bool) (t3:Bool) (t4:Bool) (a:Zbu):(List Zj)→V×Zm
  | r=>((.agg [(.sl 0 1),(.sl 1 1),(.sl 2 3),(.sl 3 6),(.sl 4 1)]),[(.arr 1 (List.map Ze a.crew.on)),(.arr 1 (List.map Ze a.crew.left)),(.arr 3 (List.map Z4 r)),(.arr 6 (List.map Zaa a.takers)),(.arr 1 (List.map Ze a.from_))])
def ZkN (a:Zbu):(List Zj)→Ex×List V×Zm
  | r=>(.exit 0,[(.ptr 0 0),(.ptr 1 0)],[(.cells [(.sl 2 1),(.sl 3 1),(.sl 4 3),(.sl 5 6),(.sl 6 1)]),(.cells [(.sl 7 1),(.sl 8 1),(.sl 9 3),(.sl 10 6),(.sl 11 1)]),(.arr 1 (List.map Ze a.crew.on)),(.arr 1 (List.map Ze a.crew.left)),(.arr 3 (List.map Z4 r)),(.arr 6 (List.map Zaa a.takers)),(.arr 1 (List.map Ze a.from_)),(.arr 1 []),(.arr 1 []),(.arr 3 []),(.arr 6 []),(.arr 1 [])])
theorem Zoq {a:Zbu}:∀(s5:Int×(List Zj)) (r:List Zj),lp (ZeM a) s5=some r→lpW ctx 0 [1,2,30,31] [1,2] Zzr [(.ptr 0 0),(.ptr 1 0),(.d (Ze (a.deques.length:Int))),(.d (Ze s5.1))] [(.cells [(.sl 2 1),(.sl 3 1),(.sl 4 3),(.sl 5 6),(.sl 6 1)]),(.cells [(.sl 7 1),(.sl 8 1),(.sl 9 3),(.sl 10 6),(.sl 11 1)]),(.arr 1 (List.map Ze a.crew.on)),(.arr 1 (List.map Ze a.crew.left)),(.arr 3 (List.map Z4 s5.2)),(.arr 6 (List.map Zaa a.takers)),(.arr 1 (List.map Ze a.from_)),(.arr 1 []),(.arr 1 []),(.arr 3 []),(.arr 6 []),(.arr 1 [])]=some ((ZkN a) r):=by
 refine Zbm (ZkN a) ?_
 intro s5 rcl ih
 show ZE _ _ (lpW _ _ _ _ _ _ _)
 unfold ZeM
 rw[Zbn]
 conv=>rhs;whnf
 refine Zc rfl ?_ ?_<;>conv=>rhs;whnf
 ·refine Zn rfl rfl fun x6 hx6=>?_;conv=>rhs;whnf
  refine Zh (Zs rfl hx6) ?_;conv=>rhs;whnf
  refine Zd _ Zaw fun x7 hx7=>?_;conv=>rhs;whnf
  refine Zh (Za8 rfl hx6) ?_;conv=>rhs;whnf
  refine Zh (Zs rfl hx6) ?_;conv=>rhs;whnf
  refine Zk (Zan Z4 s5.2 s5.1.toNat x6) ?_;conv=>rhs;whnf
  exact Zf (ih _)
 ·exact Zb rfl
theorem ZmL {t0 t1:Bool}{t2 t3 t4:Bool}{a:Zbu}:∀r,(ZhA a)=some r→evW ctx 60 [(.d (D.agg [(zL t0 a.crew.on),(zL t1 a.crew.left),(D.list t2 (List.map Z4 a.deques)),(D.list t3 (List.map Zaa a.takers)),(zL t4 a.from_)]))] []=some ((Zno t0 t1 t2 t3 t4 a) r):=by
 show ZE _ (fun r rhs=>rhs=some ((Zno t0 t1 t2 t3 t4 a) r)) _
 unfold ZhA
 rw[ZcU ctx 60 ZBS _ _ rfl rfl]
 conv=>rhs;whnf
 refine Zd _ Zaw fun x0 hx0=>?_;conv=>rhs;whnf
 refine Zd _ Zaw fun x1 hx1=>?_;conv=>rhs;whnf
 refine Zd _ Zh4 fun x2 hx2=>?_;conv=>rhs;whnf
 refine Zd _ Zaw fun x3 hx3=>?_;conv=>rhs;whnf
 refine Zd _ Zh3 fun x4 hx4=>?_;conv=>rhs;whnf
 refine Zk (Zz _ _) ?_;conv=>rhs;whnf
 refine Zd _ (Zoq _) fun r8 hr8=>?_;conv=>rhs;whnf
 exact Zb rfl
def ZhH (r:Bool):D:=(D.bool r)
theorem ZkO {t0:Bool}{a:Zj}:∀r,(ZbV a)=some r→evD ctx 112 [(.d (D.agg [(zL t0 a.ring),(Ze a.top),(Ze a.bottom)]))]=some (ZhH r):=by
 show ZE _ (fun r rhs=>rhs=some (ZhH r)) _
 unfold ZbV
 rw[ZaH ctx 112 Zz2 _ rfl rfl]
 conv=>rhs;whnf
 refine Zc rfl ?_ ?_<;>conv=>rhs;whnf
 ·exact Zb rfl
 ·exact Zb rfl
def Zb5 (r:Int):D:=(Ze r)
def ZbS (t0:Bool) (a:List Zj):(Int⊕Unit)→Ex×List V×Zm
  | (.inl r)=>(.ret,[(.d (Ze r))],[])
  | (.inr r)=>(.exit 0,[.bad],[])
theorem Zdz {t0:Bool}{a:List Zj}:∀(s0:Int) (r:(Int⊕Unit)),lp (Zbh a (fun z0=>ZbV z0)) s0=some r→lpW ctx 0 [0,1,7,8] [4] Zww [(.d (D.list t0 (List.map Z4 a))),(.d (D.fn 112 [])),(.d (Ze (a.length:Int))),(.d (Ze s0))] []=some ((ZbS t0 a) r):=by
 refine Zbm (ZbS t0 a) ?_
 intro s0 rcl ih
 show ZE _ _ (lpW _ _ _ _ _ _ _)
 unfold Zbh
 rw[Zbn]
 conv=>rhs;whnf
 refine Zc rfl ?_ ?_<;>conv=>rhs;whnf
 ·refine Zn rfl rfl fun x1 hx1=>?_;conv=>rhs;whnf
  refine Zi _ ZkO rfl fun x2 hx2=>?_;conv=>rhs;whnf
  refine Zc rfl ?_ ?_<;>conv=>rhs;whnf
  ·exact Zb rfl
  ·exact Zf (ih _)
 ·exact Zb rfl
theorem ZdX {t0:Bool}{a:List Zj}:∀r,(Zb8 a (fun z0=>ZbV z0))=some r→evD ctx 165 [(.d (D.list t0 (List.map Z4 a))),(.d (D.fn 112 []))]=some (Zb5 r):=by
 show ZE _ (fun r rhs=>rhs=some (Zb5 r)) _
 unfold Zb8
 rw[ZaH ctx 165 Zya _ rfl rfl]
 conv=>rhs;whnf
 refine Zk (Zz _ _) ?_;conv=>rhs;whnf
 refine Zd _ (Zdz _) fun r3 hr3=>?_
 clear hr3
 rcases r3 with r3 | r3
 ·conv=>rhs;whnf
  exact Zb rfl
 ·conv=>rhs;whnf
  exact Zb rfl
def ZbQ (r:Bool):D:=(D.bool r)
theorem ZdA {t0:Bool}{a:List Zj}:∀r,(Zbf a (fun z0=>ZbV z0))=some r→evD ctx 111 [(.d (D.list t0 (List.map Z4 a))),(.d (D.fn 112 []))]=some (ZbQ r):=by
 show ZE _ (fun r rhs=>rhs=some (ZbQ r)) _
 unfold Zbf
 rw[ZaH ctx 111 ZxG _ rfl rfl]
 conv=>rhs;whnf
 refine Zi _ ZdX rfl fun x0 hx0=>?_;conv=>rhs;whnf
 refine Zc rfl ?_ ?_<;>conv=>rhs;whnf
 ·exact Zb rfl
 ·exact Zb rfl
def Zir (r:List Int):D:=(zL true r)
def Zhy (t0:Bool) (t1:Bool) (t2:Bool) (t3:Bool) (t4:Bool) (t5:Bool) (t6:Bool) (a0:List Int) (a1:List Int) (a2:List Zj) (a3:List Zp) (a4:List Int) (a5:List Int) (a6:List ZX) (a7:Int):(List Int)→Ex×List V×Zm
  | r=>(.exit 0,[(.sl 0 1)],[(.arr 1 (List.map Ze r))])
theorem Zkp {t0 t1:Bool}{t2 t3:Bool}{t4 t5 t6:Bool}{a0:List Int}{a1:List Int}{a2:List Zj}{a3:List Zp}{a4:List Int}{a5:List Int}{a6:List ZX}{a7:Int}:∀(s1:Int×(List Int)) (r:List Int),lp (ZcF a0) s1=some r→lpW ctx 0 [0,3,4,18,19,20] [4] ZuR [(.d (D.rptr [(zL t0 a0),(zL t1 a1),(D.list t2 (List.map Z4 a2)),(D.list t3 (List.map Zaa a3)),(zL t4 a4),(zL t5 a5),(D.list t6 (List.map ZW a6)),(Ze a7)])),(.d (D.bool true)),(.sl 0 1),(.d (zL t0 a0)),(.d (Ze (a0.length:Int))),(.d (Ze s1.1))] [(.arr 1 (List.map Ze s1.2))]=some ((Zhy t0 t1 t2 t3 t4 t5 t6 a0 a1 a2 a3 a4 a5 a6 a7) r):=by
 refine Zbm (Zhy t0 t1 t2 t3 t4 t5 t6 a0 a1 a2 a3 a4 a5 a6 a7) ?_
 intro s1 rcl ih
 show ZE _ _ (lpW _ _ _ _ _ _ _)
 unfold ZcF
 rw[Zbn]
 conv=>rhs;whnf
 refine Zc rfl ?_ ?_<;>conv=>rhs;whnf
 ·refine Zn rfl rfl fun x2 hx2=>?_;conv=>rhs;whnf
  refine Zc rfl ?_ ?_<;>conv=>rhs;whnf
  ·refine ZbW rfl ?_;conv=>rhs;whnf
   refine Zc (Zhm Ze s1.2 1) ?_ ?_
   ·conv=>rhs;whnf
    refine Zk (Zhl Ze s1.2 [s1.1]) ?_;conv=>rhs;whnf
    exact Zf (ih _)
   ·exact ZO
  ·exact Zf (ih _)
 ·exact Zb rfl
def Zg2 (t0:Bool) (t1:Bool) (t2:Bool) (t3:Bool) (t4:Bool) (t5:Bool) (t6:Bool) (a0:List Int) (a1:List Int) (a2:List Zj) (a3:List Zp) (a4:List Int) (a5:List Int) (a6:List ZX) (a7:Int):(List Int)→Ex×List V×Zm
  | r=>(.exit 0,[(.sl 0 1)],[(.arr 1 (List.map Ze r))])
theorem ZjW {t0 t1:Bool}{t2 t3:Bool}{t4 t5 t6:Bool}{a0:List Int}{a1:List Int}{a2:List Zj}{a3:List Zp}{a4:List Int}{a5:List Int}{a6:List ZX}{a7:Int}:∀(s4:Int×(List Int)) (r:List Int),lp (Zce a0 a3) s4=some r→lpW ctx 0 [0,3,4,18,19,20] [4] ZuR [(.d (D.rptr [(zL t0 a0),(zL t1 a1),(D.list t2 (List.map Z4 a2)),(D.list t3 (List.map Zaa a3)),(zL t4 a4),(zL t5 a5),(D.list t6 (List.map ZW a6)),(Ze a7)])),(.d (D.bool false)),(.sl 0 1),(.d (zL t0 a0)),(.d (Ze (a0.length:Int))),(.d (Ze s4.1))] [(.arr 1 (List.map Ze s4.2))]=some ((Zg2 t0 t1 t2 t3 t4 t5 t6 a0 a1 a2 a3 a4 a5 a6 a7) r):=by
 refine Zbm (Zg2 t0 t1 t2 t3 t4 t5 t6 a0 a1 a2 a3 a4 a5 a6 a7) ?_
 intro s4 rcl ih
 show ZE _ _ (lpW _ _ _ _ _ _ _)
 unfold Zce
 rw[Zbn]
 conv=>rhs;whnf
 refine Zc rfl ?_ ?_<;>conv=>rhs;whnf
 ·refine Zn rfl rfl fun x5 hx5=>?_;conv=>rhs;whnf
  refine Zc rfl ?_ ?_<;>conv=>rhs;whnf
  ·refine Zn rfl rfl fun x6 hx6=>?_;conv=>rhs;whnf
   refine Zc rfl ?_ ?_<;>conv=>rhs;whnf
   ·refine ZbW rfl ?_;conv=>rhs;whnf
    refine Zc (Zhm Ze s4.2 1) ?_ ?_
    ·conv=>rhs;whnf
     refine Zk (Zhl Ze s4.2 [s4.1]) ?_;conv=>rhs;whnf
     exact Zf (ih _)
    ·exact ZO
   ·exact Zf (ih _)
  ·exact Zf (ih _)
 ·exact Zb rfl
theorem Zgg {t0 t1:Bool}{t2 t3:Bool}{t4 t5 t6:Bool}{a0:List Int}{a1:List Int}{a2:List Zj}{a3:List Zp}{a4:List Int}{a5:List Int}{a6:List ZX}{a7:Int}:∀r,(ZcY a0 a2 a3)=some r→evD ctx 63 [(.d (D.rptr [(zL t0 a0),(zL t1 a1),(D.list t2 (List.map Z4 a2)),(D.list t3 (List.map Zaa a3)),(zL t4 a4),(zL t5 a5),(D.list t6 (List.map ZW a6)),(Ze a7)]))]=some (Zir r):=by
 show ZE _ (fun r rhs=>rhs=some (Zir r)) _
 unfold ZcY
 rw[ZaH ctx 63 ZCD _ rfl rfl]
 conv=>rhs;whnf
 refine Zi _ ZdA rfl fun x0 hx0=>?_;conv=>rhs;whnf
 refine Zc rfl ?_ ?_<;>conv=>rhs;whnf
 ·refine Zk (Zz _ _) ?_;conv=>rhs;whnf
  refine Zd _ (Zkp _) fun r3 hr3=>?_;conv=>rhs;whnf
  exact Zb rfl
 ·refine Zk (Zz _ _) ?_;conv=>rhs;whnf
  refine Zd _ (ZjW _) fun r7 hr7=>?_;conv=>rhs;whnf
  exact Zb rfl
def Zh6 (r:Bool):D:=(D.bool r)
theorem Zlc {t0 t1:Bool}{t2 t3:Bool}{t4 t5 t6:Bool}{a:Int}{b0:List Int}{b1:List Int}{b2:List Zj}{b3:List Zp}{b4:List Int}{b5:List Int}{b6:List ZX}{b7:Int}:∀r,(Zb7 a b7)=some r→evD ctx 147 [(.d (Ze a)),(.d (D.rptr [(D.rptr [(zL t0 b0),(zL t1 b1),(D.list t2 (List.map Z4 b2)),(D.list t3 (List.map Zaa b3)),(zL t4 b4),(zL t5 b5),(D.list t6 (List.map ZW b6)),(Ze b7)])]))]=some (Zh6 r):=by
 show ZE _ (fun r rhs=>rhs=some (Zh6 r)) _
 unfold Zb7
 rw[ZaH ctx 147 ZyL _ rfl rfl]
 conv=>rhs;whnf
 refine Zc rfl ?_ ?_<;>conv=>rhs;whnf
 ·exact Zb rfl
 ·exact Zb rfl
def Zct (r:Int):D:=(Ze r)
def Zcb (t0:Bool) (t1:Bool) (t2:Bool) (t3:Bool) (t4:Bool) (t5:Bool) (t6:Bool) (t7:Bool) (a:List Int) (b0:List Int) (b1:List Int) (b2:List Zj) (b3:List Zp) (b4:List Int) (b5:List Int) (b6:List ZX) (b7:Int):(Int⊕Unit)→Ex×List V×Zm
  | (.inl r)=>(.ret,[(.d (Ze r))],[])
  | (.inr r)=>(.exit 0,[.bad],[])
theorem Zd8 {t0 t1:Bool}{t2 t3:Bool}{t4 t5:Bool}{t6 t7:Bool}{a:List Int}{b0:List Int}{b1:List Int}{b2:List Zj}{b3:List Zp}{b4:List Int}{b5:List Int}{b6:List ZX}{b7:Int}:∀(s0:Int) (r:(Int⊕Unit)),lp (ZC a (fun z0=>Zb7 z0 b7)) s0=some r→lpW ctx 0 [0,1,7,8] [4] ZqO [(.d (zL t0 a)),(.d (D.fn 147 [(D.rptr [(D.rptr [(zL t1 b0),(zL t2 b1),(D.list t3 (List.map Z4 b2)),(D.list t4 (List.map Zaa b3)),(zL t5 b4),(zL t6 b5),(D.list t7 (List.map ZW b6)),(Ze b7)])])])),(.d (Ze (a.length:Int))),(.d (Ze s0))] []=some ((Zcb t0 t1 t2 t3 t4 t5 t6 t7 a b0 b1 b2 b3 b4 b5 b6 b7) r):=by
 refine Zbm (Zcb t0 t1 t2 t3 t4 t5 t6 t7 a b0 b1 b2 b3 b4 b5 b6 b7) ?_
 intro s0 rcl ih
 show ZE _ _ (lpW _ _ _ _ _ _ _)
 unfold ZC
 rw[Zbn]
 conv=>rhs;whnf
 refine Zc rfl ?_ ?_<;>conv=>rhs;whnf
 ·refine Zn rfl rfl fun x1 hx1=>?_;conv=>rhs;whnf
  refine Zi _ Zlc rfl fun x2 hx2=>?_;conv=>rhs;whnf
  refine Zc rfl ?_ ?_<;>conv=>rhs;whnf
  ·exact Zb rfl
  ·exact Zf (ih _)
 ·exact Zb rfl
theorem ZeA {t0 t1:Bool}{t2 t3:Bool}{t4 t5:Bool}{t6 t7:Bool}{a:List Int}{b0:List Int}{b1:List Int}{b2:List Zj}{b3:List Zp}{b4:List Int}{b5:List Int}{b6:List ZX}{b7:Int}:∀r,(ZM a (fun z0=>Zb7 z0 b7))=some r→evD ctx 94 [(.d (zL t0 a)),(.d (D.fn 147 [(D.rptr [(D.rptr [(zL t1 b0),(zL t2 b1),(D.list t3 (List.map Z4 b2)),(D.list t4 (List.map Zaa b3)),(zL t5 b4),(zL t6 b5),(D.list t7 (List.map ZW b6)),(Ze b7)])])]))]=some (Zct r):=by
 show ZE _ (fun r rhs=>rhs=some (Zct r)) _
 unfold ZM
 rw[ZaH ctx 94 Zxj _ rfl rfl]
 conv=>rhs;whnf
 refine Zk (Zz _ _) ?_;conv=>rhs;whnf
 refine Zd _ (Zd8 _) fun r3 hr3=>?_
 clear hr3
 rcases r3 with r3 | r3
 ·conv=>rhs;whnf
  exact Zb rfl
 ·conv=>rhs;whnf
  exact Zb rfl
def Zi0 (r:Int):D:=(Ze r)
theorem Zl5 {t0 t1:Bool}{t2 t3:Bool}{t4 t5:Bool}{t6 t7 t8:Bool}{a0:List Int}{a1:List Int}{a2:List Zj}{a3:List Zp}{a4:List Int}{a5:List Int}{a6:List ZX}{a7:Int}{b:List Int}{c:List Int}{d:Int}:∀r,(Zd2 a7 b c d)=some r→evD ctx 95 [(.d (D.rptr [(zL t0 a0),(zL t1 a1),(D.list t2 (List.map Z4 a2)),(D.list t3 (List.map Zaa a3)),(zL t4 a4),(zL t5 a5),(D.list t6 (List.map ZW a6)),(Ze a7)])),(.d (zL t7 b)),(.d (zL t8 c)),(.d (Ze d))]=some (Zi0 r):=by
 show ZE _ (fun r rhs=>rhs=some (Zi0 r)) _
 unfold Zd2
 rw[ZaH ctx 95 ZCA _ rfl rfl]
 conv=>rhs;whnf
 refine Zk (Zz _ _) ?_;conv=>rhs;whnf
 refine Zc rfl ?_ ?_<;>conv=>rhs;whnf
 ·refine Zn rfl rfl fun x0 hx0=>?_;conv=>rhs;whnf
  refine Zk (Zz _ _) ?_;conv=>rhs;whnf
  refine Zc rfl ?_ ?_
  ·exact ZO
  ·conv=>rhs;whnf
   refine Zn rfl rfl fun x1 hx1=>?_;conv=>rhs;whnf
   exact Zb rfl
 ·refine Zi _ ZeA rfl fun x2 hx2=>?_;conv=>rhs;whnf
  refine Zn rfl rfl fun x3 hx3=>?_;conv=>rhs;whnf
  exact Zb rfl
def Zkz (r:Bool):D:=(D.bool r)
theorem Zgp {a:Int}:∀r,(ZdS a)=some r→evD ctx 190 [(.d (Ze a))]=some (Zkz r):=by
 show ZE _ (fun r rhs=>rhs=some (Zkz r)) _
 unfold ZdS
 rw[ZaH ctx 190 Zzg _ rfl rfl]
 conv=>rhs;whnf
 refine Zc rfl ?_ ?_<;>conv=>rhs;whnf
 ·exact Zb rfl
 ·refine Zc rfl ?_ ?_<;>conv=>rhs;whnf
  ·exact Zb rfl
  ·exact Zb rfl
def ZmA (r:Bool):D:=(D.bool r)
theorem ZpY {a:Zp}:∀r,(ZhK a)=some r→evD ctx 167 [(.d (D.agg [(D.bool a.steal),(Ze a.at_),(Ze a.top),(Ze a.bottom),(Ze a.got),(Ze a.end_)]))]=some (ZmA r):=by
 show ZE _ (fun r rhs=>rhs=some (ZmA r)) _
 unfold ZhK
 rw[ZaH ctx 167 ZxP _ rfl rfl]
 conv=>rhs;whnf
 refine Zc rfl ?_ ?_<;>conv=>rhs;whnf
 ·refine Zc rfl ?_ ?_<;>conv=>rhs;whnf
  ·refine Zc rfl ?_ ?_<;>conv=>rhs;whnf
   ·refine Zc rfl ?_ ?_<;>conv=>rhs;whnf
    ·refine Zc rfl ?_ ?_<;>conv=>rhs;whnf
     ·exact Zb rfl
     ·refine Zi _ Zgp rfl fun x0 hx0=>?_;conv=>rhs;whnf
      refine Zc rfl ?_ ?_<;>conv=>rhs;whnf
      ·exact Zb rfl
      ·refine Zi _ Zgp rfl fun x1 hx1=>?_;conv=>rhs;whnf
       refine Zc rfl ?_ ?_<;>conv=>rhs;whnf
       ·exact Zb rfl
       ·exact Zb rfl
    ·exact Zb rfl
   ·exact Zb rfl
  ·exact Zb rfl
 ·refine Zc rfl ?_ ?_<;>conv=>rhs;whnf
  ·refine Zc rfl ?_ ?_<;>conv=>rhs;whnf
   ·refine Zc rfl ?_ ?_<;>conv=>rhs;whnf
    ·refine Zc rfl ?_ ?_<;>conv=>rhs;whnf
     ·exact Zb rfl
     ·refine Zi _ Zgp rfl fun x2 hx2=>?_;conv=>rhs;whnf
      refine Zc rfl ?_ ?_<;>conv=>rhs;whnf
      ·exact Zb rfl
      ·refine Zi _ Zgp rfl fun x3 hx3=>?_;conv=>rhs;whnf
       refine Zc rfl ?_ ?_<;>conv=>rhs;whnf
       ·exact Zb rfl
       ·exact Zb rfl
    ·exact Zb rfl
   ·exact Zb rfl
  ·exact Zb rfl
def ZmI (m0_0:Int) (m0_1:Int) (m1_0:Bool) (m1_1:Int) (m1_2:Int) (m1_3:Int) (m1_4:Int) (m1_5:Int) (m2_0:List Int):(Unit⊕Unit)→V×Zm
  | (.inl r)=>((.d (D.bool false)),[(.cells [(.sl 2 1),(.d (Ze m0_0)),(.d (Ze m0_1))]),(.cells [(.d (D.bool m1_0)),(.d (Ze m1_1)),(.d (Ze m1_2)),(.d (Ze m1_3)),(.d (Ze m1_4)),(.d (Ze m1_5))]),(.arr 1 (List.map Ze m2_0))])
  | (.inr r)=>((.d (D.bool true)),[(.cells [(.sl 2 1),(.d (Ze (w64 (m0_0+1)))),(.d (Ze m0_1))]),(.cells [(.d (D.bool m1_0)),(.d (Ze m1_1)),(.d (Ze m1_2)),(.d (Ze m1_3)),(.d (Ze m1_4)),(.d (Ze m1_5))]),(.arr 1 (List.map Ze m2_0))])
theorem ZlH {m0_0 m0_1:Int}{m1_0:Bool}{m1_1 m1_2:Int}{m1_3 m1_4 m1_5:Int}{m2_0:List Int}:∀r,(Zfh m0_0 m1_2)=some r→evW ctx 191 [(.ptr 0 0),(.ptr 1 0)] [(.cells [(.sl 2 1),(.d (Ze m0_0)),(.d (Ze m0_1))]),(.cells [(.d (D.bool m1_0)),(.d (Ze m1_1)),(.d (Ze m1_2)),(.d (Ze m1_3)),(.d (Ze m1_4)),(.d (Ze m1_5))]),(.arr 1 (List.map Ze m2_0))]=some ((ZmI m0_0 m0_1 m1_0 m1_1 m1_2 m1_3 m1_4 m1_5 m2_0) r):=by
 show ZE _ (fun r rhs=>rhs=some ((ZmI m0_0 m0_1 m1_0 m1_1 m1_2 m1_3 m1_4 m1_5 m2_0) r)) _
 unfold Zfh
 rw[ZcU ctx 191 Zz3 _ _ rfl rfl]
 conv=>rhs;whnf
 refine Zc rfl ?_ ?_<;>conv=>rhs;whnf
 ·exact Zb rfl
 ·exact Zb rfl
def ZlO (m0_0:Int) (m0_1:Int) (m1_0:Bool) (m1_1:Int) (m1_2:Int) (m1_3:Int) (m1_4:Int) (m1_5:Int) (m2_0:List Int):(Int×Int×Int×Int×Int×Int)→V×Zm
  | r=>((.d (D.tup [])),[(.cells [(.sl 2 1),(.d (Ze r.1)),(.d (Ze m0_1))]),(.cells [(.d (D.bool m1_0)),(.d (Ze r.2.1)),(.d (Ze r.2.2.1)),(.d (Ze r.2.2.2.1)),(.d (Ze r.2.2.2.2.1)),(.d (Ze r.2.2.2.2.2))]),(.arr 1 (List.map Ze m2_0))])
theorem Zpj {m0_0 m0_1:Int}{m1_0:Bool}{m1_1 m1_2:Int}{m1_3 m1_4 m1_5:Int}{m2_0:List Int}:∀r,(Zdd m0_0 m0_1 m1_1 m1_2 m1_3 m1_4 m1_5 m2_0)=some r→evW ctx 168 [(.ptr 0 0),(.ptr 1 0)] [(.cells [(.sl 2 1),(.d (Ze m0_0)),(.d (Ze m0_1))]),(.cells [(.d (D.bool m1_0)),(.d (Ze m1_1)),(.d (Ze m1_2)),(.d (Ze m1_3)),(.d (Ze m1_4)),(.d (Ze m1_5))]),(.arr 1 (List.map Ze m2_0))]=some ((ZlO m0_0 m0_1 m1_0 m1_1 m1_2 m1_3 m1_4 m1_5 m2_0) r):=by
 show ZE _ (fun r rhs=>rhs=some ((ZlO m0_0 m0_1 m1_0 m1_1 m1_2 m1_3 m1_4 m1_5 m2_0) r)) _
 unfold Zdd
 rw[ZcU ctx 168 Zz0 _ _ rfl rfl]
 conv=>rhs;whnf
 refine Zc rfl ?_ ?_<;>conv=>rhs;whnf
 ·exact Zb rfl
 ·refine Zc rfl ?_ ?_<;>conv=>rhs;whnf
  ·refine Zc rfl ?_ ?_<;>conv=>rhs;whnf
   ·exact Zb rfl
   ·exact Zb rfl
  ·refine Zc rfl ?_ ?_<;>conv=>rhs;whnf
   ·refine Zi _ ZgX rfl fun x0 hx0=>?_;conv=>rhs;whnf
    refine Zn rfl rfl fun x1 hx1=>?_;conv=>rhs;whnf
    refine Zh (Zs rfl hx1) ?_;conv=>rhs;whnf
    exact Zb rfl
   ·refine Zd _ ZlH fun x2 hx2=>?_
    clear hx2
    rcases x2 with x2 | x2
    ·conv=>rhs;whnf
     exact Zb rfl
    ·conv=>rhs;whnf
     exact Zb rfl
def Zns (m0_0:Int) (m0_1:Int) (m1_0:Bool) (m1_1:Int) (m1_2:Int) (m1_3:Int) (m1_4:Int) (m1_5:Int) (m2_0:List Int):(Int×Int×Int×Int×Int×Int×Int)→V×Zm
  | r=>((.d (D.tup [])),[(.cells [(.sl 2 1),(.d (Ze r.1)),(.d (Ze r.2.1))]),(.cells [(.d (D.bool m1_0)),(.d (Ze r.2.2.1)),(.d (Ze r.2.2.2.1)),(.d (Ze r.2.2.2.2.1)),(.d (Ze r.2.2.2.2.2.1)),(.d (Ze r.2.2.2.2.2.2))]),(.arr 1 (List.map Ze m2_0))])
theorem ZqP {m0_0 m0_1:Int}{m1_0:Bool}{m1_1 m1_2:Int}{m1_3 m1_4 m1_5:Int}{m2_0:List Int}:∀r,(Zdo m0_0 m0_1 m1_1 m1_2 m1_3 m1_4 m1_5 m2_0)=some r→evW ctx 169 [(.ptr 0 0),(.ptr 1 0)] [(.cells [(.sl 2 1),(.d (Ze m0_0)),(.d (Ze m0_1))]),(.cells [(.d (D.bool m1_0)),(.d (Ze m1_1)),(.d (Ze m1_2)),(.d (Ze m1_3)),(.d (Ze m1_4)),(.d (Ze m1_5))]),(.arr 1 (List.map Ze m2_0))]=some ((Zns m0_0 m0_1 m1_0 m1_1 m1_2 m1_3 m1_4 m1_5 m2_0) r):=by
 show ZE _ (fun r rhs=>rhs=some ((Zns m0_0 m0_1 m1_0 m1_1 m1_2 m1_3 m1_4 m1_5 m2_0) r)) _
 unfold Zdo
 rw[ZcU ctx 169 Zy5 _ _ rfl rfl]
 conv=>rhs;whnf
 refine Zc rfl ?_ ?_<;>conv=>rhs;whnf
 ·exact Zb rfl
 ·refine Zc rfl ?_ ?_<;>conv=>rhs;whnf
  ·refine Zc rfl ?_ ?_<;>conv=>rhs;whnf
   ·refine Zi _ ZgX rfl fun x0 hx0=>?_;conv=>rhs;whnf
    refine Zn rfl rfl fun x1 hx1=>?_;conv=>rhs;whnf
    refine Zh (Zs rfl hx1) ?_;conv=>rhs;whnf
    exact Zb rfl
   ·refine Zc rfl ?_ ?_<;>conv=>rhs;whnf
    ·exact Zb rfl
    ·exact Zb rfl
  ·refine Zc rfl ?_ ?_<;>conv=>rhs;whnf
   ·refine Zd _ ZlH fun x2 hx2=>?_
    clear hx2
    rcases x2 with x2 | x2
    ·conv=>rhs;whnf
     exact Zb rfl
    ·conv=>rhs;whnf
     refine Zi _ ZgX rfl fun x3 hx3=>?_;conv=>rhs;whnf
     refine Zn rfl rfl fun x4 hx4=>?_;conv=>rhs;whnf
     refine Zh (Zs rfl hx4) ?_;conv=>rhs;whnf
     exact Zb rfl
   ·refine Zc rfl ?_ ?_<;>conv=>rhs;whnf
    ·exact Zb rfl
    ·exact Zb rfl
def ZmG (r:(Zj×Zp×Int)):D:=(D.tup [(D.agg [(zL true r.1.ring),(Ze r.1.top),(Ze r.1.bottom)]),(D.agg [(D.bool r.2.1.steal),(Ze r.2.1.at_),(Ze r.2.1.top),(Ze r.2.1.bottom),(Ze r.2.1.got),(Ze r.2.1.end_)]),(Ze r.2.2)])
theorem ZpN {t0:Bool}{a:Zj}{b:Zp}:∀r,(Zcx a b)=some r→evD ctx 116 [(.d (D.agg [(zL t0 a.ring),(Ze a.top),(Ze a.bottom)])),(.d (D.agg [(D.bool b.steal),(Ze b.at_),(Ze b.top),(Ze b.bottom),(Ze b.got),(Ze b.end_)]))]=some (ZmG r):=by
 show ZE _ (fun r rhs=>rhs=some (ZmG r)) _
 unfold Zcx
 rw[ZaH ctx 116 Zz5 _ rfl rfl]
 conv=>rhs;whnf
 refine Zi _ ZfT rfl fun x0 hx0=>?_;conv=>rhs;whnf
 refine Zc rfl ?_ ?_<;>conv=>rhs;whnf
 ·exact Zb rfl
 ·refine Zi _ ZpY rfl fun x1 hx1=>?_;conv=>rhs;whnf
  refine Zc rfl ?_ ?_<;>conv=>rhs;whnf
  ·refine Zd _ Zmt fun x2 hx2=>?_;conv=>rhs;whnf
   refine Zc rfl ?_ ?_<;>conv=>rhs;whnf
   ·refine Zd _ Zpj fun x3 hx3=>?_;conv=>rhs;whnf
    refine Zi _ ZfT rfl fun x4 hx4=>?_;conv=>rhs;whnf
    refine Zc rfl ?_ ?_<;>conv=>rhs;whnf
    ·exact Zb rfl
    ·exact Zb rfl
   ·refine Zd _ ZqP fun x5 hx5=>?_;conv=>rhs;whnf
    refine Zi _ ZfT rfl fun x6 hx6=>?_;conv=>rhs;whnf
    refine Zc rfl ?_ ?_<;>conv=>rhs;whnf
    ·exact Zb rfl
    ·exact Zb rfl
  ·exact Zb rfl
def ZiH (t0:Bool) (t1:Bool) (b:Int) (c:Int) (m0_0:List Int) (m0_1:List ZX) (m0_2:Int) (m1_0:List Int) (m2_0:List Int) (m3_0:List Zj) (m4_0:List Zp) (m5_0:List Int):(List Zp)→V×Zm
  | r=>((.d (D.tup [])),[(.cells [(.sl 1 1),(.sl 2 1),(.sl 3 3),(.sl 4 6),(.sl 5 1),(.d (zL t0 m0_0)),(.d (D.list t1 (List.map ZW m0_1))),(.d (Ze m0_2))]),(.arr 1 (List.map Ze m1_0)),(.arr 1 (List.map Ze m2_0)),(.arr 3 (List.map Z4 m3_0)),(.arr 6 (List.map Zaa r)),(.arr 1 (List.map Ze (List.set m5_0 b.toNat c)))])
theorem Zgl {t0 t1:Bool}{b c:Int}{m0_0:List Int}{m0_1:List ZX}{m0_2:Int}{m1_0:List Int}{m2_0:List Int}{m3_0:List Zj}{m4_0:List Zp}{m5_0:List Int}:∀r,(Zc0 b c m4_0 m5_0)=some r→evW ctx 117 [(.ptr 0 0),(.d (Ze b)),(.d (Ze c))] [(.cells [(.sl 1 1),(.sl 2 1),(.sl 3 3),(.sl 4 6),(.sl 5 1),(.d (zL t0 m0_0)),(.d (D.list t1 (List.map ZW m0_1))),(.d (Ze m0_2))]),(.arr 1 (List.map Ze m1_0)),(.arr 1 (List.map Ze m2_0)),(.arr 3 (List.map Z4 m3_0)),(.arr 6 (List.map Zaa m4_0)),(.arr 1 (List.map Ze m5_0))]=some ((ZiH t0 t1 b c m0_0 m0_1 m0_2 m1_0 m2_0 m3_0 m4_0 m5_0) r):=by
 show ZE _ (fun r rhs=>rhs=some ((ZiH t0 t1 b c m0_0 m0_1 m0_2 m1_0 m2_0 m3_0 m4_0 m5_0) r)) _
 unfold Zc0
 rw[ZcU ctx 117 ZxD _ _ rfl rfl]
 conv=>rhs;whnf
 refine Zn rfl rfl fun x0 hx0=>?_;conv=>rhs;whnf
 refine Zh (Zs rfl hx0) ?_;conv=>rhs;whnf
 refine Zk (Zan Ze m5_0 b.toNat c) ?_;conv=>rhs;whnf
 refine Zc rfl ?_ ?_<;>conv=>rhs;whnf
 ·refine Zn rfl rfl fun x1 hx1=>?_;conv=>rhs;whnf
  refine Zh (Zs rfl hx1) ?_;conv=>rhs;whnf
  refine Zk (Zan Zaa m4_0 b.toNat (Zp.mk true 0 0 0 0 0)) ?_;conv=>rhs;whnf
  exact Zb rfl
 ·refine Zn rfl rfl fun x2 hx2=>?_;conv=>rhs;whnf
  refine Zh (Zs rfl hx2) ?_;conv=>rhs;whnf
  refine Zk (Zan Zaa m4_0 b.toNat (Zp.mk false 0 0 0 0 0)) ?_;conv=>rhs;whnf
  exact Zb rfl
def Zi8 (t0:Bool) (t1:Bool) (b:Int) (m0_0:List Int) (m0_1:List ZX) (m0_2:Int) (m1_0:List Int) (m2_0:List Int) (m3_0:List Zj) (m4_0:List Zp) (m5_0:List Int):(Int×(List Int)×(List Zj)×(List Zp)×(List Int))→V×Zm
  | r=>((.d (Ze r.1)),[(.cells [(.sl 1 1),(.sl 2 1),(.sl 3 3),(.sl 4 6),(.sl 5 1),(.d (zL t0 m0_0)),(.d (D.list t1 (List.map ZW m0_1))),(.d (Ze m0_2))]),(.arr 1 (List.map Ze r.2.1)),(.arr 1 (List.map Ze m2_0)),(.arr 3 (List.map Z4 r.2.2.1)),(.arr 6 (List.map Zaa r.2.2.2.1)),(.arr 1 (List.map Ze r.2.2.2.2))])
theorem ZmJ {t0 t1:Bool}{b:Int}{m0_0:List Int}{m0_1:List ZX}{m0_2:Int}{m1_0:List Int}{m2_0:List Int}{m3_0:List Zj}{m4_0:List Zp}{m5_0:List Int}:∀r,(ZbP b m0_0 m0_1 m1_0 m2_0 m3_0 m4_0 m5_0)=some r→evW ctx 67 [(.ptr 0 0),(.d (Ze b))] [(.cells [(.sl 1 1),(.sl 2 1),(.sl 3 3),(.sl 4 6),(.sl 5 1),(.d (zL t0 m0_0)),(.d (D.list t1 (List.map ZW m0_1))),(.d (Ze m0_2))]),(.arr 1 (List.map Ze m1_0)),(.arr 1 (List.map Ze m2_0)),(.arr 3 (List.map Z4 m3_0)),(.arr 6 (List.map Zaa m4_0)),(.arr 1 (List.map Ze m5_0))]=some ((Zi8 t0 t1 b m0_0 m0_1 m0_2 m1_0 m2_0 m3_0 m4_0 m5_0) r):=by
 show ZE _ (fun r rhs=>rhs=some ((Zi8 t0 t1 b m0_0 m0_1 m0_2 m1_0 m2_0 m3_0 m4_0 m5_0) r)) _
 unfold ZbP
 rw[ZcU ctx 67 ZCf _ _ rfl rfl]
 conv=>rhs;whnf
 refine Zk (Zz _ _) ?_;conv=>rhs;whnf
 refine Zn rfl rfl fun x0 hx0=>?_;conv=>rhs;whnf
 refine Zh (Zs rfl hx0) ?_;conv=>rhs;whnf
 refine Zc rfl ?_ ?_
 ·exact ZO
 ·conv=>rhs;whnf
  refine Zn rfl rfl fun x1 hx1=>?_;conv=>rhs;whnf
  refine Zh (Zs rfl hx1) ?_;conv=>rhs;whnf
  refine Zn rfl rfl fun x2 hx2=>?_;conv=>rhs;whnf
  refine Zh (Zs rfl hx2) ?_;conv=>rhs;whnf
  refine Zi _ ZpN rfl fun x3 hx3=>?_;conv=>rhs;whnf
  refine Zc rfl ?_ ?_<;>conv=>rhs;whnf
  ·exact Zb rfl
  ·refine Zh (Za8 rfl hx1) ?_;conv=>rhs;whnf
   refine Zh (Zs rfl hx1) ?_;conv=>rhs;whnf
   refine Zk (Zan Z4 m3_0 (Int.tmod (w64 (b+x0)) (m1_0.length:Int)).toNat x3.1) ?_;conv=>rhs;whnf
   refine Zh (Za8 rfl hx2) ?_;conv=>rhs;whnf
   refine Zh (Zs rfl hx2) ?_;conv=>rhs;whnf
   refine Zk (Zan Zaa m4_0 b.toNat x3.2.1) ?_;conv=>rhs;whnf
   refine Zc rfl ?_ ?_<;>conv=>rhs;whnf
   ·refine Zi _ ZiV rfl fun x4 hx4=>?_;conv=>rhs;whnf
    refine Zi _ Zbj rfl fun x5 hx5=>?_;conv=>rhs;whnf
    refine Zc rfl ?_ ?_<;>conv=>rhs;whnf
    ·refine Zn rfl rfl fun x6 hx6=>?_;conv=>rhs;whnf
     refine Zh (Zs rfl hx6) ?_;conv=>rhs;whnf
     refine Zk (Zan Ze m1_0 b.toNat x3.2.1.got) ?_;conv=>rhs;whnf
     refine Zd _ Zgl fun x7 hx7=>?_;conv=>rhs;whnf
     exact Zb rfl
    ·exact Zb rfl
   ·refine Zc rfl ?_ ?_<;>conv=>rhs;whnf
    ·refine Zh (Za8 rfl hx0) ?_;conv=>rhs;whnf
     refine Zh (Zs rfl hx0) ?_;conv=>rhs;whnf
     refine Zc rfl ?_ ?_
     ·exact ZO
     ·conv=>rhs;whnf
      refine Zd _ Zgl fun x8 hx8=>?_;conv=>rhs;whnf
      exact Zb rfl
    ·refine Zc rfl ?_ ?_<;>conv=>rhs;whnf
     ·refine Zh (Za8 rfl hx0) ?_;conv=>rhs;whnf
      refine Zh (Zs rfl hx0) ?_;conv=>rhs;whnf
      refine Zc rfl ?_ ?_
      ·exact ZO
      ·conv=>rhs;whnf
       refine Zd _ Zgl fun x9 hx9=>?_;conv=>rhs;whnf
       exact Zb rfl
     ·exact Zb rfl
def Zi4 (t0:Bool) (t1:Bool) (t2:Bool) (b:List Int) (m0_0:List Int) (m0_1:List ZX) (m0_2:Int) (m1_0:List Int) (m2_0:List Int) (m3_0:List Zj) (m4_0:List Zp) (m5_0:List Int):(Int×Int×Int×(List Int)×(List Zj)×(List Zp)×(List Int))→V×Zm
  | r=>((.d (D.tup [(Ze r.1),(Ze r.2.1)])),[(.cells [(.sl 1 1),(.sl 2 1),(.sl 3 3),(.sl 4 6),(.sl 5 1),(.d (zL t1 m0_0)),(.d (D.list t2 (List.map ZW m0_1))),(.d (Ze r.2.2.1))]),(.arr 1 (List.map Ze r.2.2.2.1)),(.arr 1 (List.map Ze m2_0)),(.arr 3 (List.map Z4 r.2.2.2.2.1)),(.arr 6 (List.map Zaa r.2.2.2.2.2.1)),(.arr 1 (List.map Ze r.2.2.2.2.2.2))])
def ZhX (t0:Bool) (t1:Bool) (t2:Bool) (b:List Int) (m0_0:List Int) (m0_1:List ZX) (m2_0:List Int):((Int×Int×Int×(List Int)×(List Zj)×(List Zp)×(List Int))⊕(Int×Int×(List Int)×(List Zj)×(List Zp)×(List Int)))→Ex×List V×Zm
  | (.inl r)=>(.ret,[(.d (Ze 0)),(.d (Ze r.1)),(.d (Ze r.2.1))],[(.cells [(.sl 1 1),(.sl 2 1),(.sl 3 3),(.sl 4 6),(.sl 5 1),(.d (zL t1 m0_0)),(.d (D.list t2 (List.map ZW m0_1))),(.d (Ze r.2.2.1))]),(.arr 1 (List.map Ze r.2.2.2.1)),(.arr 1 (List.map Ze m2_0)),(.arr 3 (List.map Z4 r.2.2.2.2.1)),(.arr 6 (List.map Zaa r.2.2.2.2.2.1)),(.arr 1 (List.map Ze r.2.2.2.2.2.2))])
  | (.inr r)=>(.exit 0,[.bad,.bad,(.d (Ze r.1))],[(.cells [(.sl 1 1),(.sl 2 1),(.sl 3 3),(.sl 4 6),(.sl 5 1),(.d (zL t1 m0_0)),(.d (D.list t2 (List.map ZW m0_1))),(.d (Ze r.2.1))]),(.arr 1 (List.map Ze r.2.2.1)),(.arr 1 (List.map Ze m2_0)),(.arr 3 (List.map Z4 r.2.2.2.1)),(.arr 6 (List.map Zaa r.2.2.2.2.1)),(.arr 1 (List.map Ze r.2.2.2.2.2))])
theorem Zk1 {t0 t1 t2:Bool}{b:List Int}{m0_0:List Int}{m0_1:List ZX}{m2_0:List Int}:∀(s1:Int×(List Int)×Int×(List Int)×(List Zj)×(List Zp)×(List Int)) (r:((Int×Int×Int×(List Int)×(List Zj)×(List Zp)×(List Int))⊕(Int×Int×(List Int)×(List Zj)×(List Zp)×(List Int)))),lp (Zc3 b m0_0 m0_1 m2_0) s1=some r→lpW ctx 6 [0,1,6,7] [4,5,6] Zyq [(.ptr 0 0),(.d (zL t0 b)),(.d (Ze s1.1)),(.d (zL true s1.2.1))] [(.cells [(.sl 1 1),(.sl 2 1),(.sl 3 3),(.sl 4 6),(.sl 5 1),(.d (zL t1 m0_0)),(.d (D.list t2 (List.map ZW m0_1))),(.d (Ze s1.2.2.1))]),(.arr 1 (List.map Ze s1.2.2.2.1)),(.arr 1 (List.map Ze m2_0)),(.arr 3 (List.map Z4 s1.2.2.2.2.1)),(.arr 6 (List.map Zaa s1.2.2.2.2.2.1)),(.arr 1 (List.map Ze s1.2.2.2.2.2.2))]=some ((ZhX t0 t1 t2 b m0_0 m0_1 m2_0) r):=by
 refine Zbm (ZhX t0 t1 t2 b m0_0 m0_1 m2_0) ?_
 intro s1 rcl ih
 show ZE _ _ (lpW _ _ _ _ _ _ _)
 unfold Zc3
 rw[Zbn]
 conv=>rhs;whnf
 refine Zk (Zz _ _) ?_;conv=>rhs;whnf
 refine Zc rfl ?_ ?_<;>conv=>rhs;whnf
 ·refine Zi _ Zl5 rfl fun x2 hx2=>?_;conv=>rhs;whnf
  refine Zd _ ZmJ fun x3 hx3=>?_;conv=>rhs;whnf
  refine Zc rfl ?_ ?_<;>conv=>rhs;whnf
  ·exact Zb rfl
  ·refine Zi _ Zgg rfl fun x4 hx4=>?_;conv=>rhs;whnf
   exact Zf (ih _)
 ·exact Zb rfl
theorem Zl4 {t0 t1 t2:Bool}{b:List Int}{m0_0:List Int}{m0_1:List ZX}{m0_2:Int}{m1_0:List Int}{m2_0:List Int}{m3_0:List Zj}{m4_0:List Zp}{m5_0:List Int}:∀r,(Zfd b m0_0 m0_1 m1_0 m2_0 m3_0 m4_0 m5_0)=some r→evW ctx 46 [(.ptr 0 0),(.d (zL t0 b))] [(.cells [(.sl 1 1),(.sl 2 1),(.sl 3 3),(.sl 4 6),(.sl 5 1),(.d (zL t1 m0_0)),(.d (D.list t2 (List.map ZW m0_1))),(.d (Ze m0_2))]),(.arr 1 (List.map Ze m1_0)),(.arr 1 (List.map Ze m2_0)),(.arr 3 (List.map Z4 m3_0)),(.arr 6 (List.map Zaa m4_0)),(.arr 1 (List.map Ze m5_0))]=some ((Zi4 t0 t1 t2 b m0_0 m0_1 m0_2 m1_0 m2_0 m3_0 m4_0 m5_0) r):=by
 show ZE _ (fun r rhs=>rhs=some ((Zi4 t0 t1 t2 b m0_0 m0_1 m0_2 m1_0 m2_0 m3_0 m4_0 m5_0) r)) _
 unfold Zfd
 rw[ZcU ctx 46 ZCy _ _ rfl rfl]
 conv=>rhs;whnf
 refine Zi _ Zgg rfl fun x0 hx0=>?_;conv=>rhs;whnf
 refine Zd _ (Zk1 _) fun r5 hr5=>?_
 clear hr5
 rcases r5 with r5 | r5
 ·conv=>rhs;whnf
  exact Zb rfl
 ·conv=>rhs;whnf
  exact Zb rfl
def ZmO (r:(Zbu×Int×Int)):D:=(D.tup [(D.agg [(zL true r.1.crew.on),(zL true r.1.crew.left),(D.list true (List.map Z4 r.1.deques)),(D.list true (List.map Zaa r.1.takers)),(zL true r.1.from_)]),(Ze r.2.1),(Ze r.2.2)])
theorem Ze2 {t0 t1:Bool}{t2 t3:Bool}{t4 t5:Bool}{t6 t7:Bool}{a:ZD}{b:Zbu}{c:List Int}:∀r,(Zdm a b c)=some r→evD ctx 21 [(.d (D.agg [(zL t0 a.work),(D.list t1 (List.map ZW a.edges))])),(.d (D.agg [(zL t2 b.crew.on),(zL t3 b.crew.left),(D.list t4 (List.map Z4 b.deques)),(D.list t5 (List.map Zaa b.takers)),(zL t6 b.from_)])),(.d (zL t7 c))]=some (ZmO r):=by
 show ZE _ (fun r rhs=>rhs=some (ZmO r)) _
 unfold Zdm
 rw[ZaH ctx 21 ZCU _ rfl rfl]
 conv=>rhs;whnf
 refine Zi _ ZbL rfl fun x0 hx0=>?_;conv=>rhs;whnf
 refine Zc rfl ?_ ?_<;>conv=>rhs;whnf
 ·exact Zb rfl
 ·refine Zd _ ZmL fun x1 hx1=>?_;conv=>rhs;whnf
  refine Zd _ Zl4 fun x2 hx2=>?_;conv=>rhs;whnf
  refine Zc rfl ?_ ?_<;>conv=>rhs;whnf
  ·exact Zb rfl
  ·exact Zb rfl
def ZoP (t0:Bool) (t1:Bool) (a:Zar):Unit→V×Zm
  | r=>((.agg [(.sl 0 1),(.sl 1 1)]),[(.arr 1 (List.map Ze a.on)),(.arr 1 (List.map Ze a.left))])
theorem ZrH {t0 t1:Bool}{a:Zar}:∀r,(Zlf a)=some r→evW ctx 148 [(.d (D.agg [(zL t0 a.on),(zL t1 a.left)]))] []=some ((ZoP t0 t1 a) r):=by
 show ZE _ (fun r rhs=>rhs=some ((ZoP t0 t1 a) r)) _
 unfold Zlf
 rw[ZcU ctx 148 ZzU _ _ rfl rfl]
 conv=>rhs;whnf
 refine Zd _ Zaw fun x0 hx0=>?_;conv=>rhs;whnf
 refine Zd _ Zaw fun x1 hx1=>?_;conv=>rhs;whnf
 exact Zb rfl
def Zi7 (r:Int):D:=(Ze r)
theorem Zmm {a:Int}:∀r,(Zh0 a)=some r→evD ctx 203 [(.d (D.int .u64 a))]=some (Zi7 r):=by
 show ZE _ (fun r rhs=>rhs=some (Zi7 r)) _
 unfold Zh0
 rw[ZaH ctx 203 ZAh _ rfl rfl]
 conv=>rhs;whnf
 refine Zc rfl ?_ ?_<;>conv=>rhs;whnf
 ·refine Zau rfl ?_;conv=>rhs;whnf
  refine Zc rfl ?_ ?_<;>conv=>rhs;whnf
  ·refine Zau rfl ?_;conv=>rhs;whnf
   refine Zc rfl ?_ ?_<;>conv=>rhs;whnf
   ·refine Zau rfl ?_;conv=>rhs;whnf
    refine Zc rfl ?_ ?_
    ·conv=>rhs;whnf
     refine Zit rfl fun x0 hx0=>?_;conv=>rhs;whnf
     exact Zb rfl
    ·exact ZO
   ·refine Zc rfl ?_ ?_
    ·conv=>rhs;whnf
     refine Zit rfl fun x1 hx1=>?_;conv=>rhs;whnf
     exact Zb rfl
    ·exact ZO
  ·refine Zc rfl ?_ ?_<;>conv=>rhs;whnf
   ·refine Zau rfl ?_;conv=>rhs;whnf
    refine Zc rfl ?_ ?_
    ·conv=>rhs;whnf
     refine Zit rfl fun x2 hx2=>?_;conv=>rhs;whnf
     exact Zb rfl
    ·exact ZO
   ·refine Zc rfl ?_ ?_
    ·conv=>rhs;whnf
     refine Zit rfl fun x3 hx3=>?_;conv=>rhs;whnf
     exact Zb rfl
    ·exact ZO
 ·refine Zc rfl ?_ ?_<;>conv=>rhs;whnf
  ·refine Zau rfl ?_;conv=>rhs;whnf
   refine Zc rfl ?_ ?_<;>conv=>rhs;whnf
   ·refine Zau rfl ?_;conv=>rhs;whnf
    refine Zc rfl ?_ ?_
    ·conv=>rhs;whnf
     refine Zit rfl fun x4 hx4=>?_;conv=>rhs;whnf
     exact Zb rfl
    ·exact ZO
   ·refine Zc rfl ?_ ?_
    ·conv=>rhs;whnf
     refine Zit rfl fun x5 hx5=>?_;conv=>rhs;whnf
     exact Zb rfl
    ·exact ZO
  ·refine Zc rfl ?_ ?_<;>conv=>rhs;whnf
   ·refine Zau rfl ?_;conv=>rhs;whnf
    refine Zc rfl ?_ ?_
    ·conv=>rhs;whnf
     refine Zit rfl fun x6 hx6=>?_;conv=>rhs;whnf
     exact Zb rfl
    ·exact ZO
   ·refine Zc rfl ?_ ?_
    ·conv=>rhs;whnf
     refine Zit rfl fun x7 hx7=>?_;conv=>rhs;whnf
     exact Zb rfl
    ·exact ZO
def Zj5 (r:Int):D:=(Ze r)
theorem ZjQ {a:Int}:∀r,(Zd7 a)=some r→evD ctx 179 [(.d (D.int .u64 a))]=some (Zj5 r):=by
 show ZE _ (fun r rhs=>rhs=some (Zj5 r)) _
 unfold Zd7
 rw[ZaH ctx 179 ZAf _ rfl rfl]
 conv=>rhs;whnf
 refine Zi _ Zmm rfl fun x0 hx0=>?_;conv=>rhs;whnf
 exact Zb rfl
def Zj7 (r:Bool):D:=(D.bool r)
theorem ZjG {a:Int}:∀r,(Zf8 a)=some r→evD ctx 217 [(.d (Ze a))]=some (Zj7 r):=by
 show ZE _ (fun r rhs=>rhs=some (Zj7 r)) _
 unfold Zf8
 rw[ZaH ctx 217 ZxL _ rfl rfl]
 conv=>rhs;whnf
 refine Zc rfl ?_ ?_<;>conv=>rhs;whnf
 ·exact Zb rfl
 ·exact Zb rfl
def ZkL (r:Bool):D:=(D.bool r)
theorem ZJ {a b:Int}:∀r,(ZR a b)=some r→evD ctx 199 [(.d (Ze a)),(.d (Ze b))]=some (ZkL r):=by
 show ZE _ (fun r rhs=>rhs=some (ZkL r)) _
 unfold ZR
 rw[ZaH ctx 199 ZyW _ rfl rfl]
 conv=>rhs;whnf
 refine Zi _ ZjG rfl fun x0 hx0=>?_;conv=>rhs;whnf
 refine Zc rfl ?_ ?_<;>conv=>rhs;whnf
 ·refine Zi _ ZjG rfl fun x1 hx1=>?_;conv=>rhs;whnf
  refine Zc rfl ?_ ?_<;>conv=>rhs;whnf
  ·refine Zc rfl ?_ ?_<;>conv=>rhs;whnf
   ·exact Zb rfl
   ·exact Zb rfl
  ·exact Zb rfl
 ·refine Zc rfl ?_ ?_<;>conv=>rhs;whnf
  ·exact Zb rfl
  ·exact Zb rfl
def Zep (b:Int) (c:Int) (m0_0:List Int):(List Int)→V×Zm
  | r=>((.d (D.tup [])),[(.arr 1 (List.map Ze r))])
def ZdT (b:Int) (c:Int) (s0:Int×(List Int)):(List Int)→Ex×List V×Zm
  | r=>(.exit 2,[(.sl 0 1),(.d (Ze b)),(.d (Ze c)),(.d (Ze s0.1))],[(.arr 1 (List.map Ze r))])
theorem Zgw {b c:Int}{s0:Int×(List Int)}:∀(s1:Int×(List Int)) (r:List Int),lp (Za6 b) s1=some r→lpW ctx 1 [0,1,2,6,7] [0,1,2,6] Zvw [(.sl 0 1),(.d (Ze b)),(.d (Ze c)),(.d (Ze s0.1)),(.d (Ze s1.1))] [(.arr 1 (List.map Ze s1.2))]=some ((ZdT b c s0) r):=by
 refine Zbm (ZdT b c s0) ?_
 intro s1 rcl ih
 show ZE _ _ (lpW _ _ _ _ _ _ _)
 unfold Za6
 rw[Zbn]
 conv=>rhs;whnf
 refine Zc rfl ?_ ?_<;>conv=>rhs;whnf
 ·refine Zn rfl rfl fun x2 hx2=>?_;conv=>rhs;whnf
  refine Zh (Zs rfl hx2) ?_;conv=>rhs;whnf
  refine Zn rfl rfl fun x3 hx3=>?_;conv=>rhs;whnf
  refine Zh (Zs rfl hx3) ?_;conv=>rhs;whnf
  refine Zi _ ZJ rfl fun x4 hx4=>?_;conv=>rhs;whnf
  refine Zc rfl ?_ ?_<;>conv=>rhs;whnf
  ·refine Zh (Za8 rfl hx3) ?_;conv=>rhs;whnf
   refine Zh (Zs rfl hx3) ?_;conv=>rhs;whnf
   refine Zh (Za8 rfl hx2) ?_;conv=>rhs;whnf
   refine Zh (Zs rfl hx2) ?_;conv=>rhs;whnf
   refine Zh (Za8 rfl hx2) ?_;conv=>rhs;whnf
   refine Zh (Zs rfl hx2) ?_;conv=>rhs;whnf
   refine Zk (Zan Ze s1.2 s1.1.toNat x3) ?_;conv=>rhs;whnf
   refine Zn rfl rfl fun x5 hx5=>?_;conv=>rhs;whnf
   refine Zh (Zs rfl hx5) ?_;conv=>rhs;whnf
   refine Zk (Zan Ze (List.set s1.2 s1.1.toNat x3) (w64 (s1.1-1)).toNat x2) ?_;conv=>rhs;whnf
   exact Zf (ih _)
  ·exact Zb rfl
 ·exact Zb rfl
def ZdR (b:Int) (c:Int):(List Int)→Ex×List V×Zm
  | r=>(.exit 0,[],[(.arr 1 (List.map Ze r))])
theorem Zgy {b c:Int}:∀(s0:Int×(List Int)) (r:List Int),lp (Za5 b c) s0=some r→lpW ctx 1 [0,1,2,6] [] Zvx [(.sl 0 1),(.d (Ze b)),(.d (Ze c)),(.d (Ze s0.1))] [(.arr 1 (List.map Ze s0.2))]=some ((ZdR b c) r):=by
 refine Zbm (ZdR b c) ?_
 intro s0 rcl ih
 show ZE _ _ (lpW _ _ _ _ _ _ _)
 unfold Za5
 rw[Zbn]
 conv=>rhs;whnf
 refine Zc rfl ?_ ?_<;>conv=>rhs;whnf
 ·refine Zd _ (Zgw _) fun r6 hr6=>?_;conv=>rhs;whnf
  exact Zf (ih _)
 ·exact Zb rfl
theorem ZbK {b c:Int}{m0_0:List Int}:∀r,(Zah b c m0_0)=some r→evW ctx 193 [(.sl 0 1),(.d (Ze b)),(.d (Ze c))] [(.arr 1 (List.map Ze m0_0))]=some ((Zep b c m0_0) r):=by
 show ZE _ (fun r rhs=>rhs=some ((Zep b c m0_0) r)) _
 unfold Zah
 rw[ZcU ctx 193 Zyo _ _ rfl rfl]
 conv=>rhs;whnf
 refine Zd _ (Zgy _) fun r7 hr7=>?_;conv=>rhs;whnf
 exact Zb rfl
def ZfK (b:Int) (c:Int) (d:Int) (m0_0:List Int):(List Int)→V×Zm
  | r=>((.d (D.tup [])),[(.arr 1 (List.map Ze r))])
def ZeU (c:Int) (d:Int):((List Int)⊕(List Int))→Ex×List V×Zm
  | (.inl r)=>(.exit 0,[],[(.arr 1 (List.map Ze r))])
  | (.inr r)=>(.ret,[],[(.arr 1 (List.map Ze r))])
theorem Zhp {c d:Int}:∀(s0:Int×(List Int)) (r:((List Int)⊕(List Int))),lp (ZbI c d) s0=some r→lpW ctx 1 [0,2,3,8] [] Zwi [(.sl 0 1),(.d (Ze c)),(.d (Ze d)),(.d (Ze s0.1))] [(.arr 1 (List.map Ze s0.2))]=some ((ZeU c d) r):=by
 refine Zbm (ZeU c d) ?_
 intro s0 rcl ih
 show ZE _ _ (lpW _ _ _ _ _ _ _)
 unfold ZbI
 rw[Zbn]
 conv=>rhs;whnf
 refine Zc rfl ?_ ?_<;>conv=>rhs;whnf
 ·exact Zb rfl
 ·refine Zc rfl ?_ ?_<;>conv=>rhs;whnf
  ·refine Zn rfl rfl fun x1 hx1=>?_;conv=>rhs;whnf
   refine Zh (Zs rfl hx1) ?_;conv=>rhs;whnf
   refine Zn rfl rfl fun x2 hx2=>?_;conv=>rhs;whnf
   refine Zh (Zs rfl hx2) ?_;conv=>rhs;whnf
   refine Zi _ ZJ rfl fun x3 hx3=>?_;conv=>rhs;whnf
   refine Zc rfl ?_ ?_<;>conv=>rhs;whnf
   ·refine Zn rfl rfl fun x4 hx4=>?_;conv=>rhs;whnf
    refine Zh (Zs rfl hx4) ?_;conv=>rhs;whnf
    refine Zn rfl rfl fun x5 hx5=>?_;conv=>rhs;whnf
    refine Zh (Zs rfl hx5) ?_;conv=>rhs;whnf
    refine Zi _ ZJ rfl fun x6 hx6=>?_;conv=>rhs;whnf
    refine Zc rfl ?_ ?_<;>conv=>rhs;whnf
    ·refine Zh (Za8 rfl hx5) ?_;conv=>rhs;whnf
     refine Zh (Zs rfl hx5) ?_;conv=>rhs;whnf
     refine Zh (Za8 rfl hx4) ?_;conv=>rhs;whnf
     refine Zh (Zs rfl hx4) ?_;conv=>rhs;whnf
     refine Zh (Za8 rfl hx4) ?_;conv=>rhs;whnf
     refine Zh (Zs rfl hx4) ?_;conv=>rhs;whnf
     refine Zk (Zan Ze s0.2 (w64 (d+s0.1)).toNat x5) ?_;conv=>rhs;whnf
     refine Zn rfl rfl fun x7 hx7=>?_;conv=>rhs;whnf
     refine Zh (Zs rfl hx7) ?_;conv=>rhs;whnf
     refine Zk (Zan Ze (List.set s0.2 (w64 (d+s0.1)).toNat x5) (w64 (d+(w64 ((w64 ((w64 (2*s0.1))+1))+1)))).toNat x4) ?_;conv=>rhs;whnf
     exact Zf (ih _)
    ·exact Zb rfl
   ·refine Zn rfl rfl fun x8 hx8=>?_;conv=>rhs;whnf
    refine Zh (Zs rfl hx8) ?_;conv=>rhs;whnf
    refine Zh (Za8 rfl hx1) ?_;conv=>rhs;whnf
    refine Zh (Zs rfl hx1) ?_;conv=>rhs;whnf
    refine Zi _ ZJ rfl fun x9 hx9=>?_;conv=>rhs;whnf
    refine Zc rfl ?_ ?_<;>conv=>rhs;whnf
    ·refine Zh (Za8 rfl hx1) ?_;conv=>rhs;whnf
     refine Zh (Zs rfl hx1) ?_;conv=>rhs;whnf
     refine Zh (Za8 rfl hx8) ?_;conv=>rhs;whnf
     refine Zh (Zs rfl hx8) ?_;conv=>rhs;whnf
     refine Zh (Za8 rfl hx8) ?_;conv=>rhs;whnf
     refine Zh (Zs rfl hx8) ?_;conv=>rhs;whnf
     refine Zk (Zan Ze s0.2 (w64 (d+s0.1)).toNat x1) ?_;conv=>rhs;whnf
     refine Zn rfl rfl fun x10 hx10=>?_;conv=>rhs;whnf
     refine Zh (Zs rfl hx10) ?_;conv=>rhs;whnf
     refine Zk (Zan Ze (List.set s0.2 (w64 (d+s0.1)).toNat x1) (w64 (d+(w64 ((w64 (2*s0.1))+1)))).toNat x8) ?_;conv=>rhs;whnf
     exact Zf (ih _)
    ·exact Zb rfl
  ·refine Zn rfl rfl fun x11 hx11=>?_;conv=>rhs;whnf
   refine Zh (Zs rfl hx11) ?_;conv=>rhs;whnf
   refine Zn rfl rfl fun x12 hx12=>?_;conv=>rhs;whnf
   refine Zh (Zs rfl hx12) ?_;conv=>rhs;whnf
   refine Zi _ ZJ rfl fun x13 hx13=>?_;conv=>rhs;whnf
   refine Zc rfl ?_ ?_<;>conv=>rhs;whnf
   ·refine Zh (Za8 rfl hx12) ?_;conv=>rhs;whnf
    refine Zh (Zs rfl hx12) ?_;conv=>rhs;whnf
    refine Zh (Za8 rfl hx11) ?_;conv=>rhs;whnf
    refine Zh (Zs rfl hx11) ?_;conv=>rhs;whnf
    refine Zh (Za8 rfl hx11) ?_;conv=>rhs;whnf
    refine Zh (Zs rfl hx11) ?_;conv=>rhs;whnf
    refine Zk (Zan Ze s0.2 (w64 (d+s0.1)).toNat x12) ?_;conv=>rhs;whnf
    refine Zn rfl rfl fun x14 hx14=>?_;conv=>rhs;whnf
    refine Zh (Zs rfl hx14) ?_;conv=>rhs;whnf
    refine Zk (Zan Ze (List.set s0.2 (w64 (d+s0.1)).toNat x12) (w64 (d+(w64 ((w64 (2*s0.1))+1)))).toNat x11) ?_;conv=>rhs;whnf
    exact Zf (ih _)
   ·exact Zb rfl
theorem Zfz {b c d:Int}{m0_0:List Int}:∀r,(Zbv b c d m0_0)=some r→evW ctx 212 [(.sl 0 1),(.d (Ze b)),(.d (Ze c)),(.d (Ze d))] [(.arr 1 (List.map Ze m0_0))]=some ((ZfK b c d m0_0) r):=by
 show ZE _ (fun r rhs=>rhs=some ((ZfK b c d m0_0) r)) _
 unfold Zbv
 rw[ZcU ctx 212 ZzD _ _ rfl rfl]
 conv=>rhs;whnf
 refine Zd _ (Zhp _) fun r15 hr15=>?_
 clear hr15
 rcases r15 with r15 | r15
 ·conv=>rhs;whnf
  exact Zb rfl
 ·conv=>rhs;whnf
  exact Zb rfl
def ZfV (b:Int) (c:Int) (m0_0:List Int):(List Int)→V×Zm
  | r=>((.d (D.tup [])),[(.arr 1 (List.map Ze r))])
def ZeW (b:Int) (c:Int):(List Int)→Ex×List V×Zm
  | r=>(.exit 0,[(.sl 0 1),(.d (Ze b)),(.d (Ze 0)),(.d (Ze (w64 (c-b))))],[(.arr 1 (List.map Ze r))])
theorem Zhu {b c:Int}:∀(s0:Int×(List Int)) (r:List Int),lp (ZbG b c) s0=some r→lpW ctx 1 [0,6,7,8,9] [0,6,7,8] Zwg [(.sl 0 1),(.d (Ze b)),(.d (Ze 0)),(.d (Ze (w64 (c-b)))),(.d (Ze s0.1))] [(.arr 1 (List.map Ze s0.2))]=some ((ZeW b c) r):=by
 refine Zbm (ZeW b c) ?_
 intro s0 rcl ih
 show ZE _ _ (lpW _ _ _ _ _ _ _)
 unfold ZbG
 rw[Zbn]
 conv=>rhs;whnf
 refine Zc rfl ?_ ?_<;>conv=>rhs;whnf
 ·refine Zd _ Zfz fun x1 hx1=>?_;conv=>rhs;whnf
  exact Zf (ih _)
 ·exact Zb rfl
def ZeX (b:Int):(List Int)→Ex×List V×Zm
  | r=>(.exit 2,[],[(.arr 1 (List.map Ze r))])
theorem Zht {b:Int}:∀(s3:Int×(List Int)) (r:List Int),lp (ZbH b) s3=some r→lpW ctx 1 [0,6,7,10] [] Zv4 [(.sl 0 1),(.d (Ze b)),(.d (Ze 0)),(.d (Ze s3.1))] [(.arr 1 (List.map Ze s3.2))]=some ((ZeX b) r):=by
 refine Zbm (ZeX b) ?_
 intro s3 rcl ih
 show ZE _ _ (lpW _ _ _ _ _ _ _)
 unfold ZbH
 rw[Zbn]
 conv=>rhs;whnf
 refine Zc rfl ?_ ?_<;>conv=>rhs;whnf
 ·refine Zn rfl rfl fun x4 hx4=>?_;conv=>rhs;whnf
  refine Zh (Zs rfl hx4) ?_;conv=>rhs;whnf
  refine Zn rfl rfl fun x5 hx5=>?_;conv=>rhs;whnf
  refine Zh (Zs rfl hx5) ?_;conv=>rhs;whnf
  refine Zh (Za8 rfl hx5) ?_;conv=>rhs;whnf
  refine Zh (Zs rfl hx5) ?_;conv=>rhs;whnf
  refine Zk (Zan Ze s3.2 b.toNat x4) ?_;conv=>rhs;whnf
  refine Zn rfl rfl fun x6 hx6=>?_;conv=>rhs;whnf
  refine Zh (Zs rfl hx6) ?_;conv=>rhs;whnf
  refine Zk (Zan Ze (List.set s3.2 b.toNat x4) (w64 (b+s3.1)).toNat x5) ?_;conv=>rhs;whnf
  refine Zd _ Zfz fun x7 hx7=>?_;conv=>rhs;whnf
  exact Zf (ih _)
 ·exact Zb rfl
theorem Zch {b c:Int}{m0_0:List Int}:∀r,(ZaK b c m0_0)=some r→evW ctx 194 [(.sl 0 1),(.d (Ze b)),(.d (Ze c))] [(.arr 1 (List.map Ze m0_0))]=some ((ZfV b c m0_0) r):=by
 show ZE _ (fun r rhs=>rhs=some ((ZfV b c m0_0) r)) _
 unfold ZaK
 rw[ZcU ctx 194 Zx7 _ _ rfl rfl]
 conv=>rhs;whnf
 refine Zau rfl ?_;conv=>rhs;whnf
 refine Zd _ (Zhu _) fun r2 hr2=>?_;conv=>rhs;whnf
 refine Zd _ (Zht _) fun r8 hr8=>?_;conv=>rhs;whnf
 exact Zb rfl
def Zf7 (b:Int) (c:Int) (m0_0:List Int) (m1_0:Int):(Int×Int×Int)→V×Zm
  | r=>((.d (D.tup [(Ze r.1),(Ze r.2.1)])),[(.arr 1 (List.map Ze m0_0)),(.cells [(.d (Ze r.2.2))])])
theorem ZdP {b c:Int}{m0_0:List Int}{m1_0:Int}:∀r,(Zbo b c m0_0 m1_0)=some r→evW ctx 221 [(.sl 0 1),(.d (Ze b)),(.d (Ze c)),(.ptr 1 0)] [(.arr 1 (List.map Ze m0_0)),(.cells [(.d (Ze m1_0))])]=some ((Zf7 b c m0_0 m1_0) r):=by
 show ZE _ (fun r rhs=>rhs=some ((Zf7 b c m0_0 m1_0) r)) _
 unfold Zbo
 rw[ZcU ctx 221 ZyS _ _ rfl rfl]
 conv=>rhs;whnf
 refine Zn rfl rfl fun x0 hx0=>?_;conv=>rhs;whnf
 refine Zh (Zs rfl hx0) ?_;conv=>rhs;whnf
 refine Zn rfl rfl fun x1 hx1=>?_;conv=>rhs;whnf
 refine Zh (Zs rfl hx1) ?_;conv=>rhs;whnf
 refine Zi _ ZJ rfl fun x2 hx2=>?_;conv=>rhs;whnf
 refine Zc rfl ?_ ?_<;>conv=>rhs;whnf
 ·exact Zb rfl
 ·exact Zb rfl
def Zga (b:Int) (c:Int) (d:Int) (m0_0:List Int) (m1_0:Int):(Int×Int)→V×Zm
  | r=>((.d (Ze r.1)),[(.arr 1 (List.map Ze m0_0)),(.cells [(.d (Ze r.2))])])
theorem ZdV {b c d:Int}{m0_0:List Int}{m1_0:Int}:∀r,(Zbq b c d m0_0 m1_0)=some r→evW ctx 216 [(.sl 0 1),(.d (Ze b)),(.d (Ze c)),(.d (Ze d)),(.ptr 1 0)] [(.arr 1 (List.map Ze m0_0)),(.cells [(.d (Ze m1_0))])]=some ((Zga b c d m0_0 m1_0) r):=by
 show ZE _ (fun r rhs=>rhs=some ((Zga b c d m0_0 m1_0) r)) _
 unfold Zbq
 rw[ZcU ctx 216 Zyf _ _ rfl rfl]
 conv=>rhs;whnf
 refine Zd _ ZdP fun x0 hx0=>?_;conv=>rhs;whnf
 refine Zd _ ZdP fun x1 hx1=>?_;conv=>rhs;whnf
 refine Zd _ ZdP fun x2 hx2=>?_;conv=>rhs;whnf
 exact Zb rfl
def Zd9 (b:Int) (m0_0:List Int) (m1_0:Int):(Int×Int)→V×Zm
  | r=>((.d (Ze r.1)),[(.arr 1 (List.map Ze m0_0)),(.cells [(.d (Ze r.2))])])
theorem Zcw {b:Int}{m0_0:List Int}{m1_0:Int}:∀r,(Zat b m0_0 m1_0)=some r→evW ctx 215 [(.sl 0 1),(.d (Ze b)),(.ptr 1 0)] [(.arr 1 (List.map Ze m0_0)),(.cells [(.d (Ze m1_0))])]=some ((Zd9 b m0_0 m1_0) r):=by
 show ZE _ (fun r rhs=>rhs=some ((Zd9 b m0_0 m1_0) r)) _
 unfold Zat
 rw[ZcU ctx 215 ZyU _ _ rfl rfl]
 conv=>rhs;whnf
 refine Zd _ ZdV fun x0 hx0=>?_;conv=>rhs;whnf
 exact Zb rfl
def ZeV (b:Int) (c:Int) (m0_0:List Int):(Int×Int)→V×Zm
  | r=>((.d (D.tup [(Ze r.1),(Ze r.2)])),[(.arr 1 (List.map Ze m0_0))])
theorem Zb0 {b c:Int}{m0_0:List Int}:∀r,(Zap b c m0_0)=some r→evW ctx 196 [(.sl 0 1),(.d (Ze b)),(.d (Ze c))] [(.arr 1 (List.map Ze m0_0))]=some ((ZeV b c m0_0) r):=by
 show ZE _ (fun r rhs=>rhs=some ((ZeV b c m0_0) r)) _
 unfold Zap
 rw[ZcU ctx 196 ZyF _ _ rfl rfl]
 conv=>rhs;whnf
 refine Zau rfl ?_;conv=>rhs;whnf
 refine Zau rfl ?_;conv=>rhs;whnf
 refine Zau rfl ?_;conv=>rhs;whnf
 refine Zc rfl ?_ ?_<;>conv=>rhs;whnf
 ·refine Zc rfl ?_ ?_<;>conv=>rhs;whnf
  ·refine Zd _ Zcw fun x0 hx0=>?_;conv=>rhs;whnf
   refine Zd _ Zcw fun x1 hx1=>?_;conv=>rhs;whnf
   refine Zd _ Zcw fun x2 hx2=>?_;conv=>rhs;whnf
   refine Zd _ ZdV fun x3 hx3=>?_;conv=>rhs;whnf
   refine Zc rfl ?_ ?_<;>conv=>rhs;whnf
   ·exact Zb rfl
   ·refine Zc rfl ?_ ?_<;>conv=>rhs;whnf
    ·exact Zb rfl
    ·exact Zb rfl
  ·refine Zd _ ZdV fun x4 hx4=>?_;conv=>rhs;whnf
   refine Zc rfl ?_ ?_<;>conv=>rhs;whnf
   ·exact Zb rfl
   ·refine Zc rfl ?_ ?_<;>conv=>rhs;whnf
    ·exact Zb rfl
    ·exact Zb rfl
 ·refine ZbW rfl ?_;conv=>rhs;whnf
  exact Zb rfl
def ZeJ (b:Int) (c:Int) (m0_0:List Int):(List Int)→V×Zm
  | r=>((.d (D.tup [])),[(.arr 1 (List.map Ze r))])
def Zd0:(List Int)→Ex×List V×Zm
  | r=>(.exit 0,[],[(.arr 1 (List.map Ze r))])
theorem ZgG:∀(s0:Int×Int×(List Int)) (r:List Int),lp (Zbg) s0=some r→lpW ctx 1 [0,6,7] [] ZvC [(.sl 0 1),(.d (Ze s0.1)),(.d (Ze s0.2.1))] [(.arr 1 (List.map Ze s0.2.2))]=some (Zd0 r):=by
 refine Zbm Zd0 ?_
 intro s0 rcl ih
 show ZE _ _ (lpW _ _ _ _ _ _ _)
 unfold Zbg
 rw[Zbn]
 conv=>rhs;whnf
 refine Zc rfl ?_ ?_<;>conv=>rhs;whnf
 ·refine Zn rfl rfl fun x1 hx1=>?_;conv=>rhs;whnf
  refine Zh (Zs rfl hx1) ?_;conv=>rhs;whnf
  refine Zn rfl rfl fun x2 hx2=>?_;conv=>rhs;whnf
  refine Zh (Zs rfl hx2) ?_;conv=>rhs;whnf
  refine Zh (Za8 rfl hx2) ?_;conv=>rhs;whnf
  refine Zh (Zs rfl hx2) ?_;conv=>rhs;whnf
  refine Zk (Zan Ze s0.2.2 s0.1.toNat x1) ?_;conv=>rhs;whnf
  refine Zn rfl rfl fun x3 hx3=>?_;conv=>rhs;whnf
  refine Zh (Zs rfl hx3) ?_;conv=>rhs;whnf
  refine Zk (Zan Ze (List.set s0.2.2 s0.1.toNat x1) s0.2.1.toNat x2) ?_;conv=>rhs;whnf
  exact Zf (ih _)
 ·exact Zb rfl
theorem ZbR {b c:Int}{m0_0:List Int}:∀r,(Zak b c m0_0)=some r→evW ctx 197 [(.sl 0 1),(.d (Ze b)),(.d (Ze c))] [(.arr 1 (List.map Ze m0_0))]=some ((ZeJ b c m0_0) r):=by
 show ZE _ (fun r rhs=>rhs=some ((ZeJ b c m0_0) r)) _
 unfold Zak
 rw[ZcU ctx 197 ZyG _ _ rfl rfl]
 conv=>rhs;whnf
 refine Zd _ (ZgG _) fun r4 hr4=>?_;conv=>rhs;whnf
 exact Zb rfl
def Zdg (b:Int) (c:Int) (m0_0:List Int):((List Int)⊕(List Int))→V×Zm
  | (.inl r)=>((.d (D.bool true)),[(.arr 1 (List.map Ze r))])
  | (.inr r)=>((.d (D.bool false)),[(.arr 1 (List.map Ze r))])
def ZcW (b:Int) (c:Int) (s0:Int×Int×(List Int)):Int→Ex×List V×Zm
  | r=>(.exit 2,[(.sl 0 1),(.d (Ze b)),(.d (Ze c)),(.d (Ze r)),(.d (Ze s0.2.1))],[(.arr 1 (List.map Ze s0.2.2))])
theorem Zfw {b c:Int}{s0:Int×Int×(List Int)}:∀(s1:Int) (r:Int),lp (ZaD c s0) s1=some r→lpW ctx 1 [0,1,2,7,8] [0,1,2,7,8] Zwb [(.sl 0 1),(.d (Ze b)),(.d (Ze c)),(.d (Ze s1)),(.d (Ze s0.2.1))] [(.arr 1 (List.map Ze s0.2.2))]=some ((ZcW b c s0) r):=by
 refine Zbm (ZcW b c s0) ?_
 intro s1 rcl ih
 show ZE _ _ (lpW _ _ _ _ _ _ _)
 unfold ZaD
 rw[Zbn]
 conv=>rhs;whnf
 refine Zc rfl ?_ ?_<;>conv=>rhs;whnf
 ·refine Zn rfl rfl fun x2 hx2=>?_;conv=>rhs;whnf
  refine Zh (Zs rfl hx2) ?_;conv=>rhs;whnf
  refine Zn rfl rfl fun x3 hx3=>?_;conv=>rhs;whnf
  refine Zh (Zs rfl hx3) ?_;conv=>rhs;whnf
  refine Zi _ ZJ rfl fun x4 hx4=>?_;conv=>rhs;whnf
  refine Zc rfl ?_ ?_<;>conv=>rhs;whnf
  ·exact Zb rfl
  ·exact Zf (ih _)
 ·exact Zb rfl
def ZcV (b:Int) (c:Int) (s0:Int×Int×(List Int)) (r5:Int):(List Int)→Ex×List V×Zm
  | r=>(.exit 4,[(.sl 0 1),(.d (Ze b)),(.d (Ze c)),(.d (Ze r5)),(.d (Ze s0.2.1))],[(.arr 1 (List.map Ze r))])
theorem Zfy {b c:Int}{s0:Int×Int×(List Int)}{r5:Int}:∀(s9:Int×(List Int)) (r:List Int),lp (ZaA) s9=some r→lpW ctx 1 [0,1,2,7,8,9] [0,1,2,7,8] Zvt [(.sl 0 1),(.d (Ze b)),(.d (Ze c)),(.d (Ze r5)),(.d (Ze s0.2.1)),(.d (Ze s9.1))] [(.arr 1 (List.map Ze s9.2))]=some ((ZcV b c s0 r5) r):=by
 refine Zbm (ZcV b c s0 r5) ?_
 intro s9 rcl ih
 show ZE _ _ (lpW _ _ _ _ _ _ _)
 unfold ZaA
 rw[Zbn]
 conv=>rhs;whnf
 refine Zc rfl ?_ ?_<;>conv=>rhs;whnf
 ·refine Zn rfl rfl fun x10 hx10=>?_;conv=>rhs;whnf
  refine Zh (Zs rfl hx10) ?_;conv=>rhs;whnf
  refine Zn rfl rfl fun x11 hx11=>?_;conv=>rhs;whnf
  refine Zh (Zs rfl hx11) ?_;conv=>rhs;whnf
  refine Zi _ ZJ rfl fun x12 hx12=>?_;conv=>rhs;whnf
  refine Zc rfl ?_ ?_<;>conv=>rhs;whnf
  ·refine Zh (Za8 rfl hx11) ?_;conv=>rhs;whnf
   refine Zh (Zs rfl hx11) ?_;conv=>rhs;whnf
   refine Zh (Za8 rfl hx10) ?_;conv=>rhs;whnf
   refine Zh (Zs rfl hx10) ?_;conv=>rhs;whnf
   refine Zh (Za8 rfl hx10) ?_;conv=>rhs;whnf
   refine Zh (Zs rfl hx10) ?_;conv=>rhs;whnf
   refine Zk (Zan Ze s9.2 s9.1.toNat x11) ?_;conv=>rhs;whnf
   refine Zn rfl rfl fun x13 hx13=>?_;conv=>rhs;whnf
   refine Zh (Zs rfl hx13) ?_;conv=>rhs;whnf
   refine Zk (Zan Ze (List.set s9.2 s9.1.toNat x11) (w64 (s9.1-1)).toNat x10) ?_;conv=>rhs;whnf
   exact Zf (ih _)
  ·exact Zb rfl
 ·exact Zb rfl
def ZcQ (b:Int) (c:Int) (s0:Int×Int×(List Int)) (r5:Int):(List Int)→Ex×List V×Zm
  | r=>(.exit 6,[(.sl 0 1),(.d (Ze b)),(.d (Ze c)),(.d (Ze r5)),(.d (Ze s0.2.1))],[(.arr 1 (List.map Ze r))])
theorem ZcK {b c:Int}{s0:Int×Int×(List Int)}{r5:Int}:∀(s15:Int×(List Int)) (r:List Int),lp (Zab c) s15=some r→lpW ctx 1 [0,1,2,7,8,10] [0,1,2,7,8] Zwe [(.sl 0 1),(.d (Ze b)),(.d (Ze c)),(.d (Ze r5)),(.d (Ze s0.2.1)),(.d (Ze s15.1))] [(.arr 1 (List.map Ze s15.2))]=some ((ZcQ b c s0 r5) r):=by
 refine Zbm (ZcQ b c s0 r5) ?_
 intro s15 rcl ih
 show ZE _ _ (lpW _ _ _ _ _ _ _)
 unfold Zab
 rw[Zbn]
 conv=>rhs;whnf
 refine Zc rfl ?_ ?_<;>conv=>rhs;whnf
 ·refine Zn rfl rfl fun x16 hx16=>?_;conv=>rhs;whnf
  refine Zh (Zs rfl hx16) ?_;conv=>rhs;whnf
  refine Zn rfl rfl fun x17 hx17=>?_;conv=>rhs;whnf
  refine Zh (Zs rfl hx17) ?_;conv=>rhs;whnf
  refine Zi _ ZJ rfl fun x18 hx18=>?_;conv=>rhs;whnf
  refine Zc rfl ?_ ?_<;>conv=>rhs;whnf
  ·refine Zh (Za8 rfl hx17) ?_;conv=>rhs;whnf
   refine Zh (Zs rfl hx17) ?_;conv=>rhs;whnf
   refine Zh (Za8 rfl hx16) ?_;conv=>rhs;whnf
   refine Zh (Zs rfl hx16) ?_;conv=>rhs;whnf
   refine Zh (Za8 rfl hx16) ?_;conv=>rhs;whnf
   refine Zh (Zs rfl hx16) ?_;conv=>rhs;whnf
   refine Zk (Zan Ze s15.2 s15.1.toNat x17) ?_;conv=>rhs;whnf
   refine Zn rfl rfl fun x19 hx19=>?_;conv=>rhs;whnf
   refine Zh (Zs rfl hx19) ?_;conv=>rhs;whnf
   refine Zk (Zan Ze (List.set s15.2 s15.1.toNat x17) (w64 (s15.1-1)).toNat x16) ?_;conv=>rhs;whnf
   exact Zf (ih _)
  ·exact Zb rfl
 ·exact Zb rfl
def ZcR (b:Int) (c:Int):((List Int)⊕((List Int)⊕(List Int)))→Ex×List V×Zm
  | (.inl r)=>(.ret,[(.d (D.bool true))],[(.arr 1 (List.map Ze r))])
  | (.inr (.inl r))=>(.ret,[(.d (D.bool false))],[(.arr 1 (List.map Ze r))])
  | (.inr (.inr r))=>(.exit 0,[.bad],[(.arr 1 (List.map Ze r))])
theorem Zfn {b c:Int}:∀(s0:Int×Int×(List Int)) (r:((List Int)⊕((List Int)⊕(List Int)))),lp (ZaC b c) s0=some r→lpW ctx 1 [0,1,2,7,8] [6] ZvK [(.sl 0 1),(.d (Ze b)),(.d (Ze c)),(.d (Ze s0.1)),(.d (Ze s0.2.1))] [(.arr 1 (List.map Ze s0.2.2))]=some ((ZcR b c) r):=by
 refine Zbm (ZcR b c) ?_
 intro s0 rcl ih
 show ZE _ _ (lpW _ _ _ _ _ _ _)
 unfold ZaC
 rw[Zbn]
 conv=>rhs;whnf
 refine Zc rfl ?_ ?_<;>conv=>rhs;whnf
 ·refine Zd _ (Zfw _) fun r5 hr5=>?_;conv=>rhs;whnf
  refine Zc rfl ?_ ?_<;>conv=>rhs;whnf
  ·exact Zb rfl
  ·refine Zc rfl ?_ ?_<;>conv=>rhs;whnf
   ·exact Zb rfl
   ·refine Zn rfl rfl fun x6 hx6=>?_;conv=>rhs;whnf
    refine Zh (Zs rfl hx6) ?_;conv=>rhs;whnf
    refine Zn rfl rfl fun x7 hx7=>?_;conv=>rhs;whnf
    refine Zh (Zs rfl hx7) ?_;conv=>rhs;whnf
    refine Zh (Za8 rfl hx7) ?_;conv=>rhs;whnf
    refine Zh (Zs rfl hx7) ?_;conv=>rhs;whnf
    refine Zk (Zan Ze s0.2.2 r5.toNat x6) ?_;conv=>rhs;whnf
    refine Zn rfl rfl fun x8 hx8=>?_;conv=>rhs;whnf
    refine Zh (Zs rfl hx8) ?_;conv=>rhs;whnf
    refine Zk (Zan Ze (List.set s0.2.2 r5.toNat x6) (w64 (r5-1)).toNat x7) ?_;conv=>rhs;whnf
    refine Zc rfl ?_ ?_<;>conv=>rhs;whnf
    ·refine Zd _ (Zfy _) fun r14 hr14=>?_;conv=>rhs;whnf
     refine Zc rfl ?_ ?_<;>conv=>rhs;whnf
     ·refine Zd _ (ZcK _) fun r20 hr20=>?_;conv=>rhs;whnf
      exact Zf (ih _)
     ·exact Zf (ih _)
    ·refine Zc rfl ?_ ?_<;>conv=>rhs;whnf
     ·refine Zd _ (ZcK _) fun r26 hr26=>?_;conv=>rhs;whnf
      exact Zf (ih _)
     ·exact Zf (ih _)
 ·exact Zb rfl
theorem Zdb {b c:Int}{m0_0:List Int}:∀r,(Zam b c m0_0)=some r→evW ctx 198 [(.sl 0 1),(.d (Ze b)),(.d (Ze c))] [(.arr 1 (List.map Ze m0_0))]=some ((Zdg b c m0_0) r):=by
 show ZE _ (fun r rhs=>rhs=some ((Zdg b c m0_0) r)) _
 unfold Zam
 rw[ZcU ctx 198 ZAb _ _ rfl rfl]
 conv=>rhs;whnf
 refine Zd _ (Zfn _) fun r27 hr27=>?_
 clear hr27
 rcases r27 with r27 | (r27 | r27)
 ·conv=>rhs;whnf
  exact Zb rfl
 ·conv=>rhs;whnf
  exact Zb rfl
 ·conv=>rhs;whnf
  exact Zb rfl
def ZfB (b:Int) (c:Int) (d:Int) (m0_0:List Int):((Int×(List Int))⊕(Int×(List Int)))→V×Zm
  | (.inl r)=>((.d (D.tup [(Ze r.1),(D.bool true)])),[(.arr 1 (List.map Ze r.2))])
  | (.inr r)=>((.d (D.tup [(Ze r.1),(D.bool false)])),[(.arr 1 (List.map Ze r.2))])
def ZeG (b:Int) (c:Int) (d:Int) (m0_0:List Int) (x0:Int) (x1:Int):Int→Ex×List V×Zm
  | r=>(.exit 0,[(.sl 0 1),(.d (Ze b)),(.d (Ze r)),(.d (Ze (w64 (c-1))))],[(.arr 1 (List.map Ze (List.set (List.set m0_0 b.toNat x0) d.toNat x1)))])
theorem Zg7 {b c d:Int}{m0_0:List Int}{x0 x1:Int}:∀(s3:Int) (r:Int),lp (ZbC b c d m0_0 x0 x1) s3=some r→lpW ctx 1 [0,1,10,11] [0,1,10,11] Zvv [(.sl 0 1),(.d (Ze b)),(.d (Ze s3)),(.d (Ze (w64 (c-1))))] [(.arr 1 (List.map Ze (List.set (List.set m0_0 b.toNat x0) d.toNat x1)))]=some ((ZeG b c d m0_0 x0 x1) r):=by
 refine Zbm (ZeG b c d m0_0 x0 x1) ?_
 intro s3 rcl ih
 show ZE _ _ (lpW _ _ _ _ _ _ _)
 unfold ZbC
 rw[Zbn]
 conv=>rhs;whnf
 refine Zc rfl ?_ ?_<;>conv=>rhs;whnf
 ·refine Zn rfl rfl fun x4 hx4=>?_;conv=>rhs;whnf
  refine Zh (Zs rfl hx4) ?_;conv=>rhs;whnf
  refine Zn rfl rfl fun x5 hx5=>?_;conv=>rhs;whnf
  refine Zh (Zs rfl hx5) ?_;conv=>rhs;whnf
  refine Zi _ ZJ rfl fun x6 hx6=>?_;conv=>rhs;whnf
  refine Zc rfl ?_ ?_<;>conv=>rhs;whnf
  ·exact Zf (ih _)
  ·exact Zb rfl
 ·exact Zb rfl
def ZeH (b:Int) (d:Int) (m0_0:List Int) (x0:Int) (x1:Int) (r7:Int):Int→Ex×List V×Zm
  | r=>(.exit 2,[(.sl 0 1),(.d (Ze b)),(.d (Ze r7)),(.d (Ze r))],[(.arr 1 (List.map Ze (List.set (List.set m0_0 b.toNat x0) d.toNat x1)))])
theorem Zhg {b d:Int}{m0_0:List Int}{x0 x1 r7:Int}:∀(s8:Int) (r:Int),lp (Zbw b d m0_0 x0 x1 r7) s8=some r→lpW ctx 1 [0,1,10,11] [0,1,10,11] Zwc [(.sl 0 1),(.d (Ze b)),(.d (Ze r7)),(.d (Ze s8))] [(.arr 1 (List.map Ze (List.set (List.set m0_0 b.toNat x0) d.toNat x1)))]=some ((ZeH b d m0_0 x0 x1 r7) r):=by
 refine Zbm (ZeH b d m0_0 x0 x1 r7) ?_
 intro s8 rcl ih
 show ZE _ _ (lpW _ _ _ _ _ _ _)
 unfold Zbw
 rw[Zbn]
 conv=>rhs;whnf
 refine Zc rfl ?_ ?_<;>conv=>rhs;whnf
 ·refine Zn rfl rfl fun x9 hx9=>?_;conv=>rhs;whnf
  refine Zh (Zs rfl hx9) ?_;conv=>rhs;whnf
  refine Zn rfl rfl fun x10 hx10=>?_;conv=>rhs;whnf
  refine Zh (Zs rfl hx10) ?_;conv=>rhs;whnf
  refine Zi _ ZJ rfl fun x11 hx11=>?_;conv=>rhs;whnf
  refine Zc rfl ?_ ?_<;>conv=>rhs;whnf
  ·exact Zb rfl
  ·exact Zf (ih _)
 ·exact Zb rfl
def ZeE (b:Int) (s19:Int×Int×(List Int)):Int→Ex×List V×Zm
  | r=>(.exit 6,[(.sl 0 1),(.d (Ze b)),(.d (Ze r)),(.d (Ze s19.2.1))],[(.arr 1 (List.map Ze s19.2.2))])
theorem Zhd {b:Int}{s19:Int×Int×(List Int)}:∀(s20:Int) (r:Int),lp (Zby b s19) s20=some r→lpW ctx 1 [0,1,10,11] [0,1,10,11] Zv5 [(.sl 0 1),(.d (Ze b)),(.d (Ze s20)),(.d (Ze s19.2.1))] [(.arr 1 (List.map Ze s19.2.2))]=some ((ZeE b s19) r):=by
 refine Zbm (ZeE b s19) ?_
 intro s20 rcl ih
 show ZE _ _ (lpW _ _ _ _ _ _ _)
 unfold Zby
 rw[Zbn]
 conv=>rhs;whnf
 refine Zc rfl ?_ ?_<;>conv=>rhs;whnf
 ·refine Zn rfl rfl fun x21 hx21=>?_;conv=>rhs;whnf
  refine Zh (Zs rfl hx21) ?_;conv=>rhs;whnf
  refine Zn rfl rfl fun x22 hx22=>?_;conv=>rhs;whnf
  refine Zh (Zs rfl hx22) ?_;conv=>rhs;whnf
  refine Zi _ ZJ rfl fun x23 hx23=>?_;conv=>rhs;whnf
  refine Zc rfl ?_ ?_<;>conv=>rhs;whnf
  ·exact Zf (ih _)
  ·exact Zb rfl
 ·exact Zb rfl
def Zey (b:Int) (s19:Int×Int×(List Int)) (r24:Int):Int→Ex×List V×Zm
  | r=>(.exit 8,[(.sl 0 1),(.d (Ze b)),(.d (Ze r24)),(.d (Ze r))],[(.arr 1 (List.map Ze s19.2.2))])
theorem Zhf {b:Int}{s19:Int×Int×(List Int)}{r24:Int}:∀(s25:Int) (r:Int),lp (ZbA b s19 r24) s25=some r→lpW ctx 1 [0,1,10,11] [0,1,10,11] Zv6 [(.sl 0 1),(.d (Ze b)),(.d (Ze r24)),(.d (Ze s25))] [(.arr 1 (List.map Ze s19.2.2))]=some ((Zey b s19 r24) r):=by
 refine Zbm (Zey b s19 r24) ?_
 intro s25 rcl ih
 show ZE _ _ (lpW _ _ _ _ _ _ _)
 unfold ZbA
 rw[Zbn]
 conv=>rhs;whnf
 refine Zc rfl ?_ ?_<;>conv=>rhs;whnf
 ·refine Zn rfl rfl fun x26 hx26=>?_;conv=>rhs;whnf
  refine Zh (Zs rfl hx26) ?_;conv=>rhs;whnf
  refine Zn rfl rfl fun x27 hx27=>?_;conv=>rhs;whnf
  refine Zh (Zs rfl hx27) ?_;conv=>rhs;whnf
  refine Zi _ ZJ rfl fun x28 hx28=>?_;conv=>rhs;whnf
  refine Zc rfl ?_ ?_<;>conv=>rhs;whnf
  ·exact Zb rfl
  ·exact Zf (ih _)
 ·exact Zb rfl
def ZeF (b:Int):(Int×(List Int))→Ex×List V×Zm
  | r=>(.exit 4,[(.sl 0 1),(.d (Ze b)),(.d (Ze r.1))],[(.arr 1 (List.map Ze r.2))])
theorem Zhh {b:Int}:∀(s19:Int×Int×(List Int)) (r:(Int×(List Int))),lp (ZbB b) s19=some r→lpW ctx 1 [0,1,10,11] [0,1,11] Zwn [(.sl 0 1),(.d (Ze b)),(.d (Ze s19.1)),(.d (Ze s19.2.1))] [(.arr 1 (List.map Ze s19.2.2))]=some ((ZeF b) r):=by
 refine Zbm (ZeF b) ?_
 intro s19 rcl ih
 show ZE _ _ (lpW _ _ _ _ _ _ _)
 unfold ZbB
 rw[Zbn]
 conv=>rhs;whnf
 refine Zd _ (Zhd _) fun r24 hr24=>?_;conv=>rhs;whnf
 refine Zd _ (Zhf _) fun r29 hr29=>?_;conv=>rhs;whnf
 refine Zc rfl ?_ ?_<;>conv=>rhs;whnf
 ·exact Zb rfl
 ·refine Zn rfl rfl fun x30 hx30=>?_;conv=>rhs;whnf
  refine Zh (Zs rfl hx30) ?_;conv=>rhs;whnf
  refine Zn rfl rfl fun x31 hx31=>?_;conv=>rhs;whnf
  refine Zh (Zs rfl hx31) ?_;conv=>rhs;whnf
  refine Zh (Za8 rfl hx31) ?_;conv=>rhs;whnf
  refine Zh (Zs rfl hx31) ?_;conv=>rhs;whnf
  refine Zk (Zan Ze s19.2.2 r24.toNat x30) ?_;conv=>rhs;whnf
  refine Zn rfl rfl fun x32 hx32=>?_;conv=>rhs;whnf
  refine Zh (Zs rfl hx32) ?_;conv=>rhs;whnf
  refine Zk (Zan Ze (List.set s19.2.2 r24.toNat x30) r29.toNat x31) ?_;conv=>rhs;whnf
  exact Zf (ih _)
theorem Zu {b c d:Int}{m0_0:List Int}:∀r,(Zr b c d m0_0)=some r→evW ctx 201 [(.sl 0 1),(.d (Ze b)),(.d (Ze c)),(.d (Ze d))] [(.arr 1 (List.map Ze m0_0))]=some ((ZfB b c d m0_0) r):=by
 show ZE _ (fun r rhs=>rhs=some ((ZfB b c d m0_0) r)) _
 unfold Zr
 rw[ZcU ctx 201 Zzp _ _ rfl rfl]
 conv=>rhs;whnf
 refine Zn rfl rfl fun x0 hx0=>?_;conv=>rhs;whnf
 refine Zh (Zs rfl hx0) ?_;conv=>rhs;whnf
 refine Zn rfl rfl fun x1 hx1=>?_;conv=>rhs;whnf
 refine Zh (Zs rfl hx1) ?_;conv=>rhs;whnf
 refine Zh (Za8 rfl hx1) ?_;conv=>rhs;whnf
 refine Zh (Zs rfl hx1) ?_;conv=>rhs;whnf
 refine Zk (Zan Ze m0_0 b.toNat x0) ?_;conv=>rhs;whnf
 refine Zn rfl rfl fun x2 hx2=>?_;conv=>rhs;whnf
 refine Zh (Zs rfl hx2) ?_;conv=>rhs;whnf
 refine Zk (Zan Ze (List.set m0_0 b.toNat x0) d.toNat x1) ?_;conv=>rhs;whnf
 refine Zd _ (Zg7 _) fun r7 hr7=>?_;conv=>rhs;whnf
 refine Zd _ (Zhg _) fun r12 hr12=>?_;conv=>rhs;whnf
 refine Zc rfl ?_ ?_<;>conv=>rhs;whnf
 ·refine Zn rfl rfl fun x13 hx13=>?_;conv=>rhs;whnf
  refine Zh (Zs rfl hx13) ?_;conv=>rhs;whnf
  refine Zn rfl rfl fun x14 hx14=>?_;conv=>rhs;whnf
  refine Zh (Zs rfl hx14) ?_;conv=>rhs;whnf
  refine Zh (Za8 rfl hx14) ?_;conv=>rhs;whnf
  refine Zh (Zs rfl hx14) ?_;conv=>rhs;whnf
  refine Zk (Zan Ze (List.set (List.set m0_0 b.toNat x0) d.toNat x1) r12.toNat x13) ?_;conv=>rhs;whnf
  refine Zn rfl rfl fun x15 hx15=>?_;conv=>rhs;whnf
  refine Zh (Zs rfl hx15) ?_;conv=>rhs;whnf
  refine Zk (Zan Ze (List.set (List.set (List.set m0_0 b.toNat x0) d.toNat x1) r12.toNat x13) b.toNat x14) ?_;conv=>rhs;whnf
  exact Zb rfl
 ·refine Zn rfl rfl fun x16 hx16=>?_;conv=>rhs;whnf
  refine Zh (Zs rfl hx16) ?_;conv=>rhs;whnf
  refine Zn rfl rfl fun x17 hx17=>?_;conv=>rhs;whnf
  refine Zh (Zs rfl hx17) ?_;conv=>rhs;whnf
  refine Zh (Za8 rfl hx17) ?_;conv=>rhs;whnf
  refine Zh (Zs rfl hx17) ?_;conv=>rhs;whnf
  refine Zk (Zan Ze (List.set (List.set m0_0 b.toNat x0) d.toNat x1) r7.toNat x16) ?_;conv=>rhs;whnf
  refine Zn rfl rfl fun x18 hx18=>?_;conv=>rhs;whnf
  refine Zh (Zs rfl hx18) ?_;conv=>rhs;whnf
  refine Zk (Zan Ze (List.set (List.set (List.set m0_0 b.toNat x0) d.toNat x1) r7.toNat x16) r12.toNat x17) ?_;conv=>rhs;whnf
  refine Zd _ (Zhh _) fun r33 hr33=>?_;conv=>rhs;whnf
  refine Zn rfl rfl fun x34 hx34=>?_;conv=>rhs;whnf
  refine Zh (Zs rfl hx34) ?_;conv=>rhs;whnf
  refine Zn rfl rfl fun x35 hx35=>?_;conv=>rhs;whnf
  refine Zh (Zs rfl hx35) ?_;conv=>rhs;whnf
  refine Zh (Za8 rfl hx35) ?_;conv=>rhs;whnf
  refine Zh (Zs rfl hx35) ?_;conv=>rhs;whnf
  refine Zk (Zan Ze r33.2 r33.1.toNat x34) ?_;conv=>rhs;whnf
  refine Zn rfl rfl fun x36 hx36=>?_;conv=>rhs;whnf
  refine Zh (Zs rfl hx36) ?_;conv=>rhs;whnf
  refine Zk (Zan Ze (List.set r33.2 r33.1.toNat x34) b.toNat x35) ?_;conv=>rhs;whnf
  exact Zb rfl
def Zec (b:Int) (c:Int) (d:Int) (m0_0:List Int):(Int×(List Int))→V×Zm
  | r=>((.d (Ze r.1)),[(.arr 1 (List.map Ze r.2))])
def ZdF (b:Int) (s3:Int×Int×(List Int)):Int→Ex×List V×Zm
  | r=>(.exit 2,[(.sl 0 1),(.d (Ze b)),(.d (Ze r)),(.d (Ze s3.2.1))],[(.arr 1 (List.map Ze s3.2.2))])
theorem Zgi {b:Int}{s3:Int×Int×(List Int)}:∀(s4:Int) (r:Int),lp (ZaW b s3) s4=some r→lpW ctx 1 [0,1,9,10] [0,1,9,10] Zv3 [(.sl 0 1),(.d (Ze b)),(.d (Ze s4)),(.d (Ze s3.2.1))] [(.arr 1 (List.map Ze s3.2.2))]=some ((ZdF b s3) r):=by
 refine Zbm (ZdF b s3) ?_
 intro s4 rcl ih
 show ZE _ _ (lpW _ _ _ _ _ _ _)
 unfold ZaW
 rw[Zbn]
 conv=>rhs;whnf
 refine Zc rfl ?_ ?_<;>conv=>rhs;whnf
 ·refine Zn rfl rfl fun x5 hx5=>?_;conv=>rhs;whnf
  refine Zh (Zs rfl hx5) ?_;conv=>rhs;whnf
  refine Zn rfl rfl fun x6 hx6=>?_;conv=>rhs;whnf
  refine Zh (Zs rfl hx6) ?_;conv=>rhs;whnf
  refine Zi _ ZJ rfl fun x7 hx7=>?_;conv=>rhs;whnf
  refine Zc rfl ?_ ?_<;>conv=>rhs;whnf
  ·exact Zb rfl
  ·exact Zf (ih _)
 ·exact Zb rfl
def ZdE (b:Int) (s3:Int×Int×(List Int)) (r8:Int):Int→Ex×List V×Zm
  | r=>(.exit 4,[(.sl 0 1),(.d (Ze b)),(.d (Ze r8)),(.d (Ze r))],[(.arr 1 (List.map Ze s3.2.2))])
theorem Zgk {b:Int}{s3:Int×Int×(List Int)}{r8:Int}:∀(s9:Int) (r:Int),lp (ZaX b s3 r8) s9=some r→lpW ctx 1 [0,1,9,10] [0,1,9,10] Zwk [(.sl 0 1),(.d (Ze b)),(.d (Ze r8)),(.d (Ze s9))] [(.arr 1 (List.map Ze s3.2.2))]=some ((ZdE b s3 r8) r):=by
 refine Zbm (ZdE b s3 r8) ?_
 intro s9 rcl ih
 show ZE _ _ (lpW _ _ _ _ _ _ _)
 unfold ZaX
 rw[Zbn]
 conv=>rhs;whnf
 refine Zc rfl ?_ ?_<;>conv=>rhs;whnf
 ·refine Zn rfl rfl fun x10 hx10=>?_;conv=>rhs;whnf
  refine Zh (Zs rfl hx10) ?_;conv=>rhs;whnf
  refine Zn rfl rfl fun x11 hx11=>?_;conv=>rhs;whnf
  refine Zh (Zs rfl hx11) ?_;conv=>rhs;whnf
  refine Zi _ ZJ rfl fun x12 hx12=>?_;conv=>rhs;whnf
  refine Zc rfl ?_ ?_<;>conv=>rhs;whnf
  ·exact Zf (ih _)
  ·exact Zb rfl
 ·exact Zb rfl
def ZdG (b:Int):(Int×(List Int))→Ex×List V×Zm
  | r=>(.exit 0,[(.d (Ze r.1))],[(.arr 1 (List.map Ze r.2))])
theorem Zgh {b:Int}:∀(s3:Int×Int×(List Int)) (r:(Int×(List Int))),lp (ZaY b) s3=some r→lpW ctx 1 [0,1,9,10] [9] Zv8 [(.sl 0 1),(.d (Ze b)),(.d (Ze s3.1)),(.d (Ze s3.2.1))] [(.arr 1 (List.map Ze s3.2.2))]=some ((ZdG b) r):=by
 refine Zbm (ZdG b) ?_
 intro s3 rcl ih
 show ZE _ _ (lpW _ _ _ _ _ _ _)
 unfold ZaY
 rw[Zbn]
 conv=>rhs;whnf
 refine Zd _ (Zgi _) fun r8 hr8=>?_;conv=>rhs;whnf
 refine Zd _ (Zgk _) fun r13 hr13=>?_;conv=>rhs;whnf
 refine Zc rfl ?_ ?_<;>conv=>rhs;whnf
 ·exact Zb rfl
 ·refine Zn rfl rfl fun x14 hx14=>?_;conv=>rhs;whnf
  refine Zh (Zs rfl hx14) ?_;conv=>rhs;whnf
  refine Zn rfl rfl fun x15 hx15=>?_;conv=>rhs;whnf
  refine Zh (Zs rfl hx15) ?_;conv=>rhs;whnf
  refine Zh (Za8 rfl hx15) ?_;conv=>rhs;whnf
  refine Zh (Zs rfl hx15) ?_;conv=>rhs;whnf
  refine Zk (Zan Ze s3.2.2 r8.toNat x14) ?_;conv=>rhs;whnf
  refine Zn rfl rfl fun x16 hx16=>?_;conv=>rhs;whnf
  refine Zh (Zs rfl hx16) ?_;conv=>rhs;whnf
  refine Zk (Zan Ze (List.set s3.2.2 r8.toNat x14) r13.toNat x15) ?_;conv=>rhs;whnf
  exact Zf (ih _)
theorem ZP {b c d:Int}{m0_0:List Int}:∀r,(ZB b c d m0_0)=some r→evW ctx 200 [(.sl 0 1),(.d (Ze b)),(.d (Ze c)),(.d (Ze d))] [(.arr 1 (List.map Ze m0_0))]=some ((Zec b c d m0_0) r):=by
 show ZE _ (fun r rhs=>rhs=some ((Zec b c d m0_0) r)) _
 unfold ZB
 rw[ZcU ctx 200 ZzO _ _ rfl rfl]
 conv=>rhs;whnf
 refine Zn rfl rfl fun x0 hx0=>?_;conv=>rhs;whnf
 refine Zh (Zs rfl hx0) ?_;conv=>rhs;whnf
 refine Zn rfl rfl fun x1 hx1=>?_;conv=>rhs;whnf
 refine Zh (Zs rfl hx1) ?_;conv=>rhs;whnf
 refine Zh (Za8 rfl hx1) ?_;conv=>rhs;whnf
 refine Zh (Zs rfl hx1) ?_;conv=>rhs;whnf
 refine Zk (Zan Ze m0_0 b.toNat x0) ?_;conv=>rhs;whnf
 refine Zn rfl rfl fun x2 hx2=>?_;conv=>rhs;whnf
 refine Zh (Zs rfl hx2) ?_;conv=>rhs;whnf
 refine Zk (Zan Ze (List.set m0_0 b.toNat x0) d.toNat x1) ?_;conv=>rhs;whnf
 refine Zd _ (Zgh _) fun r17 hr17=>?_;conv=>rhs;whnf
 exact Zb rfl
def Zg0 (r:Int):D:=(D.int .u64 r)
theorem ZjE {a:Int}:∀r,(Zcd a)=some r→evD ctx 213 [(.d (Ze a))]=some (Zg0 r):=by
 show ZE _ (fun r rhs=>rhs=some (Zg0 r)) _
 unfold Zcd
 rw[ZaH ctx 213 ZzI _ rfl rfl]
 conv=>rhs;whnf
 refine Zi _ ZjQ rfl fun x0 hx0=>?_;conv=>rhs;whnf
 refine Zc rfl ?_ ?_
 ·exact ZO
 ·conv=>rhs;whnf
  exact Zb rfl
def Zhb (m0_0:Int):Unit→V×Zm
  | r=>((.d (D.int .u64 (u64.wrap (Zg (u64.wrap (Zg (u64.wrap (Zg m0_0 ^^^ Zg (u64.wrap (m0_0*2 ^ 13))).toNat) ^^^ Zg (Int.fdiv (u64.wrap (Zg m0_0 ^^^ Zg (u64.wrap (m0_0*2 ^ 13))).toNat) (2 ^ 7))).toNat) ^^^ Zg (u64.wrap ((u64.wrap (Zg (u64.wrap (Zg m0_0 ^^^ Zg (u64.wrap (m0_0*2 ^ 13))).toNat) ^^^ Zg (Int.fdiv (u64.wrap (Zg m0_0 ^^^ Zg (u64.wrap (m0_0*2 ^ 13))).toNat) (2 ^ 7))).toNat)*2 ^ 17))).toNat))),[(.cells [(.d (D.int .u64 (u64.wrap (Zg (u64.wrap (Zg (u64.wrap (Zg m0_0 ^^^ Zg (u64.wrap (m0_0*2 ^ 13))).toNat) ^^^ Zg (Int.fdiv (u64.wrap (Zg m0_0 ^^^ Zg (u64.wrap (m0_0*2 ^ 13))).toNat) (2 ^ 7))).toNat) ^^^ Zg (u64.wrap ((u64.wrap (Zg (u64.wrap (Zg m0_0 ^^^ Zg (u64.wrap (m0_0*2 ^ 13))).toNat) ^^^ Zg (Int.fdiv (u64.wrap (Zg m0_0 ^^^ Zg (u64.wrap (m0_0*2 ^ 13))).toNat) (2 ^ 7))).toNat)*2 ^ 17))).toNat)))])])
theorem ZjZ {m0_0:Int}:∀r,Zdh=some r→evW ctx 214 [(.ptr 0 0)] [(.cells [(.d (D.int .u64 m0_0))])]=some ((Zhb m0_0) r):=by
 show ZE _ (fun r rhs=>rhs=some ((Zhb m0_0) r)) _
 unfold Zdh
 rw[ZcU ctx 214 Zzf _ _ rfl rfl]
 conv=>rhs;whnf
 refine Zau rfl ?_;conv=>rhs;whnf
 refine Zau rfl ?_;conv=>rhs;whnf
 refine Zau rfl ?_;conv=>rhs;whnf
 exact Zb rfl
def Zer (b:Int) (c:Int) (m0_0:List Int):(List Int)→V×Zm
  | r=>((.d (D.tup [])),[(.arr 1 (List.map Ze r))])
def ZdN (b:Int) (c:Int) (x0:Int):(List Int)→Ex×List V×Zm
  | r=>(.exit 0,[],[(.arr 1 (List.map Ze r))])
theorem Zgv {b c x0:Int}:∀(s1:Int×(List Int)×Int) (r:List Int),lp (Za9 b c x0) s1=some r→lpW ctx 1 [0,1,6,7,8,9] [] ZvN [(.sl 0 1),(.d (Ze b)),(.d (Ze (w64 (c-b)))),(.ptr 1 0),(.d (D.int .u64 x0)),(.d (Ze s1.1))] [(.arr 1 (List.map Ze s1.2.1)),(.cells [(.d (D.int .u64 s1.2.2))])]=some ((ZdN b c x0) r):=by
 refine Zbm (ZdN b c x0) ?_
 intro s1 rcl ih
 show ZE _ _ (lpW _ _ _ _ _ _ _)
 unfold Za9
 rw[Zbn]
 conv=>rhs;whnf
 refine Zau rfl ?_;conv=>rhs;whnf
 refine Zc rfl ?_ ?_<;>conv=>rhs;whnf
 ·refine Zd _ ZjZ fun x2 hx2=>?_;conv=>rhs;whnf
  refine Zc rfl ?_ ?_<;>conv=>rhs;whnf
  ·refine Zn rfl rfl fun x3 hx3=>?_;conv=>rhs;whnf
   refine Zh (Zs rfl hx3) ?_;conv=>rhs;whnf
   refine Zn rfl rfl fun x4 hx4=>?_;conv=>rhs;whnf
   refine Zh (Zs rfl hx4) ?_;conv=>rhs;whnf
   refine Zh (Za8 rfl hx4) ?_;conv=>rhs;whnf
   refine Zh (Zs rfl hx4) ?_;conv=>rhs;whnf
   refine Zk (Zan Ze s1.2.1 s1.1.toNat x3) ?_;conv=>rhs;whnf
   refine Zn rfl rfl fun x5 hx5=>?_;conv=>rhs;whnf
   refine Zh (Zs rfl hx5) ?_;conv=>rhs;whnf
   refine Zk (Zan Ze (List.set s1.2.1 s1.1.toNat x3) (w64 (b+(w64 ((w64 (u64.wrap (Zg (u64.wrap (Zg (u64.wrap (Zg (u64.wrap (Zg s1.2.2 ^^^ Zg (u64.wrap (s1.2.2*2 ^ 13))).toNat) ^^^ Zg (Int.fdiv (u64.wrap (Zg s1.2.2 ^^^ Zg (u64.wrap (s1.2.2*2 ^ 13))).toNat) (2 ^ 7))).toNat) ^^^ Zg (u64.wrap ((u64.wrap (Zg (u64.wrap (Zg s1.2.2 ^^^ Zg (u64.wrap (s1.2.2*2 ^ 13))).toNat) ^^^ Zg (Int.fdiv (u64.wrap (Zg s1.2.2 ^^^ Zg (u64.wrap (s1.2.2*2 ^ 13))).toNat) (2 ^ 7))).toNat)*2 ^ 17))).toNat) &&& Zg (u64.wrap (x0-1))).toNat))-(w64 (c-b)))))).toNat x4) ?_;conv=>rhs;whnf
   exact Zf (ih _)
  ·refine Zn rfl rfl fun x6 hx6=>?_;conv=>rhs;whnf
   refine Zh (Zs rfl hx6) ?_;conv=>rhs;whnf
   refine Zn rfl rfl fun x7 hx7=>?_;conv=>rhs;whnf
   refine Zh (Zs rfl hx7) ?_;conv=>rhs;whnf
   refine Zh (Za8 rfl hx7) ?_;conv=>rhs;whnf
   refine Zh (Zs rfl hx7) ?_;conv=>rhs;whnf
   refine Zk (Zan Ze s1.2.1 s1.1.toNat x6) ?_;conv=>rhs;whnf
   refine Zn rfl rfl fun x8 hx8=>?_;conv=>rhs;whnf
   refine Zh (Zs rfl hx8) ?_;conv=>rhs;whnf
   refine Zk (Zan Ze (List.set s1.2.1 s1.1.toNat x6) (w64 (b+(w64 (u64.wrap (Zg (u64.wrap (Zg (u64.wrap (Zg (u64.wrap (Zg s1.2.2 ^^^ Zg (u64.wrap (s1.2.2*2 ^ 13))).toNat) ^^^ Zg (Int.fdiv (u64.wrap (Zg s1.2.2 ^^^ Zg (u64.wrap (s1.2.2*2 ^ 13))).toNat) (2 ^ 7))).toNat) ^^^ Zg (u64.wrap ((u64.wrap (Zg (u64.wrap (Zg s1.2.2 ^^^ Zg (u64.wrap (s1.2.2*2 ^ 13))).toNat) ^^^ Zg (Int.fdiv (u64.wrap (Zg s1.2.2 ^^^ Zg (u64.wrap (s1.2.2*2 ^ 13))).toNat) (2 ^ 7))).toNat)*2 ^ 17))).toNat) &&& Zg (u64.wrap (x0-1))).toNat)))).toNat x7) ?_;conv=>rhs;whnf
   exact Zf (ih _)
 ·exact Zb rfl
theorem Zea {b c:Int}{m0_0:List Int}:∀r,(ZaR b c m0_0)=some r→evW ctx 195 [(.sl 0 1),(.d (Ze b)),(.d (Ze c))] [(.arr 1 (List.map Ze m0_0))]=some ((Zer b c m0_0) r):=by
 show ZE _ (fun r rhs=>rhs=some ((Zer b c m0_0) r)) _
 unfold ZaR
 rw[ZcU ctx 195 Zzv _ _ rfl rfl]
 conv=>rhs;whnf
 refine Zc rfl ?_ ?_<;>conv=>rhs;whnf
 ·refine Zi _ ZjE rfl fun x0 hx0=>?_;conv=>rhs;whnf
  refine Zau rfl ?_;conv=>rhs;whnf
  refine Zd _ (Zgv _) fun r9 hr9=>?_;conv=>rhs;whnf
  exact Zb rfl
 ·exact Zb rfl
def Za (b:Int) (c:Int) (d:Int) (m0_0:List Int):(List Int)→V×Zm
  | r=>((.d (D.tup [])),[(.arr 1 (List.map Ze r))])
def Ze9 (rc:Int→Int→Int→(List Int)→Option (List Int)):(List Int)→Ex×List V×Zm
  | r=>(.ret,[],[(.arr 1 (List.map Ze r))])
theorem ZhE {rc:Int→Int→Int→(List Int)→Option (List Int)} (hrc:∀(b:Int) (c:Int) (d:Int) (m0_0:List Int) (r:List Int),rc b c d m0_0=some r→evW ctx 178 [(.sl 0 1),(.d (Ze b)),(.d (Ze c)),(.d (Ze d))] [(.arr 1 (List.map Ze m0_0))]=some ((Za b c d m0_0) r)):∀(s0:Int×Int×Int×Bool×Bool×(List Int)) (r:List Int),lp (ZbO rc) s0=some r→lpW ctx 1 [0,1,2,3,8,9] [] Zwu [(.sl 0 1),(.d (Ze s0.1)),(.d (Ze s0.2.1)),(.d (Ze s0.2.2.1)),(.d (D.bool s0.2.2.2.1)),(.d (D.bool s0.2.2.2.2.1))] [(.arr 1 (List.map Ze s0.2.2.2.2.2))]=some ((Ze9 rc) r):=by
 refine Zbm (Ze9 rc) ?_
 intro s0 rcl ih
 show ZE _ _ (lpW _ _ _ _ _ _ _)
 unfold ZbO
 rw[Zbn]
 rcases hb:s0.2.2.2.1 with _ | _
 ·refine Zvf ?_
  rcases hb:s0.2.2.2.2.1 with _ | _
  ·refine Zvf ?_;conv=>rhs;whnf
   refine Zc rfl ?_ ?_<;>conv=>rhs;whnf
   ·refine Zd _ ZbK fun x170 hx170=>?_;conv=>rhs;whnf
    exact Zb rfl
   ·refine Zc rfl ?_ ?_<;>conv=>rhs;whnf
    ·refine Zd _ Zch fun x171 hx171=>?_;conv=>rhs;whnf
     exact Zb rfl
    ·refine Zd _ Zea fun x172 hx172=>?_;conv=>rhs;whnf
     refine Zd _ Zb0 fun x173 hx173=>?_;conv=>rhs;whnf
     refine Zc rfl ?_ ?_<;>conv=>rhs;whnf
     ·refine Zd _ ZbR fun x174 hx174=>?_;conv=>rhs;whnf
      refine Zc rfl ?_ ?_<;>conv=>rhs;whnf
      ·refine Zn rfl rfl fun x175 hx175=>?_;conv=>rhs;whnf
       refine Zh (Zs rfl hx175) ?_;conv=>rhs;whnf
       refine Zn rfl rfl fun x176 hx176=>?_;conv=>rhs;whnf
       refine Zh (Zs rfl hx176) ?_;conv=>rhs;whnf
       refine Zi _ ZJ rfl fun x177 hx177=>?_;conv=>rhs;whnf
       refine Zc rfl ?_ ?_<;>conv=>rhs;whnf
       ·refine Zd _ Zu fun x178 hx178=>?_
        clear hx178
        rcases x178 with x178 | x178
        ·conv=>rhs;whnf
         refine ZbW rfl ?_;conv=>rhs;whnf
         refine Zau rfl ?_;conv=>rhs;whnf
         refine Zc rfl ?_ ?_<;>conv=>rhs;whnf
         ·refine Zc rfl ?_ ?_<;>conv=>rhs;whnf
          ·refine Zd (Za s0.1 x178.1 (w64 (s0.2.2.1-1)) x178.2) (hrc s0.1 x178.1 (w64 (s0.2.2.1-1)) x178.2) fun x179 hx179=>?_;conv=>rhs;whnf
           exact Zf (ih _)
          ·refine Zd (Za s0.1 x178.1 (w64 (s0.2.2.1-1)) x178.2) (hrc s0.1 x178.1 (w64 (s0.2.2.1-1)) x178.2) fun x180 hx180=>?_;conv=>rhs;whnf
           exact Zf (ih _)
         ·refine Zc rfl ?_ ?_<;>conv=>rhs;whnf
          ·refine Zd (Za (w64 (x178.1+1)) s0.2.1 (w64 (s0.2.2.1-1)) x178.2) (hrc (w64 (x178.1+1)) s0.2.1 (w64 (s0.2.2.1-1)) x178.2) fun x181 hx181=>?_;conv=>rhs;whnf
           exact Zf (ih _)
          ·refine Zd (Za (w64 (x178.1+1)) s0.2.1 (w64 (s0.2.2.1-1)) x178.2) (hrc (w64 (x178.1+1)) s0.2.1 (w64 (s0.2.2.1-1)) x178.2) fun x182 hx182=>?_;conv=>rhs;whnf
           exact Zf (ih _)
        ·conv=>rhs;whnf
         refine Zau rfl ?_;conv=>rhs;whnf
         refine Zau rfl ?_;conv=>rhs;whnf
         refine Zc rfl ?_ ?_<;>conv=>rhs;whnf
         ·refine Zc rfl ?_ ?_<;>conv=>rhs;whnf
          ·refine Zd (Za s0.1 x178.1 (w64 (s0.2.2.1-1)) x178.2) (hrc s0.1 x178.1 (w64 (s0.2.2.1-1)) x178.2) fun x183 hx183=>?_;conv=>rhs;whnf
           exact Zf (ih _)
          ·refine Zd (Za s0.1 x178.1 (w64 (s0.2.2.1-1)) x178.2) (hrc s0.1 x178.1 (w64 (s0.2.2.1-1)) x178.2) fun x184 hx184=>?_;conv=>rhs;whnf
           exact Zf (ih _)
         ·refine Zc rfl ?_ ?_<;>conv=>rhs;whnf
          ·refine Zd (Za (w64 (x178.1+1)) s0.2.1 (w64 (s0.2.2.1-1)) x178.2) (hrc (w64 (x178.1+1)) s0.2.1 (w64 (s0.2.2.1-1)) x178.2) fun x185 hx185=>?_;conv=>rhs;whnf
           exact Zf (ih _)
          ·refine Zd (Za (w64 (x178.1+1)) s0.2.1 (w64 (s0.2.2.1-1)) x178.2) (hrc (w64 (x178.1+1)) s0.2.1 (w64 (s0.2.2.1-1)) x178.2) fun x186 hx186=>?_;conv=>rhs;whnf
           exact Zf (ih _)
       ·refine Zd _ ZP fun x187 hx187=>?_;conv=>rhs;whnf
        exact Zf (ih _)
      ·refine Zd _ Zu fun x188 hx188=>?_
       clear hx188
       rcases x188 with x188 | x188
       ·conv=>rhs;whnf
        refine ZbW rfl ?_;conv=>rhs;whnf
        refine Zau rfl ?_;conv=>rhs;whnf
        refine Zc rfl ?_ ?_<;>conv=>rhs;whnf
        ·refine Zc rfl ?_ ?_<;>conv=>rhs;whnf
         ·refine Zd (Za s0.1 x188.1 (w64 (s0.2.2.1-1)) x188.2) (hrc s0.1 x188.1 (w64 (s0.2.2.1-1)) x188.2) fun x189 hx189=>?_;conv=>rhs;whnf
          exact Zf (ih _)
         ·refine Zd (Za s0.1 x188.1 (w64 (s0.2.2.1-1)) x188.2) (hrc s0.1 x188.1 (w64 (s0.2.2.1-1)) x188.2) fun x190 hx190=>?_;conv=>rhs;whnf
          exact Zf (ih _)
        ·refine Zc rfl ?_ ?_<;>conv=>rhs;whnf
         ·refine Zd (Za (w64 (x188.1+1)) s0.2.1 (w64 (s0.2.2.1-1)) x188.2) (hrc (w64 (x188.1+1)) s0.2.1 (w64 (s0.2.2.1-1)) x188.2) fun x191 hx191=>?_;conv=>rhs;whnf
          exact Zf (ih _)
         ·refine Zd (Za (w64 (x188.1+1)) s0.2.1 (w64 (s0.2.2.1-1)) x188.2) (hrc (w64 (x188.1+1)) s0.2.1 (w64 (s0.2.2.1-1)) x188.2) fun x192 hx192=>?_;conv=>rhs;whnf
          exact Zf (ih _)
       ·conv=>rhs;whnf
        refine Zau rfl ?_;conv=>rhs;whnf
        refine Zau rfl ?_;conv=>rhs;whnf
        refine Zc rfl ?_ ?_<;>conv=>rhs;whnf
        ·refine Zc rfl ?_ ?_<;>conv=>rhs;whnf
         ·refine Zd (Za s0.1 x188.1 (w64 (s0.2.2.1-1)) x188.2) (hrc s0.1 x188.1 (w64 (s0.2.2.1-1)) x188.2) fun x193 hx193=>?_;conv=>rhs;whnf
          exact Zf (ih _)
         ·refine Zd (Za s0.1 x188.1 (w64 (s0.2.2.1-1)) x188.2) (hrc s0.1 x188.1 (w64 (s0.2.2.1-1)) x188.2) fun x194 hx194=>?_;conv=>rhs;whnf
          exact Zf (ih _)
        ·refine Zc rfl ?_ ?_<;>conv=>rhs;whnf
         ·refine Zd (Za (w64 (x188.1+1)) s0.2.1 (w64 (s0.2.2.1-1)) x188.2) (hrc (w64 (x188.1+1)) s0.2.1 (w64 (s0.2.2.1-1)) x188.2) fun x195 hx195=>?_;conv=>rhs;whnf
          exact Zf (ih _)
         ·refine Zd (Za (w64 (x188.1+1)) s0.2.1 (w64 (s0.2.2.1-1)) x188.2) (hrc (w64 (x188.1+1)) s0.2.1 (w64 (s0.2.2.1-1)) x188.2) fun x196 hx196=>?_;conv=>rhs;whnf
          exact Zf (ih _)
     ·refine Zc rfl ?_ ?_<;>conv=>rhs;whnf
      ·refine Zn rfl rfl fun x197 hx197=>?_;conv=>rhs;whnf
       refine Zh (Zs rfl hx197) ?_;conv=>rhs;whnf
       refine Zn rfl rfl fun x198 hx198=>?_;conv=>rhs;whnf
       refine Zh (Zs rfl hx198) ?_;conv=>rhs;whnf
       refine Zi _ ZJ rfl fun x199 hx199=>?_;conv=>rhs;whnf
       refine Zc rfl ?_ ?_<;>conv=>rhs;whnf
       ·refine Zd _ Zu fun x200 hx200=>?_
        clear hx200
        rcases x200 with x200 | x200
        ·conv=>rhs;whnf
         refine ZbW rfl ?_;conv=>rhs;whnf
         refine Zau rfl ?_;conv=>rhs;whnf
         refine Zc rfl ?_ ?_<;>conv=>rhs;whnf
         ·refine Zc rfl ?_ ?_<;>conv=>rhs;whnf
          ·refine Zd (Za s0.1 x200.1 (w64 (s0.2.2.1-1)) x200.2) (hrc s0.1 x200.1 (w64 (s0.2.2.1-1)) x200.2) fun x201 hx201=>?_;conv=>rhs;whnf
           exact Zf (ih _)
          ·refine Zd (Za s0.1 x200.1 (w64 (s0.2.2.1-1)) x200.2) (hrc s0.1 x200.1 (w64 (s0.2.2.1-1)) x200.2) fun x202 hx202=>?_;conv=>rhs;whnf
           exact Zf (ih _)
         ·refine Zc rfl ?_ ?_<;>conv=>rhs;whnf
          ·refine Zd (Za (w64 (x200.1+1)) s0.2.1 (w64 (s0.2.2.1-1)) x200.2) (hrc (w64 (x200.1+1)) s0.2.1 (w64 (s0.2.2.1-1)) x200.2) fun x203 hx203=>?_;conv=>rhs;whnf
           exact Zf (ih _)
          ·refine Zd (Za (w64 (x200.1+1)) s0.2.1 (w64 (s0.2.2.1-1)) x200.2) (hrc (w64 (x200.1+1)) s0.2.1 (w64 (s0.2.2.1-1)) x200.2) fun x204 hx204=>?_;conv=>rhs;whnf
           exact Zf (ih _)
        ·conv=>rhs;whnf
         refine Zau rfl ?_;conv=>rhs;whnf
         refine Zau rfl ?_;conv=>rhs;whnf
         refine Zc rfl ?_ ?_<;>conv=>rhs;whnf
         ·refine Zc rfl ?_ ?_<;>conv=>rhs;whnf
          ·refine Zd (Za s0.1 x200.1 (w64 (s0.2.2.1-1)) x200.2) (hrc s0.1 x200.1 (w64 (s0.2.2.1-1)) x200.2) fun x205 hx205=>?_;conv=>rhs;whnf
           exact Zf (ih _)
          ·refine Zd (Za s0.1 x200.1 (w64 (s0.2.2.1-1)) x200.2) (hrc s0.1 x200.1 (w64 (s0.2.2.1-1)) x200.2) fun x206 hx206=>?_;conv=>rhs;whnf
           exact Zf (ih _)
         ·refine Zc rfl ?_ ?_<;>conv=>rhs;whnf
          ·refine Zd (Za (w64 (x200.1+1)) s0.2.1 (w64 (s0.2.2.1-1)) x200.2) (hrc (w64 (x200.1+1)) s0.2.1 (w64 (s0.2.2.1-1)) x200.2) fun x207 hx207=>?_;conv=>rhs;whnf
           exact Zf (ih _)
          ·refine Zd (Za (w64 (x200.1+1)) s0.2.1 (w64 (s0.2.2.1-1)) x200.2) (hrc (w64 (x200.1+1)) s0.2.1 (w64 (s0.2.2.1-1)) x200.2) fun x208 hx208=>?_;conv=>rhs;whnf
           exact Zf (ih _)
       ·refine Zd _ ZP fun x209 hx209=>?_;conv=>rhs;whnf
        exact Zf (ih _)
      ·refine Zd _ Zu fun x210 hx210=>?_
       clear hx210
       rcases x210 with x210 | x210
       ·conv=>rhs;whnf
        refine ZbW rfl ?_;conv=>rhs;whnf
        refine Zau rfl ?_;conv=>rhs;whnf
        refine Zc rfl ?_ ?_<;>conv=>rhs;whnf
        ·refine Zc rfl ?_ ?_<;>conv=>rhs;whnf
         ·refine Zd (Za s0.1 x210.1 (w64 (s0.2.2.1-1)) x210.2) (hrc s0.1 x210.1 (w64 (s0.2.2.1-1)) x210.2) fun x211 hx211=>?_;conv=>rhs;whnf
          exact Zf (ih _)
         ·refine Zd (Za s0.1 x210.1 (w64 (s0.2.2.1-1)) x210.2) (hrc s0.1 x210.1 (w64 (s0.2.2.1-1)) x210.2) fun x212 hx212=>?_;conv=>rhs;whnf
          exact Zf (ih _)
        ·refine Zc rfl ?_ ?_<;>conv=>rhs;whnf
         ·refine Zd (Za (w64 (x210.1+1)) s0.2.1 (w64 (s0.2.2.1-1)) x210.2) (hrc (w64 (x210.1+1)) s0.2.1 (w64 (s0.2.2.1-1)) x210.2) fun x213 hx213=>?_;conv=>rhs;whnf
          exact Zf (ih _)
         ·refine Zd (Za (w64 (x210.1+1)) s0.2.1 (w64 (s0.2.2.1-1)) x210.2) (hrc (w64 (x210.1+1)) s0.2.1 (w64 (s0.2.2.1-1)) x210.2) fun x214 hx214=>?_;conv=>rhs;whnf
          exact Zf (ih _)
       ·conv=>rhs;whnf
        refine Zau rfl ?_;conv=>rhs;whnf
        refine Zau rfl ?_;conv=>rhs;whnf
        refine Zc rfl ?_ ?_<;>conv=>rhs;whnf
        ·refine Zc rfl ?_ ?_<;>conv=>rhs;whnf
         ·refine Zd (Za s0.1 x210.1 (w64 (s0.2.2.1-1)) x210.2) (hrc s0.1 x210.1 (w64 (s0.2.2.1-1)) x210.2) fun x215 hx215=>?_;conv=>rhs;whnf
          exact Zf (ih _)
         ·refine Zd (Za s0.1 x210.1 (w64 (s0.2.2.1-1)) x210.2) (hrc s0.1 x210.1 (w64 (s0.2.2.1-1)) x210.2) fun x216 hx216=>?_;conv=>rhs;whnf
          exact Zf (ih _)
        ·refine Zc rfl ?_ ?_<;>conv=>rhs;whnf
         ·refine Zd (Za (w64 (x210.1+1)) s0.2.1 (w64 (s0.2.2.1-1)) x210.2) (hrc (w64 (x210.1+1)) s0.2.1 (w64 (s0.2.2.1-1)) x210.2) fun x217 hx217=>?_;conv=>rhs;whnf
          exact Zf (ih _)
         ·refine Zd (Za (w64 (x210.1+1)) s0.2.1 (w64 (s0.2.2.1-1)) x210.2) (hrc (w64 (x210.1+1)) s0.2.1 (w64 (s0.2.2.1-1)) x210.2) fun x218 hx218=>?_;conv=>rhs;whnf
          exact Zf (ih _)
  ·refine ZuB ?_;conv=>rhs;whnf
   refine Zc rfl ?_ ?_<;>conv=>rhs;whnf
   ·refine Zd _ ZbK fun x121 hx121=>?_;conv=>rhs;whnf
    exact Zb rfl
   ·refine Zc rfl ?_ ?_<;>conv=>rhs;whnf
    ·refine Zd _ Zch fun x122 hx122=>?_;conv=>rhs;whnf
     exact Zb rfl
    ·refine Zd _ Zea fun x123 hx123=>?_;conv=>rhs;whnf
     refine Zd _ Zb0 fun x124 hx124=>?_;conv=>rhs;whnf
     refine Zc rfl ?_ ?_<;>conv=>rhs;whnf
     ·refine Zd _ ZbR fun x125 hx125=>?_;conv=>rhs;whnf
      refine Zc rfl ?_ ?_<;>conv=>rhs;whnf
      ·refine Zn rfl rfl fun x126 hx126=>?_;conv=>rhs;whnf
       refine Zh (Zs rfl hx126) ?_;conv=>rhs;whnf
       refine Zn rfl rfl fun x127 hx127=>?_;conv=>rhs;whnf
       refine Zh (Zs rfl hx127) ?_;conv=>rhs;whnf
       refine Zi _ ZJ rfl fun x128 hx128=>?_;conv=>rhs;whnf
       refine Zc rfl ?_ ?_<;>conv=>rhs;whnf
       ·refine Zd _ Zu fun x129 hx129=>?_
        clear hx129
        rcases x129 with x129 | x129
        ·conv=>rhs;whnf
         refine ZbW rfl ?_;conv=>rhs;whnf
         refine Zau rfl ?_;conv=>rhs;whnf
         refine Zc rfl ?_ ?_<;>conv=>rhs;whnf
         ·refine Zc rfl ?_ ?_<;>conv=>rhs;whnf
          ·refine Zd (Za s0.1 x129.1 (w64 (s0.2.2.1-1)) x129.2) (hrc s0.1 x129.1 (w64 (s0.2.2.1-1)) x129.2) fun x130 hx130=>?_;conv=>rhs;whnf
           exact Zf (ih _)
          ·refine Zd (Za s0.1 x129.1 (w64 (s0.2.2.1-1)) x129.2) (hrc s0.1 x129.1 (w64 (s0.2.2.1-1)) x129.2) fun x131 hx131=>?_;conv=>rhs;whnf
           exact Zf (ih _)
         ·refine Zc rfl ?_ ?_<;>conv=>rhs;whnf
          ·refine Zd (Za (w64 (x129.1+1)) s0.2.1 (w64 (s0.2.2.1-1)) x129.2) (hrc (w64 (x129.1+1)) s0.2.1 (w64 (s0.2.2.1-1)) x129.2) fun x132 hx132=>?_;conv=>rhs;whnf
           exact Zf (ih _)
          ·refine Zd (Za (w64 (x129.1+1)) s0.2.1 (w64 (s0.2.2.1-1)) x129.2) (hrc (w64 (x129.1+1)) s0.2.1 (w64 (s0.2.2.1-1)) x129.2) fun x133 hx133=>?_;conv=>rhs;whnf
           exact Zf (ih _)
        ·conv=>rhs;whnf
         refine Zau rfl ?_;conv=>rhs;whnf
         refine Zau rfl ?_;conv=>rhs;whnf
         refine Zc rfl ?_ ?_<;>conv=>rhs;whnf
         ·refine Zc rfl ?_ ?_<;>conv=>rhs;whnf
          ·refine Zd (Za s0.1 x129.1 (w64 (s0.2.2.1-1)) x129.2) (hrc s0.1 x129.1 (w64 (s0.2.2.1-1)) x129.2) fun x134 hx134=>?_;conv=>rhs;whnf
           exact Zf (ih _)
          ·refine Zd (Za s0.1 x129.1 (w64 (s0.2.2.1-1)) x129.2) (hrc s0.1 x129.1 (w64 (s0.2.2.1-1)) x129.2) fun x135 hx135=>?_;conv=>rhs;whnf
           exact Zf (ih _)
         ·refine Zc rfl ?_ ?_<;>conv=>rhs;whnf
          ·refine Zd (Za (w64 (x129.1+1)) s0.2.1 (w64 (s0.2.2.1-1)) x129.2) (hrc (w64 (x129.1+1)) s0.2.1 (w64 (s0.2.2.1-1)) x129.2) fun x136 hx136=>?_;conv=>rhs;whnf
           exact Zf (ih _)
          ·refine Zd (Za (w64 (x129.1+1)) s0.2.1 (w64 (s0.2.2.1-1)) x129.2) (hrc (w64 (x129.1+1)) s0.2.1 (w64 (s0.2.2.1-1)) x129.2) fun x137 hx137=>?_;conv=>rhs;whnf
           exact Zf (ih _)
       ·refine Zd _ ZP fun x138 hx138=>?_;conv=>rhs;whnf
        exact Zf (ih _)
      ·refine Zd _ Zu fun x139 hx139=>?_
       clear hx139
       rcases x139 with x139 | x139
       ·conv=>rhs;whnf
        refine ZbW rfl ?_;conv=>rhs;whnf
        refine Zau rfl ?_;conv=>rhs;whnf
        refine Zc rfl ?_ ?_<;>conv=>rhs;whnf
        ·refine Zc rfl ?_ ?_<;>conv=>rhs;whnf
         ·refine Zd (Za s0.1 x139.1 (w64 (s0.2.2.1-1)) x139.2) (hrc s0.1 x139.1 (w64 (s0.2.2.1-1)) x139.2) fun x140 hx140=>?_;conv=>rhs;whnf
          exact Zf (ih _)
         ·refine Zd (Za s0.1 x139.1 (w64 (s0.2.2.1-1)) x139.2) (hrc s0.1 x139.1 (w64 (s0.2.2.1-1)) x139.2) fun x141 hx141=>?_;conv=>rhs;whnf
          exact Zf (ih _)
        ·refine Zc rfl ?_ ?_<;>conv=>rhs;whnf
         ·refine Zd (Za (w64 (x139.1+1)) s0.2.1 (w64 (s0.2.2.1-1)) x139.2) (hrc (w64 (x139.1+1)) s0.2.1 (w64 (s0.2.2.1-1)) x139.2) fun x142 hx142=>?_;conv=>rhs;whnf
          exact Zf (ih _)
         ·refine Zd (Za (w64 (x139.1+1)) s0.2.1 (w64 (s0.2.2.1-1)) x139.2) (hrc (w64 (x139.1+1)) s0.2.1 (w64 (s0.2.2.1-1)) x139.2) fun x143 hx143=>?_;conv=>rhs;whnf
          exact Zf (ih _)
       ·conv=>rhs;whnf
        refine Zau rfl ?_;conv=>rhs;whnf
        refine Zau rfl ?_;conv=>rhs;whnf
        refine Zc rfl ?_ ?_<;>conv=>rhs;whnf
        ·refine Zc rfl ?_ ?_<;>conv=>rhs;whnf
         ·refine Zd (Za s0.1 x139.1 (w64 (s0.2.2.1-1)) x139.2) (hrc s0.1 x139.1 (w64 (s0.2.2.1-1)) x139.2) fun x144 hx144=>?_;conv=>rhs;whnf
          exact Zf (ih _)
         ·refine Zd (Za s0.1 x139.1 (w64 (s0.2.2.1-1)) x139.2) (hrc s0.1 x139.1 (w64 (s0.2.2.1-1)) x139.2) fun x145 hx145=>?_;conv=>rhs;whnf
          exact Zf (ih _)
        ·refine Zc rfl ?_ ?_<;>conv=>rhs;whnf
         ·refine Zd (Za (w64 (x139.1+1)) s0.2.1 (w64 (s0.2.2.1-1)) x139.2) (hrc (w64 (x139.1+1)) s0.2.1 (w64 (s0.2.2.1-1)) x139.2) fun x146 hx146=>?_;conv=>rhs;whnf
          exact Zf (ih _)
         ·refine Zd (Za (w64 (x139.1+1)) s0.2.1 (w64 (s0.2.2.1-1)) x139.2) (hrc (w64 (x139.1+1)) s0.2.1 (w64 (s0.2.2.1-1)) x139.2) fun x147 hx147=>?_;conv=>rhs;whnf
          exact Zf (ih _)
     ·refine Zc rfl ?_ ?_<;>conv=>rhs;whnf
      ·refine Zn rfl rfl fun x148 hx148=>?_;conv=>rhs;whnf
       refine Zh (Zs rfl hx148) ?_;conv=>rhs;whnf
       refine Zn rfl rfl fun x149 hx149=>?_;conv=>rhs;whnf
       refine Zh (Zs rfl hx149) ?_;conv=>rhs;whnf
       refine Zi _ ZJ rfl fun x150 hx150=>?_;conv=>rhs;whnf
       refine Zc rfl ?_ ?_<;>conv=>rhs;whnf
       ·refine Zd _ Zu fun x151 hx151=>?_
        clear hx151
        rcases x151 with x151 | x151
        ·conv=>rhs;whnf
         refine ZbW rfl ?_;conv=>rhs;whnf
         refine Zau rfl ?_;conv=>rhs;whnf
         refine Zc rfl ?_ ?_<;>conv=>rhs;whnf
         ·refine Zc rfl ?_ ?_<;>conv=>rhs;whnf
          ·refine Zd (Za s0.1 x151.1 (w64 (s0.2.2.1-1)) x151.2) (hrc s0.1 x151.1 (w64 (s0.2.2.1-1)) x151.2) fun x152 hx152=>?_;conv=>rhs;whnf
           exact Zf (ih _)
          ·refine Zd (Za s0.1 x151.1 (w64 (s0.2.2.1-1)) x151.2) (hrc s0.1 x151.1 (w64 (s0.2.2.1-1)) x151.2) fun x153 hx153=>?_;conv=>rhs;whnf
           exact Zf (ih _)
         ·refine Zc rfl ?_ ?_<;>conv=>rhs;whnf
          ·refine Zd (Za (w64 (x151.1+1)) s0.2.1 (w64 (s0.2.2.1-1)) x151.2) (hrc (w64 (x151.1+1)) s0.2.1 (w64 (s0.2.2.1-1)) x151.2) fun x154 hx154=>?_;conv=>rhs;whnf
           exact Zf (ih _)
          ·refine Zd (Za (w64 (x151.1+1)) s0.2.1 (w64 (s0.2.2.1-1)) x151.2) (hrc (w64 (x151.1+1)) s0.2.1 (w64 (s0.2.2.1-1)) x151.2) fun x155 hx155=>?_;conv=>rhs;whnf
           exact Zf (ih _)
        ·conv=>rhs;whnf
         refine Zau rfl ?_;conv=>rhs;whnf
         refine Zau rfl ?_;conv=>rhs;whnf
         refine Zc rfl ?_ ?_<;>conv=>rhs;whnf
         ·refine Zc rfl ?_ ?_<;>conv=>rhs;whnf
          ·refine Zd (Za s0.1 x151.1 (w64 (s0.2.2.1-1)) x151.2) (hrc s0.1 x151.1 (w64 (s0.2.2.1-1)) x151.2) fun x156 hx156=>?_;conv=>rhs;whnf
           exact Zf (ih _)
          ·refine Zd (Za s0.1 x151.1 (w64 (s0.2.2.1-1)) x151.2) (hrc s0.1 x151.1 (w64 (s0.2.2.1-1)) x151.2) fun x157 hx157=>?_;conv=>rhs;whnf
           exact Zf (ih _)
         ·refine Zc rfl ?_ ?_<;>conv=>rhs;whnf
          ·refine Zd (Za (w64 (x151.1+1)) s0.2.1 (w64 (s0.2.2.1-1)) x151.2) (hrc (w64 (x151.1+1)) s0.2.1 (w64 (s0.2.2.1-1)) x151.2) fun x158 hx158=>?_;conv=>rhs;whnf
           exact Zf (ih _)
          ·refine Zd (Za (w64 (x151.1+1)) s0.2.1 (w64 (s0.2.2.1-1)) x151.2) (hrc (w64 (x151.1+1)) s0.2.1 (w64 (s0.2.2.1-1)) x151.2) fun x159 hx159=>?_;conv=>rhs;whnf
           exact Zf (ih _)
       ·refine Zd _ ZP fun x160 hx160=>?_;conv=>rhs;whnf
        exact Zf (ih _)
      ·refine Zd _ Zu fun x161 hx161=>?_
       clear hx161
       rcases x161 with x161 | x161
       ·conv=>rhs;whnf
        refine ZbW rfl ?_;conv=>rhs;whnf
        refine Zau rfl ?_;conv=>rhs;whnf
        refine Zc rfl ?_ ?_<;>conv=>rhs;whnf
        ·refine Zc rfl ?_ ?_<;>conv=>rhs;whnf
         ·refine Zd (Za s0.1 x161.1 (w64 (s0.2.2.1-1)) x161.2) (hrc s0.1 x161.1 (w64 (s0.2.2.1-1)) x161.2) fun x162 hx162=>?_;conv=>rhs;whnf
          exact Zf (ih _)
         ·refine Zd (Za s0.1 x161.1 (w64 (s0.2.2.1-1)) x161.2) (hrc s0.1 x161.1 (w64 (s0.2.2.1-1)) x161.2) fun x163 hx163=>?_;conv=>rhs;whnf
          exact Zf (ih _)
        ·refine Zc rfl ?_ ?_<;>conv=>rhs;whnf
         ·refine Zd (Za (w64 (x161.1+1)) s0.2.1 (w64 (s0.2.2.1-1)) x161.2) (hrc (w64 (x161.1+1)) s0.2.1 (w64 (s0.2.2.1-1)) x161.2) fun x164 hx164=>?_;conv=>rhs;whnf
          exact Zf (ih _)
         ·refine Zd (Za (w64 (x161.1+1)) s0.2.1 (w64 (s0.2.2.1-1)) x161.2) (hrc (w64 (x161.1+1)) s0.2.1 (w64 (s0.2.2.1-1)) x161.2) fun x165 hx165=>?_;conv=>rhs;whnf
          exact Zf (ih _)
       ·conv=>rhs;whnf
        refine Zau rfl ?_;conv=>rhs;whnf
        refine Zau rfl ?_;conv=>rhs;whnf
        refine Zc rfl ?_ ?_<;>conv=>rhs;whnf
        ·refine Zc rfl ?_ ?_<;>conv=>rhs;whnf
         ·refine Zd (Za s0.1 x161.1 (w64 (s0.2.2.1-1)) x161.2) (hrc s0.1 x161.1 (w64 (s0.2.2.1-1)) x161.2) fun x166 hx166=>?_;conv=>rhs;whnf
          exact Zf (ih _)
         ·refine Zd (Za s0.1 x161.1 (w64 (s0.2.2.1-1)) x161.2) (hrc s0.1 x161.1 (w64 (s0.2.2.1-1)) x161.2) fun x167 hx167=>?_;conv=>rhs;whnf
          exact Zf (ih _)
        ·refine Zc rfl ?_ ?_<;>conv=>rhs;whnf
         ·refine Zd (Za (w64 (x161.1+1)) s0.2.1 (w64 (s0.2.2.1-1)) x161.2) (hrc (w64 (x161.1+1)) s0.2.1 (w64 (s0.2.2.1-1)) x161.2) fun x168 hx168=>?_;conv=>rhs;whnf
          exact Zf (ih _)
         ·refine Zd (Za (w64 (x161.1+1)) s0.2.1 (w64 (s0.2.2.1-1)) x161.2) (hrc (w64 (x161.1+1)) s0.2.1 (w64 (s0.2.2.1-1)) x161.2) fun x169 hx169=>?_;conv=>rhs;whnf
          exact Zf (ih _)
 ·refine ZuB ?_
  rcases hb:s0.2.2.2.2.1 with _ | _
  ·refine Zvf ?_;conv=>rhs;whnf
   refine Zc rfl ?_ ?_<;>conv=>rhs;whnf
   ·refine Zd _ ZbK fun x73 hx73=>?_;conv=>rhs;whnf
    exact Zb rfl
   ·refine Zc rfl ?_ ?_<;>conv=>rhs;whnf
    ·refine Zd _ Zch fun x74 hx74=>?_;conv=>rhs;whnf
     exact Zb rfl
    ·refine Zd _ Zb0 fun x75 hx75=>?_;conv=>rhs;whnf
     refine Zc rfl ?_ ?_<;>conv=>rhs;whnf
     ·refine Zd _ ZbR fun x76 hx76=>?_;conv=>rhs;whnf
      refine Zc rfl ?_ ?_<;>conv=>rhs;whnf
      ·refine Zn rfl rfl fun x77 hx77=>?_;conv=>rhs;whnf
       refine Zh (Zs rfl hx77) ?_;conv=>rhs;whnf
       refine Zn rfl rfl fun x78 hx78=>?_;conv=>rhs;whnf
       refine Zh (Zs rfl hx78) ?_;conv=>rhs;whnf
       refine Zi _ ZJ rfl fun x79 hx79=>?_;conv=>rhs;whnf
       refine Zc rfl ?_ ?_<;>conv=>rhs;whnf
       ·refine Zd _ Zu fun x80 hx80=>?_
        clear hx80
        rcases x80 with x80 | x80
        ·conv=>rhs;whnf
         refine ZbW rfl ?_;conv=>rhs;whnf
         refine Zau rfl ?_;conv=>rhs;whnf
         refine Zc rfl ?_ ?_<;>conv=>rhs;whnf
         ·refine Zc rfl ?_ ?_<;>conv=>rhs;whnf
          ·refine Zd (Za s0.1 x80.1 s0.2.2.1 x80.2) (hrc s0.1 x80.1 s0.2.2.1 x80.2) fun x81 hx81=>?_;conv=>rhs;whnf
           exact Zf (ih _)
          ·refine Zd (Za s0.1 x80.1 s0.2.2.1 x80.2) (hrc s0.1 x80.1 s0.2.2.1 x80.2) fun x82 hx82=>?_;conv=>rhs;whnf
           exact Zf (ih _)
         ·refine Zc rfl ?_ ?_<;>conv=>rhs;whnf
          ·refine Zd (Za (w64 (x80.1+1)) s0.2.1 s0.2.2.1 x80.2) (hrc (w64 (x80.1+1)) s0.2.1 s0.2.2.1 x80.2) fun x83 hx83=>?_;conv=>rhs;whnf
           exact Zf (ih _)
          ·refine Zd (Za (w64 (x80.1+1)) s0.2.1 s0.2.2.1 x80.2) (hrc (w64 (x80.1+1)) s0.2.1 s0.2.2.1 x80.2) fun x84 hx84=>?_;conv=>rhs;whnf
           exact Zf (ih _)
        ·conv=>rhs;whnf
         refine Zau rfl ?_;conv=>rhs;whnf
         refine Zau rfl ?_;conv=>rhs;whnf
         refine Zc rfl ?_ ?_<;>conv=>rhs;whnf
         ·refine Zc rfl ?_ ?_<;>conv=>rhs;whnf
          ·refine Zd (Za s0.1 x80.1 s0.2.2.1 x80.2) (hrc s0.1 x80.1 s0.2.2.1 x80.2) fun x85 hx85=>?_;conv=>rhs;whnf
           exact Zf (ih _)
          ·refine Zd (Za s0.1 x80.1 s0.2.2.1 x80.2) (hrc s0.1 x80.1 s0.2.2.1 x80.2) fun x86 hx86=>?_;conv=>rhs;whnf
           exact Zf (ih _)
         ·refine Zc rfl ?_ ?_<;>conv=>rhs;whnf
          ·refine Zd (Za (w64 (x80.1+1)) s0.2.1 s0.2.2.1 x80.2) (hrc (w64 (x80.1+1)) s0.2.1 s0.2.2.1 x80.2) fun x87 hx87=>?_;conv=>rhs;whnf
           exact Zf (ih _)
          ·refine Zd (Za (w64 (x80.1+1)) s0.2.1 s0.2.2.1 x80.2) (hrc (w64 (x80.1+1)) s0.2.1 s0.2.2.1 x80.2) fun x88 hx88=>?_;conv=>rhs;whnf
           exact Zf (ih _)
       ·refine Zd _ ZP fun x89 hx89=>?_;conv=>rhs;whnf
        exact Zf (ih _)
      ·refine Zd _ Zu fun x90 hx90=>?_
       clear hx90
       rcases x90 with x90 | x90
       ·conv=>rhs;whnf
        refine ZbW rfl ?_;conv=>rhs;whnf
        refine Zau rfl ?_;conv=>rhs;whnf
        refine Zc rfl ?_ ?_<;>conv=>rhs;whnf
        ·refine Zc rfl ?_ ?_<;>conv=>rhs;whnf
         ·refine Zd (Za s0.1 x90.1 s0.2.2.1 x90.2) (hrc s0.1 x90.1 s0.2.2.1 x90.2) fun x91 hx91=>?_;conv=>rhs;whnf
          exact Zf (ih _)
         ·refine Zd (Za s0.1 x90.1 s0.2.2.1 x90.2) (hrc s0.1 x90.1 s0.2.2.1 x90.2) fun x92 hx92=>?_;conv=>rhs;whnf
          exact Zf (ih _)
        ·refine Zc rfl ?_ ?_<;>conv=>rhs;whnf
         ·refine Zd (Za (w64 (x90.1+1)) s0.2.1 s0.2.2.1 x90.2) (hrc (w64 (x90.1+1)) s0.2.1 s0.2.2.1 x90.2) fun x93 hx93=>?_;conv=>rhs;whnf
          exact Zf (ih _)
         ·refine Zd (Za (w64 (x90.1+1)) s0.2.1 s0.2.2.1 x90.2) (hrc (w64 (x90.1+1)) s0.2.1 s0.2.2.1 x90.2) fun x94 hx94=>?_;conv=>rhs;whnf
          exact Zf (ih _)
       ·conv=>rhs;whnf
        refine Zau rfl ?_;conv=>rhs;whnf
        refine Zau rfl ?_;conv=>rhs;whnf
        refine Zc rfl ?_ ?_<;>conv=>rhs;whnf
        ·refine Zc rfl ?_ ?_<;>conv=>rhs;whnf
         ·refine Zd (Za s0.1 x90.1 s0.2.2.1 x90.2) (hrc s0.1 x90.1 s0.2.2.1 x90.2) fun x95 hx95=>?_;conv=>rhs;whnf
          exact Zf (ih _)
         ·refine Zd (Za s0.1 x90.1 s0.2.2.1 x90.2) (hrc s0.1 x90.1 s0.2.2.1 x90.2) fun x96 hx96=>?_;conv=>rhs;whnf
          exact Zf (ih _)
        ·refine Zc rfl ?_ ?_<;>conv=>rhs;whnf
         ·refine Zd (Za (w64 (x90.1+1)) s0.2.1 s0.2.2.1 x90.2) (hrc (w64 (x90.1+1)) s0.2.1 s0.2.2.1 x90.2) fun x97 hx97=>?_;conv=>rhs;whnf
          exact Zf (ih _)
         ·refine Zd (Za (w64 (x90.1+1)) s0.2.1 s0.2.2.1 x90.2) (hrc (w64 (x90.1+1)) s0.2.1 s0.2.2.1 x90.2) fun x98 hx98=>?_;conv=>rhs;whnf
          exact Zf (ih _)
     ·refine Zc rfl ?_ ?_<;>conv=>rhs;whnf
      ·refine Zn rfl rfl fun x99 hx99=>?_;conv=>rhs;whnf
       refine Zh (Zs rfl hx99) ?_;conv=>rhs;whnf
       refine Zn rfl rfl fun x100 hx100=>?_;conv=>rhs;whnf
       refine Zh (Zs rfl hx100) ?_;conv=>rhs;whnf
       refine Zi _ ZJ rfl fun x101 hx101=>?_;conv=>rhs;whnf
       refine Zc rfl ?_ ?_<;>conv=>rhs;whnf
       ·refine Zd _ Zu fun x102 hx102=>?_
        clear hx102
        rcases x102 with x102 | x102
        ·conv=>rhs;whnf
         refine ZbW rfl ?_;conv=>rhs;whnf
         refine Zau rfl ?_;conv=>rhs;whnf
         refine Zc rfl ?_ ?_<;>conv=>rhs;whnf
         ·refine Zc rfl ?_ ?_<;>conv=>rhs;whnf
          ·refine Zd (Za s0.1 x102.1 s0.2.2.1 x102.2) (hrc s0.1 x102.1 s0.2.2.1 x102.2) fun x103 hx103=>?_;conv=>rhs;whnf
           exact Zf (ih _)
          ·refine Zd (Za s0.1 x102.1 s0.2.2.1 x102.2) (hrc s0.1 x102.1 s0.2.2.1 x102.2) fun x104 hx104=>?_;conv=>rhs;whnf
           exact Zf (ih _)
         ·refine Zc rfl ?_ ?_<;>conv=>rhs;whnf
          ·refine Zd (Za (w64 (x102.1+1)) s0.2.1 s0.2.2.1 x102.2) (hrc (w64 (x102.1+1)) s0.2.1 s0.2.2.1 x102.2) fun x105 hx105=>?_;conv=>rhs;whnf
           exact Zf (ih _)
          ·refine Zd (Za (w64 (x102.1+1)) s0.2.1 s0.2.2.1 x102.2) (hrc (w64 (x102.1+1)) s0.2.1 s0.2.2.1 x102.2) fun x106 hx106=>?_;conv=>rhs;whnf
           exact Zf (ih _)
        ·conv=>rhs;whnf
         refine Zau rfl ?_;conv=>rhs;whnf
         refine Zau rfl ?_;conv=>rhs;whnf
         refine Zc rfl ?_ ?_<;>conv=>rhs;whnf
         ·refine Zc rfl ?_ ?_<;>conv=>rhs;whnf
          ·refine Zd (Za s0.1 x102.1 s0.2.2.1 x102.2) (hrc s0.1 x102.1 s0.2.2.1 x102.2) fun x107 hx107=>?_;conv=>rhs;whnf
           exact Zf (ih _)
          ·refine Zd (Za s0.1 x102.1 s0.2.2.1 x102.2) (hrc s0.1 x102.1 s0.2.2.1 x102.2) fun x108 hx108=>?_;conv=>rhs;whnf
           exact Zf (ih _)
         ·refine Zc rfl ?_ ?_<;>conv=>rhs;whnf
          ·refine Zd (Za (w64 (x102.1+1)) s0.2.1 s0.2.2.1 x102.2) (hrc (w64 (x102.1+1)) s0.2.1 s0.2.2.1 x102.2) fun x109 hx109=>?_;conv=>rhs;whnf
           exact Zf (ih _)
          ·refine Zd (Za (w64 (x102.1+1)) s0.2.1 s0.2.2.1 x102.2) (hrc (w64 (x102.1+1)) s0.2.1 s0.2.2.1 x102.2) fun x110 hx110=>?_;conv=>rhs;whnf
           exact Zf (ih _)
       ·refine Zd _ ZP fun x111 hx111=>?_;conv=>rhs;whnf
        exact Zf (ih _)
      ·refine Zd _ Zu fun x112 hx112=>?_
       clear hx112
       rcases x112 with x112 | x112
       ·conv=>rhs;whnf
        refine ZbW rfl ?_;conv=>rhs;whnf
        refine Zau rfl ?_;conv=>rhs;whnf
        refine Zc rfl ?_ ?_<;>conv=>rhs;whnf
        ·refine Zc rfl ?_ ?_<;>conv=>rhs;whnf
         ·refine Zd (Za s0.1 x112.1 s0.2.2.1 x112.2) (hrc s0.1 x112.1 s0.2.2.1 x112.2) fun x113 hx113=>?_;conv=>rhs;whnf
          exact Zf (ih _)
         ·refine Zd (Za s0.1 x112.1 s0.2.2.1 x112.2) (hrc s0.1 x112.1 s0.2.2.1 x112.2) fun x114 hx114=>?_;conv=>rhs;whnf
          exact Zf (ih _)
        ·refine Zc rfl ?_ ?_<;>conv=>rhs;whnf
         ·refine Zd (Za (w64 (x112.1+1)) s0.2.1 s0.2.2.1 x112.2) (hrc (w64 (x112.1+1)) s0.2.1 s0.2.2.1 x112.2) fun x115 hx115=>?_;conv=>rhs;whnf
          exact Zf (ih _)
         ·refine Zd (Za (w64 (x112.1+1)) s0.2.1 s0.2.2.1 x112.2) (hrc (w64 (x112.1+1)) s0.2.1 s0.2.2.1 x112.2) fun x116 hx116=>?_;conv=>rhs;whnf
          exact Zf (ih _)
       ·conv=>rhs;whnf
        refine Zau rfl ?_;conv=>rhs;whnf
        refine Zau rfl ?_;conv=>rhs;whnf
        refine Zc rfl ?_ ?_<;>conv=>rhs;whnf
        ·refine Zc rfl ?_ ?_<;>conv=>rhs;whnf
         ·refine Zd (Za s0.1 x112.1 s0.2.2.1 x112.2) (hrc s0.1 x112.1 s0.2.2.1 x112.2) fun x117 hx117=>?_;conv=>rhs;whnf
          exact Zf (ih _)
         ·refine Zd (Za s0.1 x112.1 s0.2.2.1 x112.2) (hrc s0.1 x112.1 s0.2.2.1 x112.2) fun x118 hx118=>?_;conv=>rhs;whnf
          exact Zf (ih _)
        ·refine Zc rfl ?_ ?_<;>conv=>rhs;whnf
         ·refine Zd (Za (w64 (x112.1+1)) s0.2.1 s0.2.2.1 x112.2) (hrc (w64 (x112.1+1)) s0.2.1 s0.2.2.1 x112.2) fun x119 hx119=>?_;conv=>rhs;whnf
          exact Zf (ih _)
         ·refine Zd (Za (w64 (x112.1+1)) s0.2.1 s0.2.2.1 x112.2) (hrc (w64 (x112.1+1)) s0.2.1 s0.2.2.1 x112.2) fun x120 hx120=>?_;conv=>rhs;whnf
          exact Zf (ih _)
  ·refine ZuB ?_;conv=>rhs;whnf
   refine Zc rfl ?_ ?_<;>conv=>rhs;whnf
   ·refine Zd _ ZbK fun x1 hx1=>?_;conv=>rhs;whnf
    exact Zb rfl
   ·refine Zc rfl ?_ ?_<;>conv=>rhs;whnf
    ·refine Zd _ Zch fun x2 hx2=>?_;conv=>rhs;whnf
     exact Zb rfl
    ·refine Zd _ Zb0 fun x3 hx3=>?_;conv=>rhs;whnf
     refine Zc rfl ?_ ?_<;>conv=>rhs;whnf
     ·refine Zd _ ZbR fun x4 hx4=>?_;conv=>rhs;whnf
      refine ZbW rfl ?_;conv=>rhs;whnf
      refine Zd _ Zdb fun x5 hx5=>?_
      clear hx5
      rcases x5 with x5 | x5
      ·conv=>rhs;whnf
       exact Zb rfl
      ·conv=>rhs;whnf
       refine Zc rfl ?_ ?_<;>conv=>rhs;whnf
       ·refine Zn rfl rfl fun x6 hx6=>?_;conv=>rhs;whnf
        refine Zh (Zs rfl hx6) ?_;conv=>rhs;whnf
        refine Zn rfl rfl fun x7 hx7=>?_;conv=>rhs;whnf
        refine Zh (Zs rfl hx7) ?_;conv=>rhs;whnf
        refine Zi _ ZJ rfl fun x8 hx8=>?_;conv=>rhs;whnf
        refine Zc rfl ?_ ?_<;>conv=>rhs;whnf
        ·refine Zd _ Zu fun x9 hx9=>?_
         clear hx9
         rcases x9 with x9 | x9
         ·conv=>rhs;whnf
          refine ZbW rfl ?_;conv=>rhs;whnf
          refine Zau rfl ?_;conv=>rhs;whnf
          refine Zc rfl ?_ ?_<;>conv=>rhs;whnf
          ·refine Zc rfl ?_ ?_<;>conv=>rhs;whnf
           ·refine Zd (Za s0.1 x9.1 s0.2.2.1 x9.2) (hrc s0.1 x9.1 s0.2.2.1 x9.2) fun x10 hx10=>?_;conv=>rhs;whnf
            exact Zf (ih _)
           ·refine Zd (Za s0.1 x9.1 s0.2.2.1 x9.2) (hrc s0.1 x9.1 s0.2.2.1 x9.2) fun x11 hx11=>?_;conv=>rhs;whnf
            exact Zf (ih _)
          ·refine Zc rfl ?_ ?_<;>conv=>rhs;whnf
           ·refine Zd (Za (w64 (x9.1+1)) s0.2.1 s0.2.2.1 x9.2) (hrc (w64 (x9.1+1)) s0.2.1 s0.2.2.1 x9.2) fun x12 hx12=>?_;conv=>rhs;whnf
            exact Zf (ih _)
           ·refine Zd (Za (w64 (x9.1+1)) s0.2.1 s0.2.2.1 x9.2) (hrc (w64 (x9.1+1)) s0.2.1 s0.2.2.1 x9.2) fun x13 hx13=>?_;conv=>rhs;whnf
            exact Zf (ih _)
         ·conv=>rhs;whnf
          refine Zau rfl ?_;conv=>rhs;whnf
          refine Zau rfl ?_;conv=>rhs;whnf
          refine Zc rfl ?_ ?_<;>conv=>rhs;whnf
          ·refine Zc rfl ?_ ?_<;>conv=>rhs;whnf
           ·refine Zd (Za s0.1 x9.1 s0.2.2.1 x9.2) (hrc s0.1 x9.1 s0.2.2.1 x9.2) fun x14 hx14=>?_;conv=>rhs;whnf
            exact Zf (ih _)
           ·refine Zd (Za s0.1 x9.1 s0.2.2.1 x9.2) (hrc s0.1 x9.1 s0.2.2.1 x9.2) fun x15 hx15=>?_;conv=>rhs;whnf
            exact Zf (ih _)
          ·refine Zc rfl ?_ ?_<;>conv=>rhs;whnf
           ·refine Zd (Za (w64 (x9.1+1)) s0.2.1 s0.2.2.1 x9.2) (hrc (w64 (x9.1+1)) s0.2.1 s0.2.2.1 x9.2) fun x16 hx16=>?_;conv=>rhs;whnf
            exact Zf (ih _)
           ·refine Zd (Za (w64 (x9.1+1)) s0.2.1 s0.2.2.1 x9.2) (hrc (w64 (x9.1+1)) s0.2.1 s0.2.2.1 x9.2) fun x17 hx17=>?_;conv=>rhs;whnf
            exact Zf (ih _)
        ·refine Zd _ ZP fun x18 hx18=>?_;conv=>rhs;whnf
         exact Zf (ih _)
       ·refine Zd _ Zu fun x19 hx19=>?_
        clear hx19
        rcases x19 with x19 | x19
        ·conv=>rhs;whnf
         refine ZbW rfl ?_;conv=>rhs;whnf
         refine Zau rfl ?_;conv=>rhs;whnf
         refine Zc rfl ?_ ?_<;>conv=>rhs;whnf
         ·refine Zc rfl ?_ ?_<;>conv=>rhs;whnf
          ·refine Zd (Za s0.1 x19.1 s0.2.2.1 x19.2) (hrc s0.1 x19.1 s0.2.2.1 x19.2) fun x20 hx20=>?_;conv=>rhs;whnf
           exact Zf (ih _)
          ·refine Zd (Za s0.1 x19.1 s0.2.2.1 x19.2) (hrc s0.1 x19.1 s0.2.2.1 x19.2) fun x21 hx21=>?_;conv=>rhs;whnf
           exact Zf (ih _)
         ·refine Zc rfl ?_ ?_<;>conv=>rhs;whnf
          ·refine Zd (Za (w64 (x19.1+1)) s0.2.1 s0.2.2.1 x19.2) (hrc (w64 (x19.1+1)) s0.2.1 s0.2.2.1 x19.2) fun x22 hx22=>?_;conv=>rhs;whnf
           exact Zf (ih _)
          ·refine Zd (Za (w64 (x19.1+1)) s0.2.1 s0.2.2.1 x19.2) (hrc (w64 (x19.1+1)) s0.2.1 s0.2.2.1 x19.2) fun x23 hx23=>?_;conv=>rhs;whnf
           exact Zf (ih _)
        ·conv=>rhs;whnf
         refine Zau rfl ?_;conv=>rhs;whnf
         refine Zau rfl ?_;conv=>rhs;whnf
         refine Zc rfl ?_ ?_<;>conv=>rhs;whnf
         ·refine Zc rfl ?_ ?_<;>conv=>rhs;whnf
          ·refine Zd (Za s0.1 x19.1 s0.2.2.1 x19.2) (hrc s0.1 x19.1 s0.2.2.1 x19.2) fun x24 hx24=>?_;conv=>rhs;whnf
           exact Zf (ih _)
          ·refine Zd (Za s0.1 x19.1 s0.2.2.1 x19.2) (hrc s0.1 x19.1 s0.2.2.1 x19.2) fun x25 hx25=>?_;conv=>rhs;whnf
           exact Zf (ih _)
         ·refine Zc rfl ?_ ?_<;>conv=>rhs;whnf
          ·refine Zd (Za (w64 (x19.1+1)) s0.2.1 s0.2.2.1 x19.2) (hrc (w64 (x19.1+1)) s0.2.1 s0.2.2.1 x19.2) fun x26 hx26=>?_;conv=>rhs;whnf
           exact Zf (ih _)
          ·refine Zd (Za (w64 (x19.1+1)) s0.2.1 s0.2.2.1 x19.2) (hrc (w64 (x19.1+1)) s0.2.1 s0.2.2.1 x19.2) fun x27 hx27=>?_;conv=>rhs;whnf
           exact Zf (ih _)
     ·refine Zc rfl ?_ ?_<;>conv=>rhs;whnf
      ·refine Zd _ Zdb fun x28 hx28=>?_
       clear hx28
       rcases x28 with x28 | x28
       ·conv=>rhs;whnf
        exact Zb rfl
       ·conv=>rhs;whnf
        refine Zc rfl ?_ ?_<;>conv=>rhs;whnf
        ·refine Zn rfl rfl fun x29 hx29=>?_;conv=>rhs;whnf
         refine Zh (Zs rfl hx29) ?_;conv=>rhs;whnf
         refine Zn rfl rfl fun x30 hx30=>?_;conv=>rhs;whnf
         refine Zh (Zs rfl hx30) ?_;conv=>rhs;whnf
         refine Zi _ ZJ rfl fun x31 hx31=>?_;conv=>rhs;whnf
         refine Zc rfl ?_ ?_<;>conv=>rhs;whnf
         ·refine Zd _ Zu fun x32 hx32=>?_
          clear hx32
          rcases x32 with x32 | x32
          ·conv=>rhs;whnf
           refine ZbW rfl ?_;conv=>rhs;whnf
           refine Zau rfl ?_;conv=>rhs;whnf
           refine Zc rfl ?_ ?_<;>conv=>rhs;whnf
           ·refine Zc rfl ?_ ?_<;>conv=>rhs;whnf
            ·refine Zd (Za s0.1 x32.1 s0.2.2.1 x32.2) (hrc s0.1 x32.1 s0.2.2.1 x32.2) fun x33 hx33=>?_;conv=>rhs;whnf
             exact Zf (ih _)
            ·refine Zd (Za s0.1 x32.1 s0.2.2.1 x32.2) (hrc s0.1 x32.1 s0.2.2.1 x32.2) fun x34 hx34=>?_;conv=>rhs;whnf
             exact Zf (ih _)
           ·refine Zc rfl ?_ ?_<;>conv=>rhs;whnf
            ·refine Zd (Za (w64 (x32.1+1)) s0.2.1 s0.2.2.1 x32.2) (hrc (w64 (x32.1+1)) s0.2.1 s0.2.2.1 x32.2) fun x35 hx35=>?_;conv=>rhs;whnf
             exact Zf (ih _)
            ·refine Zd (Za (w64 (x32.1+1)) s0.2.1 s0.2.2.1 x32.2) (hrc (w64 (x32.1+1)) s0.2.1 s0.2.2.1 x32.2) fun x36 hx36=>?_;conv=>rhs;whnf
             exact Zf (ih _)
          ·conv=>rhs;whnf
           refine Zau rfl ?_;conv=>rhs;whnf
           refine Zau rfl ?_;conv=>rhs;whnf
           refine Zc rfl ?_ ?_<;>conv=>rhs;whnf
           ·refine Zc rfl ?_ ?_<;>conv=>rhs;whnf
            ·refine Zd (Za s0.1 x32.1 s0.2.2.1 x32.2) (hrc s0.1 x32.1 s0.2.2.1 x32.2) fun x37 hx37=>?_;conv=>rhs;whnf
             exact Zf (ih _)
            ·refine Zd (Za s0.1 x32.1 s0.2.2.1 x32.2) (hrc s0.1 x32.1 s0.2.2.1 x32.2) fun x38 hx38=>?_;conv=>rhs;whnf
             exact Zf (ih _)
           ·refine Zc rfl ?_ ?_<;>conv=>rhs;whnf
            ·refine Zd (Za (w64 (x32.1+1)) s0.2.1 s0.2.2.1 x32.2) (hrc (w64 (x32.1+1)) s0.2.1 s0.2.2.1 x32.2) fun x39 hx39=>?_;conv=>rhs;whnf
             exact Zf (ih _)
            ·refine Zd (Za (w64 (x32.1+1)) s0.2.1 s0.2.2.1 x32.2) (hrc (w64 (x32.1+1)) s0.2.1 s0.2.2.1 x32.2) fun x40 hx40=>?_;conv=>rhs;whnf
             exact Zf (ih _)
         ·refine Zd _ ZP fun x41 hx41=>?_;conv=>rhs;whnf
          exact Zf (ih _)
        ·refine Zd _ Zu fun x42 hx42=>?_
         clear hx42
         rcases x42 with x42 | x42
         ·conv=>rhs;whnf
          refine ZbW rfl ?_;conv=>rhs;whnf
          refine Zau rfl ?_;conv=>rhs;whnf
          refine Zc rfl ?_ ?_<;>conv=>rhs;whnf
          ·refine Zc rfl ?_ ?_<;>conv=>rhs;whnf
           ·refine Zd (Za s0.1 x42.1 s0.2.2.1 x42.2) (hrc s0.1 x42.1 s0.2.2.1 x42.2) fun x43 hx43=>?_;conv=>rhs;whnf
            exact Zf (ih _)
           ·refine Zd (Za s0.1 x42.1 s0.2.2.1 x42.2) (hrc s0.1 x42.1 s0.2.2.1 x42.2) fun x44 hx44=>?_;conv=>rhs;whnf
            exact Zf (ih _)
          ·refine Zc rfl ?_ ?_<;>conv=>rhs;whnf
           ·refine Zd (Za (w64 (x42.1+1)) s0.2.1 s0.2.2.1 x42.2) (hrc (w64 (x42.1+1)) s0.2.1 s0.2.2.1 x42.2) fun x45 hx45=>?_;conv=>rhs;whnf
            exact Zf (ih _)
           ·refine Zd (Za (w64 (x42.1+1)) s0.2.1 s0.2.2.1 x42.2) (hrc (w64 (x42.1+1)) s0.2.1 s0.2.2.1 x42.2) fun x46 hx46=>?_;conv=>rhs;whnf
            exact Zf (ih _)
         ·conv=>rhs;whnf
          refine Zau rfl ?_;conv=>rhs;whnf
          refine Zau rfl ?_;conv=>rhs;whnf
          refine Zc rfl ?_ ?_<;>conv=>rhs;whnf
          ·refine Zc rfl ?_ ?_<;>conv=>rhs;whnf
           ·refine Zd (Za s0.1 x42.1 s0.2.2.1 x42.2) (hrc s0.1 x42.1 s0.2.2.1 x42.2) fun x47 hx47=>?_;conv=>rhs;whnf
            exact Zf (ih _)
           ·refine Zd (Za s0.1 x42.1 s0.2.2.1 x42.2) (hrc s0.1 x42.1 s0.2.2.1 x42.2) fun x48 hx48=>?_;conv=>rhs;whnf
            exact Zf (ih _)
          ·refine Zc rfl ?_ ?_<;>conv=>rhs;whnf
           ·refine Zd (Za (w64 (x42.1+1)) s0.2.1 s0.2.2.1 x42.2) (hrc (w64 (x42.1+1)) s0.2.1 s0.2.2.1 x42.2) fun x49 hx49=>?_;conv=>rhs;whnf
            exact Zf (ih _)
           ·refine Zd (Za (w64 (x42.1+1)) s0.2.1 s0.2.2.1 x42.2) (hrc (w64 (x42.1+1)) s0.2.1 s0.2.2.1 x42.2) fun x50 hx50=>?_;conv=>rhs;whnf
            exact Zf (ih _)
      ·refine Zc rfl ?_ ?_<;>conv=>rhs;whnf
       ·refine Zn rfl rfl fun x51 hx51=>?_;conv=>rhs;whnf
        refine Zh (Zs rfl hx51) ?_;conv=>rhs;whnf
        refine Zn rfl rfl fun x52 hx52=>?_;conv=>rhs;whnf
        refine Zh (Zs rfl hx52) ?_;conv=>rhs;whnf
        refine Zi _ ZJ rfl fun x53 hx53=>?_;conv=>rhs;whnf
        refine Zc rfl ?_ ?_<;>conv=>rhs;whnf
        ·refine Zd _ Zu fun x54 hx54=>?_
         clear hx54
         rcases x54 with x54 | x54
         ·conv=>rhs;whnf
          refine ZbW rfl ?_;conv=>rhs;whnf
          refine Zau rfl ?_;conv=>rhs;whnf
          refine Zc rfl ?_ ?_<;>conv=>rhs;whnf
          ·refine Zc rfl ?_ ?_<;>conv=>rhs;whnf
           ·refine Zd (Za s0.1 x54.1 s0.2.2.1 x54.2) (hrc s0.1 x54.1 s0.2.2.1 x54.2) fun x55 hx55=>?_;conv=>rhs;whnf
            exact Zf (ih _)
           ·refine Zd (Za s0.1 x54.1 s0.2.2.1 x54.2) (hrc s0.1 x54.1 s0.2.2.1 x54.2) fun x56 hx56=>?_;conv=>rhs;whnf
            exact Zf (ih _)
          ·refine Zc rfl ?_ ?_<;>conv=>rhs;whnf
           ·refine Zd (Za (w64 (x54.1+1)) s0.2.1 s0.2.2.1 x54.2) (hrc (w64 (x54.1+1)) s0.2.1 s0.2.2.1 x54.2) fun x57 hx57=>?_;conv=>rhs;whnf
            exact Zf (ih _)
           ·refine Zd (Za (w64 (x54.1+1)) s0.2.1 s0.2.2.1 x54.2) (hrc (w64 (x54.1+1)) s0.2.1 s0.2.2.1 x54.2) fun x58 hx58=>?_;conv=>rhs;whnf
            exact Zf (ih _)
         ·conv=>rhs;whnf
          refine Zau rfl ?_;conv=>rhs;whnf
          refine Zau rfl ?_;conv=>rhs;whnf
          refine Zc rfl ?_ ?_<;>conv=>rhs;whnf
          ·refine Zc rfl ?_ ?_<;>conv=>rhs;whnf
           ·refine Zd (Za s0.1 x54.1 s0.2.2.1 x54.2) (hrc s0.1 x54.1 s0.2.2.1 x54.2) fun x59 hx59=>?_;conv=>rhs;whnf
            exact Zf (ih _)
           ·refine Zd (Za s0.1 x54.1 s0.2.2.1 x54.2) (hrc s0.1 x54.1 s0.2.2.1 x54.2) fun x60 hx60=>?_;conv=>rhs;whnf
            exact Zf (ih _)
          ·refine Zc rfl ?_ ?_<;>conv=>rhs;whnf
           ·refine Zd (Za (w64 (x54.1+1)) s0.2.1 s0.2.2.1 x54.2) (hrc (w64 (x54.1+1)) s0.2.1 s0.2.2.1 x54.2) fun x61 hx61=>?_;conv=>rhs;whnf
            exact Zf (ih _)
           ·refine Zd (Za (w64 (x54.1+1)) s0.2.1 s0.2.2.1 x54.2) (hrc (w64 (x54.1+1)) s0.2.1 s0.2.2.1 x54.2) fun x62 hx62=>?_;conv=>rhs;whnf
            exact Zf (ih _)
        ·refine Zd _ ZP fun x63 hx63=>?_;conv=>rhs;whnf
         exact Zf (ih _)
       ·refine Zd _ Zu fun x64 hx64=>?_
        clear hx64
        rcases x64 with x64 | x64
        ·conv=>rhs;whnf
         refine ZbW rfl ?_;conv=>rhs;whnf
         refine Zau rfl ?_;conv=>rhs;whnf
         refine Zc rfl ?_ ?_<;>conv=>rhs;whnf
         ·refine Zc rfl ?_ ?_<;>conv=>rhs;whnf
          ·refine Zd (Za s0.1 x64.1 s0.2.2.1 x64.2) (hrc s0.1 x64.1 s0.2.2.1 x64.2) fun x65 hx65=>?_;conv=>rhs;whnf
           exact Zf (ih _)
          ·refine Zd (Za s0.1 x64.1 s0.2.2.1 x64.2) (hrc s0.1 x64.1 s0.2.2.1 x64.2) fun x66 hx66=>?_;conv=>rhs;whnf
           exact Zf (ih _)
         ·refine Zc rfl ?_ ?_<;>conv=>rhs;whnf
          ·refine Zd (Za (w64 (x64.1+1)) s0.2.1 s0.2.2.1 x64.2) (hrc (w64 (x64.1+1)) s0.2.1 s0.2.2.1 x64.2) fun x67 hx67=>?_;conv=>rhs;whnf
           exact Zf (ih _)
          ·refine Zd (Za (w64 (x64.1+1)) s0.2.1 s0.2.2.1 x64.2) (hrc (w64 (x64.1+1)) s0.2.1 s0.2.2.1 x64.2) fun x68 hx68=>?_;conv=>rhs;whnf
           exact Zf (ih _)
        ·conv=>rhs;whnf
         refine Zau rfl ?_;conv=>rhs;whnf
         refine Zau rfl ?_;conv=>rhs;whnf
         refine Zc rfl ?_ ?_<;>conv=>rhs;whnf
         ·refine Zc rfl ?_ ?_<;>conv=>rhs;whnf
          ·refine Zd (Za s0.1 x64.1 s0.2.2.1 x64.2) (hrc s0.1 x64.1 s0.2.2.1 x64.2) fun x69 hx69=>?_;conv=>rhs;whnf
           exact Zf (ih _)
          ·refine Zd (Za s0.1 x64.1 s0.2.2.1 x64.2) (hrc s0.1 x64.1 s0.2.2.1 x64.2) fun x70 hx70=>?_;conv=>rhs;whnf
           exact Zf (ih _)
         ·refine Zc rfl ?_ ?_<;>conv=>rhs;whnf
          ·refine Zd (Za (w64 (x64.1+1)) s0.2.1 s0.2.2.1 x64.2) (hrc (w64 (x64.1+1)) s0.2.1 s0.2.2.1 x64.2) fun x71 hx71=>?_;conv=>rhs;whnf
           exact Zf (ih _)
          ·refine Zd (Za (w64 (x64.1+1)) s0.2.1 s0.2.2.1 x64.2) (hrc (w64 (x64.1+1)) s0.2.1 s0.2.2.1 x64.2) fun x72 hx72=>?_;conv=>rhs;whnf
           exact Zf (ih _)
theorem ZhV (rc:Int→Int→Int→(List Int)→Option (List Int)) (hrc:∀(b:Int) (c:Int) (d:Int) (m0_0:List Int) (r:List Int),rc b c d m0_0=some r→evW ctx 178 [(.sl 0 1),(.d (Ze b)),(.d (Ze c)),(.d (Ze d))] [(.arr 1 (List.map Ze m0_0))]=some ((Za b c d m0_0) r)) (b:Int) (c:Int) (d:Int) (m0_0:List Int):∀r,(ZbU rc b c d m0_0)=some r→evW ctx 178 [(.sl 0 1),(.d (Ze b)),(.d (Ze c)),(.d (Ze d))] [(.arr 1 (List.map Ze m0_0))]=some ((Za b c d m0_0) r):=by
 show ZE _ (fun r rhs=>rhs=some ((Za b c d m0_0) r)) _
 unfold ZbU
 rw[ZcU ctx 178 ZzA _ _ rfl rfl]
 conv=>rhs;whnf
 refine Zd _ (ZhE hrc _) fun r219 hr219=>?_;conv=>rhs;whnf
 exact Zb rfl
theorem Zfb:∀(n:Nat) (b:Int) (c:Int) (d:Int) (m0_0:List Int) (r:List Int),ZaS n b c d m0_0=some r→evW ctx 178 [(.sl 0 1),(.d (Ze b)),(.d (Ze c)),(.d (Ze d))] [(.arr 1 (List.map Ze m0_0))]=some ((Za b c d m0_0) r)
  | 0,b,c,d,m0_0,r,h=>by cases h
  | n+1,b,c,d,m0_0,r,h=>ZhV (ZaS n) (Zfb n) b c d m0_0 r h
theorem Zil {b c d:Int}{m0_0:List Int}:∀r,Zeh b c d m0_0=some r→evW ctx 178 [(.sl 0 1),(.d (Ze b)),(.d (Ze c)),(.d (Ze d))] [(.arr 1 (List.map Ze m0_0))]=some ((Za b c d m0_0) r):=fun r h=>by
  obtain⟨n,hn⟩:=ZBd h
  exact Zfb n b c d m0_0 r hn
def Zg1 (m0_0:List Int):(List Int)→V×Zm
  | r=>((.d (D.tup [])),[(.arr 1 (List.map Ze r))])
theorem ZgE {m0_0:List Int}:∀r,(ZbM m0_0)=some r→evW ctx 146 [(.sl 0 1)] [(.arr 1 (List.map Ze m0_0))]=some ((Zg1 m0_0) r):=by
 show ZE _ (fun r rhs=>rhs=some ((Zg1 m0_0) r)) _
 unfold ZbM
 rw[ZcU ctx 146 ZAo _ _ rfl rfl]
 conv=>rhs;whnf
 refine Zk (Zz _ _) ?_;conv=>rhs;whnf
 refine Zi _ ZjQ rfl fun x0 hx0=>?_;conv=>rhs;whnf
 refine Zd _ Zil fun x1 hx1=>?_;conv=>rhs;whnf
 exact Zb rfl
def Znh (m0_0:List Int) (m1_0:List Int):((List Int)×(List Int)×(List Int))→V×Zm
  | r=>((.sl 2 1),[(.arr 1 (List.map Ze r.1)),(.arr 1 (List.map Ze r.2.1)),(.arr 1 (List.map Ze r.2.2))])
def ZkB (m0_0:List Int):((List Int)×(List Int)×(List Int))→Ex×List V×Zm
  | r=>(.exit 0,[(.sl 2 1)],[(.arr 1 (List.map Ze r.1)),(.arr 1 (List.map Ze r.2.1)),(.arr 1 (List.map Ze r.2.2))])
theorem Zou {m0_0:List Int}:∀(s0:Int×(List Int)×(List Int)×(List Int)) (r:((List Int)×(List Int)×(List Int))),lp (ZeP m0_0) s0=some r→lpW ctx 2 [1,3,7,8,9] [3] ZxN [(.ptr 2 0),(.sl 3 1),(.sl 0 1),(.d (Ze (m0_0.length:Int))),(.d (Ze s0.1))] [(.arr 1 (List.map Ze s0.2.1)),(.arr 1 (List.map Ze s0.2.2.1)),(.cells [(.sl 0 1),(.sl 1 1)]),(.arr 1 (List.map Ze s0.2.2.2))]=some ((ZkB m0_0) r):=by
 refine Zbm (ZkB m0_0) ?_
 intro s0 rcl ih
 show ZE _ _ (lpW _ _ _ _ _ _ _)
 unfold ZeP
 rw[Zbn]
 conv=>rhs;whnf
 refine Zc rfl ?_ ?_<;>conv=>rhs;whnf
 ·refine Zn rfl rfl fun x1 hx1=>?_;conv=>rhs;whnf
  refine Zh (Zs rfl hx1) ?_;conv=>rhs;whnf
  refine Zc rfl ?_ ?_<;>conv=>rhs;whnf
  ·exact Zf (ih _)
  ·refine Zn rfl rfl fun x2 hx2=>?_;conv=>rhs;whnf
   refine Zh (Zs rfl hx2) ?_;conv=>rhs;whnf
   refine Zh (Za8 rfl hx2) ?_;conv=>rhs;whnf
   refine Zh (Zs rfl hx2) ?_;conv=>rhs;whnf
   refine Zk (Zan Ze s0.2.2.1 x1.toNat (w64 (x2-1))) ?_;conv=>rhs;whnf
   refine Zi _ ZgL rfl fun x3 hx3=>?_;conv=>rhs;whnf
   refine Zc rfl ?_ ?_<;>conv=>rhs;whnf
   ·refine Zh (Za8 rfl hx1) ?_;conv=>rhs;whnf
    refine Zh (Zs rfl hx1) ?_;conv=>rhs;whnf
    refine Zk (Zan Ze s0.2.1 s0.1.toNat (-1)) ?_;conv=>rhs;whnf
    refine ZbW rfl ?_;conv=>rhs;whnf
    refine Zc (Zhm Ze s0.2.2.2 1) ?_ ?_
    ·conv=>rhs;whnf
     refine Zk (Zhl Ze s0.2.2.2 [x1]) ?_;conv=>rhs;whnf
     exact Zf (ih _)
    ·exact ZO
   ·exact Zf (ih _)
 ·exact Zb rfl
theorem ZqB {m0_0:List Int}{m1_0:List Int}:∀r,(Zkg m0_0 m1_0)=some r→evW ctx 88 [(.agg [(.sl 0 1),(.sl 1 1)])] [(.arr 1 (List.map Ze m0_0)),(.arr 1 (List.map Ze m1_0))]=some ((Znh m0_0 m1_0) r):=by
 show ZE _ (fun r rhs=>rhs=some ((Znh m0_0 m1_0) r)) _
 unfold Zkg
 rw[ZcU ctx 88 ZCF _ _ rfl rfl]
 conv=>rhs;whnf
 refine Zk (Zz _ _) ?_;conv=>rhs;whnf
 refine Zd _ (Zou _) fun r4 hr4=>?_;conv=>rhs;whnf
 refine Zd _ ZgE fun x5 hx5=>?_;conv=>rhs;whnf
 exact Zb rfl
def ZnC (t0:Bool) (t1:Bool) (t2:Bool) (t3:Bool) (a:ZD) (b:Zar):(Int⊕((List Int)×(List Int)×(List Int)))→V×Zm
  | (.inl r)=>((.tup [(.agg [(.nilsl 1),(.nilsl 1)]),(.nilsl 1),(.d (Ze r))]),[])
  | (.inr r)=>((.tup [(.agg [(.sl 0 1),(.sl 1 1)]),(.sl 2 1),(.d (Ze 0))]),[(.arr 1 (List.map Ze r.1)),(.arr 1 (List.map Ze r.2.1)),(.arr 1 (List.map Ze r.2.2))])
theorem Zqp {t0 t1:Bool}{t2 t3:Bool}{a:ZD}{b:Zar}:∀r,(Ziw a b)=some r→evW ctx 96 [(.d (D.agg [(zL t0 a.work),(D.list t1 (List.map ZW a.edges))])),(.d (D.agg [(zL t2 b.on),(zL t3 b.left)]))] []=some ((ZnC t0 t1 t2 t3 a b) r):=by
 show ZE _ (fun r rhs=>rhs=some ((ZnC t0 t1 t2 t3 a b) r)) _
 unfold Ziw
 rw[ZcU ctx 96 ZCc _ _ rfl rfl]
 conv=>rhs;whnf
 refine Zi _ ZiS rfl fun x0 hx0=>?_;conv=>rhs;whnf
 refine Zc rfl ?_ ?_<;>conv=>rhs;whnf
 ·exact Zb rfl
 ·refine Zd _ ZrH fun x1 hx1=>?_;conv=>rhs;whnf
  refine Zd _ ZqB fun x2 hx2=>?_;conv=>rhs;whnf
  exact Zb rfl
def ZlW (r:(Int×Bool)):D:=(D.tup [(Ze r.1),(D.bool r.2)])
theorem Zpi {a:ZX}{b0:Int}:∀r,(Zft a b0)=some r→evD ctx 150 [(.d (D.agg [(Ze a.src),(Ze a.dst)])),(.d (D.rptr [(Ze b0)]))]=some (ZlW r):=by
 show ZE _ (fun r rhs=>rhs=some (ZlW r)) _
 unfold Zft
 rw[ZaH ctx 150 Zx9 _ rfl rfl]
 conv=>rhs;whnf
 refine Zc rfl ?_ ?_<;>conv=>rhs;whnf
 ·exact Zb rfl
 ·exact Zb rfl
def Zhc (r:List Int):D:=(zL true r)
def Zgm (t1:Bool) (a:ZD) (b0:Int):(List Int)→Ex×List V×Zm
  | r=>(.exit 0,[(.sl 0 1)],[(.arr 1 (List.map Ze r))])
theorem ZiR {t1:Bool}{a:ZD}{b0:Int}:∀(s0:Int×(List Int)) (r:List Int),lp (ZgV a (fun z0=>Zft z0 b0)) s0=some r→lpW ctx 0 [1,5,11,12,13] [5] Zwx [(.d (D.fn 150 [(D.rptr [(Ze b0)])])),(.sl 0 1),(.d (D.list t1 (List.map ZW a.edges))),(.d (Ze (a.edges.length:Int))),(.d (Ze s0.1))] [(.arr 1 (List.map Ze s0.2))]=some ((Zgm t1 a b0) r):=by
 refine Zbm (Zgm t1 a b0) ?_
 intro s0 rcl ih
 show ZE _ _ (lpW _ _ _ _ _ _ _)
 unfold ZgV
 rw[Zbn]
 conv=>rhs;whnf
 refine Zc rfl ?_ ?_<;>conv=>rhs;whnf
 ·refine Zn rfl rfl fun x1 hx1=>?_;conv=>rhs;whnf
  refine Zi _ Zpi rfl fun x2 hx2=>?_;conv=>rhs;whnf
  refine Zc rfl ?_ ?_<;>conv=>rhs;whnf
  ·refine ZbW rfl ?_;conv=>rhs;whnf
   refine Zc (Zhm Ze s0.2 1) ?_ ?_
   ·conv=>rhs;whnf
    refine Zk (Zhl Ze s0.2 [x2.1]) ?_;conv=>rhs;whnf
    exact Zf (ih _)
   ·exact ZO
  ·exact Zf (ih _)
 ·exact Zb rfl
theorem Zj0 {t0 t1:Bool}{a:ZD}{b0:Int}:∀r,(ZmW a (fun z0=>Zft z0 b0))=some r→evD ctx 149 [(.d (D.agg [(zL t0 a.work),(D.list t1 (List.map ZW a.edges))])),(.d (D.fn 150 [(D.rptr [(Ze b0)])]))]=some (Zhc r):=by
 show ZE _ (fun r rhs=>rhs=some (Zhc r)) _
 unfold ZmW
 rw[ZaH ctx 149 ZzV _ rfl rfl]
 conv=>rhs;whnf
 refine Zk (Zz _ _) ?_;conv=>rhs;whnf
 refine Zd _ (ZiR _) fun r3 hr3=>?_;conv=>rhs;whnf
 refine Zd _ ZgE fun x4 hx4=>?_;conv=>rhs;whnf
 exact Zb rfl
def Znk (r:List Int):D:=(zL true r)
theorem Zq4 {t0 t1:Bool}{a:ZD}{b:Int}:∀r,(Ziz a b)=some r→evD ctx 97 [(.d (D.agg [(zL t0 a.work),(D.list t1 (List.map ZW a.edges))])),(.d (Ze b))]=some (Znk r):=by
 show ZE _ (fun r rhs=>rhs=some (Znk r)) _
 unfold Ziz
 rw[ZaH ctx 97 ZCt _ rfl rfl]
 conv=>rhs;whnf
 refine Zi _ ZjN rfl fun x0 hx0=>?_;conv=>rhs;whnf
 refine Zc rfl ?_ ?_<;>conv=>rhs;whnf
 ·exact Zb rfl
 ·refine Zi _ Zj0 rfl fun x1 hx1=>?_;conv=>rhs;whnf
  exact Zb rfl
def Zjc (t0:Bool) (t1:Bool) (m0_0:List Int) (m0_1:List ZX) (m0_2:Int) (m1_0:List Int) (m2_0:List Int) (m3_0:List Zj) (m4_0:List Zp) (m5_0:List Int):(Int⊕(((List Zj)×(List Int)×(List Int))⊕((List Zj)×(List Int)×(List Int)×(List Int))))→V×Zm
  | (.inl r)=>((.tup [(.nilsl 1),(.d (Ze r))]),[(.cells [(.sl 1 1),(.sl 2 1),(.sl 3 3),(.sl 4 6),(.sl 5 1),(.d (zL t0 m0_0)),(.d (D.list t1 (List.map ZW m0_1))),(.d (Ze m0_2))]),(.arr 1 (List.map Ze m1_0)),(.arr 1 (List.map Ze m2_0)),(.arr 3 (List.map Z4 m3_0)),(.arr 6 (List.map Zaa m4_0)),(.arr 1 (List.map Ze m5_0))])
  | (.inr (.inl r))=>((.tup [(.nilsl 1),(.d (Ze 130))]),[(.cells [(.sl 6 1),(.sl 7 1),(.sl 3 3),(.sl 4 6),(.sl 5 1),(.d (zL t0 m0_0)),(.d (D.list t1 (List.map ZW m0_1))),(.d (Ze m0_2))]),(.arr 1 (List.map Ze m1_0)),(.arr 1 (List.map Ze m2_0)),(.arr 3 (List.map Z4 r.1)),(.arr 6 (List.map Zaa m4_0)),(.arr 1 (List.map Ze m5_0)),(.arr 1 (List.map Ze r.2.1)),(.arr 1 (List.map Ze r.2.2))])
  | (.inr (.inr r))=>((.tup [(.sl 6 1),(.d (Ze 0))]),[(.cells [(.sl 7 1),(.sl 8 1),(.sl 3 3),(.sl 4 6),(.sl 5 1),(.d (zL t0 m0_0)),(.d (D.list t1 (List.map ZW m0_1))),(.d (Ze m0_2))]),(.arr 1 (List.map Ze m1_0)),(.arr 1 (List.map Ze m2_0)),(.arr 3 (List.map Z4 r.1)),(.arr 6 (List.map Zaa m4_0)),(.arr 1 (List.map Ze m5_0)),(.arr 1 (List.map Ze r.2.1)),(.arr 1 (List.map Ze r.2.2.1)),(.arr 1 (List.map Ze r.2.2.2))])
def ZhJ (t0:Bool) (t1:Bool) (m0_0:List Int) (m0_1:List ZX) (m0_2:Int) (m1_0:List Int) (m2_0:List Int) (m4_0:List Zp) (m5_0:List Int) (x1:((List Int)×(List Int)×(List Int))) (x2:List Int) (s3:Int×(List Zj)×(List Int)) (x6:List Int):(((List Zj)×(List Int))⊕((List Zj)×(List Int)))→Ex×List V×Zm
  | (.inl r)=>(.ret,[(.ptr 0 0),(.nilsl 1),(.d (Ze 130)),(.sl 6 1),(.d (zL true x2)),(.fn 1000054 [(.ptr 0 0)]),(.sl 7 1),(.sl 8 1),(.d (Ze (m1_0.length:Int))),(.d (Ze s3.1))],[(.cells [(.sl 9 1),(.sl 10 1),(.sl 3 3),(.sl 4 6),(.sl 5 1),(.d (zL t0 m0_0)),(.d (D.list t1 (List.map ZW m0_1))),(.d (Ze m0_2))]),(.arr 1 (List.map Ze m1_0)),(.arr 1 (List.map Ze m2_0)),(.arr 3 (List.map Z4 r.1)),(.arr 6 (List.map Zaa m4_0)),(.arr 1 (List.map Ze m5_0)),(.arr 1 (List.map Ze x1.2.2)),(.arr 1 (List.map Ze r.2)),(.arr 1 (List.map Ze m1_0)),(.arr 1 (List.map Ze x1.1)),(.arr 1 (List.map Ze x1.2.1))])
  | (.inr r)=>(.exit 2,[(.ptr 0 0),.bad,.bad,(.sl 6 1),(.d (zL true x2)),(.fn 1000054 [(.ptr 0 0)]),(.sl 7 1),(.sl 8 1),(.d (Ze (m1_0.length:Int))),(.d (Ze s3.1))],[(.cells [(.sl 9 1),(.sl 10 1),(.sl 3 3),(.sl 4 6),(.sl 5 1),(.d (zL t0 m0_0)),(.d (D.list t1 (List.map ZW m0_1))),(.d (Ze m0_2))]),(.arr 1 (List.map Ze m1_0)),(.arr 1 (List.map Ze m2_0)),(.arr 3 (List.map Z4 r.1)),(.arr 6 (List.map Zaa m4_0)),(.arr 1 (List.map Ze m5_0)),(.arr 1 (List.map Ze x1.2.2)),(.arr 1 (List.map Ze r.2)),(.arr 1 (List.map Ze m1_0)),(.arr 1 (List.map Ze x1.1)),(.arr 1 (List.map Ze x1.2.1))])
theorem Zk5 {t0 t1:Bool}{m0_0:List Int}{m0_1:List ZX}{m0_2:Int}{m1_0:List Int}{m2_0:List Int}{m4_0:List Zp}{m5_0:List Int}{x1:((List Int)×(List Int)×(List Int))}{x2:List Int}{s3:Int×(List Zj)×(List Int)}{x6:List Int}:∀(s7:Int×(List Zj)×(List Int)) (r:(((List Zj)×(List Int))⊕((List Zj)×(List Int)))),lp (Zcl x2 s3 x6) s7=some r→lpW ctx 6 [0,6,8,9,10,11,52,53,54,78,79,80] [0,2,3,6,8,9,10,52,53,54] ZAs [(.ptr 0 0),(.sl 6 1),(.d (zL true x2)),(.fn 1000054 [(.ptr 0 0)]),(.sl 7 1),(.d (Ze s3.1)),(.sl 8 1),(.d (Ze (m1_0.length:Int))),(.d (Ze s3.1)),(.d (zL true x6)),(.d (Ze (x6.length:Int))),(.d (Ze s7.1))] [(.cells [(.sl 9 1),(.sl 10 1),(.sl 3 3),(.sl 4 6),(.sl 5 1),(.d (zL t0 m0_0)),(.d (D.list t1 (List.map ZW m0_1))),(.d (Ze m0_2))]),(.arr 1 (List.map Ze m1_0)),(.arr 1 (List.map Ze m2_0)),(.arr 3 (List.map Z4 s7.2.1)),(.arr 6 (List.map Zaa m4_0)),(.arr 1 (List.map Ze m5_0)),(.arr 1 (List.map Ze x1.2.2)),(.arr 1 (List.map Ze s7.2.2)),(.arr 1 (List.map Ze m1_0)),(.arr 1 (List.map Ze x1.1)),(.arr 1 (List.map Ze x1.2.1))]=some ((ZhJ t0 t1 m0_0 m0_1 m0_2 m1_0 m2_0 m4_0 m5_0 x1 x2 s3 x6) r):=by
 refine Zbm (ZhJ t0 t1 m0_0 m0_1 m0_2 m1_0 m2_0 m4_0 m5_0 x1 x2 s3 x6) ?_
 intro s7 rcl ih
 show ZE _ _ (lpW _ _ _ _ _ _ _)
 unfold Zcl
 rw[Zbn]
 conv=>rhs;whnf
 refine Zc rfl ?_ ?_<;>conv=>rhs;whnf
 ·refine Zn rfl rfl fun x8 hx8=>?_;conv=>rhs;whnf
  refine Zi _ Zbj rfl fun x9 hx9=>?_;conv=>rhs;whnf
  refine Zc rfl ?_ ?_<;>conv=>rhs;whnf
  ·refine Zi _ Zbj rfl fun x10 hx10=>?_;conv=>rhs;whnf
   refine Zc rfl ?_ ?_<;>conv=>rhs;whnf
   ·exact Zf (ih _)
   ·refine Zd _ ZiD fun x11 hx11=>?_
    clear hx11
    rcases x11 with x11 | x11
    ·conv=>rhs;whnf
     refine ZbW rfl ?_;conv=>rhs;whnf
     refine Zc (Zhm Ze s7.2.2 1) ?_ ?_
     ·conv=>rhs;whnf
      refine Zk (Zhl Ze s7.2.2 [x8]) ?_;conv=>rhs;whnf
      exact Zf (ih _)
     ·exact ZO
    ·conv=>rhs;whnf
     exact Zb rfl
  ·exact Zf (ih _)
 ·exact Zb rfl
def ZhG (t0:Bool) (t1:Bool) (m0_0:List Int) (m0_1:List ZX) (m0_2:Int) (m1_0:List Int) (m2_0:List Int) (m4_0:List Zp) (m5_0:List Int) (x1:((List Int)×(List Int)×(List Int))) (x2:List Int):((List Zj)⊕(List Zj))→Ex×List V×Zm
  | (.inl r)=>(.ret,[(.nilsl 1),(.d (Ze 130)),(.sl 6 1)],[(.cells [(.sl 7 1),(.sl 8 1),(.sl 3 3),(.sl 4 6),(.sl 5 1),(.d (zL t0 m0_0)),(.d (D.list t1 (List.map ZW m0_1))),(.d (Ze m0_2))]),(.arr 1 (List.map Ze m1_0)),(.arr 1 (List.map Ze m2_0)),(.arr 3 (List.map Z4 r)),(.arr 6 (List.map Zaa m4_0)),(.arr 1 (List.map Ze m5_0)),(.arr 1 (List.map Ze x1.2.2)),(.arr 1 (List.map Ze x1.1)),(.arr 1 (List.map Ze x1.2.1))])
  | (.inr r)=>(.exit 0,[.bad,.bad,(.sl 6 1)],[(.cells [(.sl 7 1),(.sl 8 1),(.sl 3 3),(.sl 4 6),(.sl 5 1),(.d (zL t0 m0_0)),(.d (D.list t1 (List.map ZW m0_1))),(.d (Ze m0_2))]),(.arr 1 (List.map Ze m1_0)),(.arr 1 (List.map Ze m2_0)),(.arr 3 (List.map Z4 r)),(.arr 6 (List.map Zaa m4_0)),(.arr 1 (List.map Ze m5_0)),(.arr 1 (List.map Ze x1.2.2)),(.arr 1 (List.map Ze x1.1)),(.arr 1 (List.map Ze x1.2.1))])
theorem ZkQ {t0 t1:Bool}{m0_0:List Int}{m0_1:List ZX}{m0_2:Int}{m1_0:List Int}{m2_0:List Int}{m4_0:List Zp}{m5_0:List Int}{x1:((List Int)×(List Int)×(List Int))}{x2:List Int}:∀(s3:Int×(List Zj)×(List Int)) (r:((List Zj)⊕(List Zj))),lp (Zcn m0_0 m0_1 m1_0 x1 x2) s3=some r→lpW ctx 6 [0,6,8,9,10,52,53,54] [2,3,6] ZyJ [(.ptr 0 0),(.sl 6 1),(.d (zL true x2)),(.fn 1000054 [(.ptr 0 0)]),(.sl 7 1),(.sl 8 1),(.d (Ze (m1_0.length:Int))),(.d (Ze s3.1))] [(.cells [(.sl 9 1),(.sl 10 1),(.sl 3 3),(.sl 4 6),(.sl 5 1),(.d (zL t0 m0_0)),(.d (D.list t1 (List.map ZW m0_1))),(.d (Ze m0_2))]),(.arr 1 (List.map Ze m1_0)),(.arr 1 (List.map Ze m2_0)),(.arr 3 (List.map Z4 s3.2.1)),(.arr 6 (List.map Zaa m4_0)),(.arr 1 (List.map Ze m5_0)),(.arr 1 (List.map Ze x1.2.2)),(.arr 1 (List.map Ze s3.2.2)),(.arr 1 (List.map Ze m1_0)),(.arr 1 (List.map Ze x1.1)),(.arr 1 (List.map Ze x1.2.1))]=some ((ZhG t0 t1 m0_0 m0_1 m0_2 m1_0 m2_0 m4_0 m5_0 x1 x2) r):=by
 refine Zbm (ZhG t0 t1 m0_0 m0_1 m0_2 m1_0 m2_0 m4_0 m5_0 x1 x2) ?_
 intro s3 rcl ih
 show ZE _ _ (lpW _ _ _ _ _ _ _)
 unfold Zcn
 rw[Zbn]
 conv=>rhs;whnf
 refine Zc rfl ?_ ?_<;>conv=>rhs;whnf
 ·refine Zn rfl rfl fun x4 hx4=>?_;conv=>rhs;whnf
  refine Zh (Zs rfl hx4) ?_;conv=>rhs;whnf
  refine Zc rfl ?_ ?_<;>conv=>rhs;whnf
  ·exact Zf (ih _)
  ·refine Zn rfl rfl fun x5 hx5=>?_;conv=>rhs;whnf
   refine Zh (Zs rfl hx5) ?_;conv=>rhs;whnf
   refine Zc rfl ?_ ?_<;>conv=>rhs;whnf
   ·exact Zf (ih _)
   ·refine Zi _ Zq4 rfl fun x6 hx6=>?_;conv=>rhs;whnf
    refine Zk (Zz _ _) ?_;conv=>rhs;whnf
    refine Zd _ (Zk5 _) fun r12 hr12=>?_
    clear hr12
    rcases r12 with r12 | r12
    ·conv=>rhs;whnf
     exact Zb rfl
    ·conv=>rhs;whnf
     exact Zf (ih _)
 ·exact Zb rfl
theorem ZmP {t0 t1:Bool}{m0_0:List Int}{m0_1:List ZX}{m0_2:Int}{m1_0:List Int}{m2_0:List Int}{m3_0:List Zj}{m4_0:List Zp}{m5_0:List Int}:∀r,(Zfg m0_0 m0_1 m1_0 m2_0 m3_0)=some r→evW ctx 48 [(.ptr 0 0)] [(.cells [(.sl 1 1),(.sl 2 1),(.sl 3 3),(.sl 4 6),(.sl 5 1),(.d (zL t0 m0_0)),(.d (D.list t1 (List.map ZW m0_1))),(.d (Ze m0_2))]),(.arr 1 (List.map Ze m1_0)),(.arr 1 (List.map Ze m2_0)),(.arr 3 (List.map Z4 m3_0)),(.arr 6 (List.map Zaa m4_0)),(.arr 1 (List.map Ze m5_0))]=some ((Zjc t0 t1 m0_0 m0_1 m0_2 m1_0 m2_0 m3_0 m4_0 m5_0) r):=by
 show ZE _ (fun r rhs=>rhs=some ((Zjc t0 t1 m0_0 m0_1 m0_2 m1_0 m2_0 m3_0 m4_0 m5_0) r)) _
 unfold Zfg
 rw[ZcU ctx 48 ZCG _ _ rfl rfl]
 conv=>rhs;whnf
 refine Zd _ Zaw fun x0 hx0=>?_;conv=>rhs;whnf
 refine Zd _ Zqp fun x1 hx1=>?_
 clear hx1
 rcases x1 with x1 | x1
 ·conv=>rhs;whnf
  refine Zc rfl ?_ ?_
  ·conv=>rhs;whnf
   exact Zb rfl
  ·exact ZO
 ·conv=>rhs;whnf
  refine Zau rfl ?_;conv=>rhs;whnf
  refine Zi _ ZiV rfl fun x2 hx2=>?_;conv=>rhs;whnf
  refine Zk (Zz _ _) ?_;conv=>rhs;whnf
  refine Zd _ (ZkQ _) fun r13 hr13=>?_
  clear hr13
  rcases r13 with r13 | r13
  ·conv=>rhs;whnf
   exact Zb rfl
  ·conv=>rhs;whnf
   exact Zb rfl
def Zmv (r:(Zbu×(List Int)×Int)):D:=(D.tup [(D.agg [(zL true r.1.crew.on),(zL true r.1.crew.left),(D.list true (List.map Z4 r.1.deques)),(D.list true (List.map Zaa r.1.takers)),(zL true r.1.from_)]),(zL true r.2.1),(Ze r.2.2)])
theorem ZlM {t0 t1:Bool}{t2 t3:Bool}{t4 t5 t6:Bool}{a:ZD}{b:Zbu}:∀r,(Zf3 a b)=some r→evD ctx 41 [(.d (D.agg [(zL t0 a.work),(D.list t1 (List.map ZW a.edges))])),(.d (D.agg [(zL t2 b.crew.on),(zL t3 b.crew.left),(D.list t4 (List.map Z4 b.deques)),(D.list t5 (List.map Zaa b.takers)),(zL t6 b.from_)]))]=some (Zmv r):=by
 show ZE _ (fun r rhs=>rhs=some (Zmv r)) _
 unfold Zf3
 rw[ZaH ctx 41 ZCv _ rfl rfl]
 conv=>rhs;whnf
 refine Zi _ ZbL rfl fun x0 hx0=>?_;conv=>rhs;whnf
 refine Zc rfl ?_ ?_<;>conv=>rhs;whnf
 ·exact Zb rfl
 ·refine Zd _ ZmL fun x1 hx1=>?_;conv=>rhs;whnf
  refine Zd _ ZmP fun x2 hx2=>?_
  clear hx2
  rcases x2 with x2 | (x2 | x2)
  ·conv=>rhs;whnf
   refine Zc rfl ?_ ?_
   ·conv=>rhs;whnf
    exact Zb rfl
   ·exact ZO
  ·conv=>rhs;whnf
   refine ZbW rfl ?_;conv=>rhs;whnf
   exact Zb rfl
  ·conv=>rhs;whnf
   refine Zau rfl ?_;conv=>rhs;whnf
   exact Zb rfl
def ZlN (r:(Zbu×Bool)):D:=(D.tup [(D.agg [(zL true r.1.crew.on),(zL true r.1.crew.left),(D.list true (List.map Z4 r.1.deques)),(D.list true (List.map Zaa r.1.takers)),(zL true r.1.from_)]),(D.bool r.2)])
def ZjX (t0:Bool) (t1:Bool) (t3:Bool) (a:ZD) (d:List Int) (e:Int) (x2:Int):Unit→Ex×List V×Zm
  | r=>(.exit 0,[(.ptr 0 0),.bad,(.ptr 1 0),(.d (Ze x2))],[(.cells [(.sl 2 1),(.sl 3 1),(.sl 4 3),(.sl 5 6),(.sl 6 1)]),(.cells [(.sl 7 1),(.sl 8 1),(.sl 9 3),(.sl 10 6),(.sl 11 1)]),(.arr 1 []),(.arr 1 []),(.arr 3 []),(.arr 6 []),(.arr 1 []),(.arr 1 []),(.arr 1 []),(.arr 3 []),(.arr 6 []),(.arr 1 [])])
theorem Zm9 {t0 t1 t3:Bool}{a:ZD}{d:List Int}{e x2:Int}:∀(s3:Unit) (r:Unit),lp (ZfJ e x2) s3=some r→lpW ctx 0 [3,4,5,10,12,13,14] [10,11,12,13] Zta [(.d (zL t3 d)),(.d (Ze e)),(.ptr 0 0),(.ptr 1 0),(.ptr 2 0),(.d (Ze x2)),(.d (Ze 0))] [(.cells [(.d (zL t0 a.work)),(.d (D.list t1 (List.map ZW a.edges)))]),(.cells [(.sl 3 1),(.sl 4 1),(.sl 5 3),(.sl 6 6),(.sl 7 1)]),(.cells [(.sl 8 1),(.sl 9 1),(.sl 10 3),(.sl 11 6),(.sl 12 1)]),(.arr 1 []),(.arr 1 []),(.arr 3 []),(.arr 6 []),(.arr 1 []),(.arr 1 []),(.arr 1 []),(.arr 3 []),(.arr 6 []),(.arr 1 [])]=some ((ZjX t0 t1 t3 a d e x2) r):=by
 refine Zbm (ZjX t0 t1 t3 a d e x2) ?_
 intro s3 rcl ih
 show ZE _ _ (lpW _ _ _ _ _ _ _)
 unfold ZfJ
 rw[Zbn]
 conv=>rhs;whnf
 refine Zc rfl ?_ ?_<;>conv=>rhs;whnf
 ·refine Zc rfl ?_ ?_
  ·exact ZO
  ·conv=>rhs;whnf
   exact Zb rfl
 ·exact Zb rfl
def Ziv (t0:Bool) (t1:Bool) (t3:Bool) (a:ZD) (d:List Int) (e:Int):(((List Int)×(List Int)×(List Zj)×(List Zp)×(List Int)×(List Int)×(List Int)×(List Zj)×(List Zp)×(List Int))⊕((List Int)×(List Int)×(List Zj)×(List Zp)×(List Int)))→Ex×List V×Zm
  | (.inl r)=>(.ret,[(.ptr 0 0),(.d (D.bool false)),(.ptr 1 0),(.d (Ze 0))],[(.cells [(.d (zL true r.1)),(.d (zL true r.2.1)),(.d (D.list true (List.map Z4 r.2.2.1))),(.d (D.list true (List.map Zaa r.2.2.2.1))),(.d (zL true r.2.2.2.2.1))]),(.cells [(.d (zL true r.2.2.2.2.2.1)),(.d (zL true r.2.2.2.2.2.2.1)),(.d (D.list true (List.map Z4 r.2.2.2.2.2.2.2.1))),(.d (D.list true (List.map Zaa r.2.2.2.2.2.2.2.2.1))),(.d (zL true r.2.2.2.2.2.2.2.2.2))])])
  | (.inr r)=>(.exit 0,[(.ptr 0 0),.bad,(.ptr 1 0),(.d (Ze 0))],[(.cells [(.sl 2 1),(.sl 3 1),(.sl 4 3),(.sl 5 6),(.sl 6 1)]),(.cells [(.d (zL true r.1)),(.d (zL true r.2.1)),(.d (D.list true (List.map Z4 r.2.2.1))),(.d (D.list true (List.map Zaa r.2.2.2.1))),(.d (zL true r.2.2.2.2))]),(.arr 1 []),(.arr 1 []),(.arr 3 []),(.arr 6 []),(.arr 1 [])])
theorem ZlZ {t0 t1 t3:Bool}{a:ZD}{d:List Int}{e:Int}:∀(s13:Int×(List Int)×(List Int)×(List Zj)×(List Zp)×(List Int)) (r:(((List Int)×(List Int)×(List Zj)×(List Zp)×(List Int)×(List Int)×(List Int)×(List Zj)×(List Zp)×(List Int))⊕((List Int)×(List Int)×(List Zj)×(List Zp)×(List Int)))),lp (ZcZ a d e) s13=some r→lpW ctx 0 [3,4,5,10,12,13,14] [10,11,12,13] Zta [(.d (zL t3 d)),(.d (Ze e)),(.ptr 0 0),(.ptr 1 0),(.ptr 2 0),(.d (Ze 0)),(.d (Ze s13.1))] [(.cells [(.d (zL t0 a.work)),(.d (D.list t1 (List.map ZW a.edges)))]),(.cells [(.sl 3 1),(.sl 4 1),(.sl 5 3),(.sl 6 6),(.sl 7 1)]),(.cells [(.d (zL true s13.2.1)),(.d (zL true s13.2.2.1)),(.d (D.list true (List.map Z4 s13.2.2.2.1))),(.d (D.list true (List.map Zaa s13.2.2.2.2.1))),(.d (zL true s13.2.2.2.2.2))]),(.arr 1 []),(.arr 1 []),(.arr 3 []),(.arr 6 []),(.arr 1 [])]=some ((Ziv t0 t1 t3 a d e) r):=by
 refine Zbm (Ziv t0 t1 t3 a d e) ?_
 intro s13 rcl ih
 show ZE _ _ (lpW _ _ _ _ _ _ _)
 unfold ZcZ
 rw[Zbn]
 conv=>rhs;whnf
 refine Zc rfl ?_ ?_<;>conv=>rhs;whnf
 ·refine ZbW rfl ?_;conv=>rhs;whnf
  refine Zd _ Zco fun x14 hx14=>?_;conv=>rhs;whnf
  refine Zd _ ZdU fun x15 hx15=>?_;conv=>rhs;whnf
  refine Zd _ Zd3 fun x16 hx16=>?_;conv=>rhs;whnf
  refine Zi _ Ze2 rfl fun x17 hx17=>?_;conv=>rhs;whnf
  refine Zd _ Zco fun x18 hx18=>?_;conv=>rhs;whnf
  refine Zd _ ZdU fun x19 hx19=>?_;conv=>rhs;whnf
  refine Zi _ ZlM rfl fun x20 hx20=>?_;conv=>rhs;whnf
  refine Zc rfl ?_ ?_<;>conv=>rhs;whnf
  ·exact Zb rfl
  ·refine Zc rfl ?_ ?_<;>conv=>rhs;whnf
   ·exact Zb rfl
   ·exact Zf (ih _)
 ·exact Zb rfl
def ZiE (t0:Bool) (t1:Bool) (t3:Bool) (a:ZD) (b:List Int) (c:Int) (d:List Int) (e:Int) (x2:((List Int)×(List Zj))):(((List Int)×(List Int)×(List Zj)×(List Zp)×(List Int)×(List Int)×(List Int)×(List Zj)×(List Zp)×(List Int))⊕(((List Int)×(List Int)×(List Zj)×(List Zp)×(List Int))⊕Unit))→Ex×List V×Zm
  | (.inl r)=>(.ret,[(.ptr 0 0),(.d (D.bool false)),(.ptr 1 0),(.d (Ze 0))],[(.cells [(.d (zL true r.1)),(.d (zL true r.2.1)),(.d (D.list true (List.map Z4 r.2.2.1))),(.d (D.list true (List.map Zaa r.2.2.2.1))),(.d (zL true r.2.2.2.2.1))]),(.cells [(.d (zL true r.2.2.2.2.2.1)),(.d (zL true r.2.2.2.2.2.2.1)),(.d (D.list true (List.map Z4 r.2.2.2.2.2.2.2.1))),(.d (D.list true (List.map Zaa r.2.2.2.2.2.2.2.2.1))),(.d (zL true r.2.2.2.2.2.2.2.2.2))])])
  | (.inr (.inl r))=>(.exit 0,[(.ptr 0 0),.bad,(.ptr 1 0),(.d (Ze 0))],[(.cells [(.sl 2 1),(.sl 3 1),(.sl 4 3),(.sl 5 6),(.sl 6 1)]),(.cells [(.d (zL true r.1)),(.d (zL true r.2.1)),(.d (D.list true (List.map Z4 r.2.2.1))),(.d (D.list true (List.map Zaa r.2.2.2.1))),(.d (zL true r.2.2.2.2))]),(.arr 1 []),(.arr 1 []),(.arr 3 []),(.arr 6 []),(.arr 1 [])])
  | (.inr (.inr r))=>(.exit 0,[(.ptr 0 0),.bad,(.ptr 1 0),(.d (Ze 0))],[(.cells [(.sl 2 1),(.sl 3 1),(.sl 4 3),(.sl 5 6),(.sl 6 1)]),(.cells [(.sl 7 1),(.sl 8 1),(.sl 9 3),(.sl 10 6),(.sl 11 1)]),(.arr 1 []),(.arr 1 []),(.arr 3 []),(.arr 6 []),(.arr 1 []),(.arr 1 (List.map Ze x2.1)),(.arr 1 (List.map Ze b)),(.arr 3 (List.map Z4 x2.2)),(.arr 6 (List.map Zaa (List.replicate c.toNat ((Zp.mk false 0 0 0 0 0):Zp)))),(.arr 1 (List.map Ze (List.replicate c.toNat (0:Int))))])
theorem Zl1 {t0 t1 t3:Bool}{a:ZD}{b:List Int}{c:Int}{d:List Int}{e:Int}{x2:((List Int)×(List Zj))}:∀(s5:Unit) (r:(((List Int)×(List Int)×(List Zj)×(List Zp)×(List Int)×(List Int)×(List Int)×(List Zj)×(List Zp)×(List Int))⊕(((List Int)×(List Int)×(List Zj)×(List Zp)×(List Int))⊕Unit))),lp (Zc1 a b c d e x2) s5=some r→lpW ctx 0 [3,4,5,10,12,13,14] [10,11,12,13] Zta [(.d (zL t3 d)),(.d (Ze e)),(.ptr 0 0),(.ptr 1 0),(.ptr 2 0),(.d (Ze 0)),(.d (Ze 0))] [(.cells [(.d (zL t0 a.work)),(.d (D.list t1 (List.map ZW a.edges)))]),(.cells [(.sl 3 1),(.sl 4 1),(.sl 5 3),(.sl 6 6),(.sl 7 1)]),(.cells [(.sl 8 1),(.sl 9 1),(.sl 10 3),(.sl 11 6),(.sl 12 1)]),(.arr 1 []),(.arr 1 []),(.arr 3 []),(.arr 6 []),(.arr 1 []),(.arr 1 (List.map Ze x2.1)),(.arr 1 (List.map Ze b)),(.arr 3 (List.map Z4 x2.2)),(.arr 6 (List.map Zaa (List.replicate c.toNat ((Zp.mk false 0 0 0 0 0):Zp)))),(.arr 1 (List.map Ze (List.replicate c.toNat (0:Int))))]=some ((ZiE t0 t1 t3 a b c d e x2) r):=by
 refine Zbm (ZiE t0 t1 t3 a b c d e x2) ?_
 intro s5 rcl ih
 show ZE _ _ (lpW _ _ _ _ _ _ _)
 unfold Zc1
 rw[Zbn]
 conv=>rhs;whnf
 refine Zc rfl ?_ ?_<;>conv=>rhs;whnf
 ·refine ZbW rfl ?_;conv=>rhs;whnf
  refine Zd _ Zco fun x6 hx6=>?_;conv=>rhs;whnf
  refine Zd _ ZdU fun x7 hx7=>?_;conv=>rhs;whnf
  refine Zd _ Zd3 fun x8 hx8=>?_;conv=>rhs;whnf
  refine Zi _ Ze2 rfl fun x9 hx9=>?_;conv=>rhs;whnf
  refine Zd _ Zco fun x10 hx10=>?_;conv=>rhs;whnf
  refine Zd _ ZdU fun x11 hx11=>?_;conv=>rhs;whnf
  refine Zi _ ZlM rfl fun x12 hx12=>?_;conv=>rhs;whnf
  refine Zc rfl ?_ ?_<;>conv=>rhs;whnf
  ·exact Zb rfl
  ·refine Zc rfl ?_ ?_<;>conv=>rhs;whnf
   ·exact Zb rfl
   ·refine Zd _ (ZlZ _) fun r21 hr21=>?_
    clear hr21
    rcases r21 with r21 | r21
    ·conv=>rhs;whnf
     exact Zb rfl
    ·conv=>rhs;whnf
     exact Zb rfl
 ·exact Zb rfl
theorem Zo6 {t0 t1:Bool}{t2 t3:Bool}{a:ZD}{b:List Int}{c:Int}{d:List Int}{e:Int}:∀r,(Zfo a b c d e)=some r→evD ctx 20 [(.d (D.agg [(zL t0 a.work),(D.list t1 (List.map ZW a.edges))])),(.d (zL t2 b)),(.d (Ze c)),(.d (zL t3 d)),(.d (Ze e))]=some (ZlN r):=by
 show ZE _ (fun r rhs=>rhs=some (ZlN r)) _
 unfold Zfo
 rw[ZaH ctx 20 ZCm _ rfl rfl]
 conv=>rhs;whnf
 refine Zd _ Zco fun x0 hx0=>?_;conv=>rhs;whnf
 refine Zd _ Zd3 fun x1 hx1=>?_;conv=>rhs;whnf
 refine Zd _ ZjD fun x2 hx2=>?_
 clear hx2
 rcases x2 with x2 | x2
 ·conv=>rhs;whnf
  refine Zd _ (Zm9 _) fun r4 hr4=>?_;conv=>rhs;whnf
  refine Zc rfl ?_ ?_
  ·exact ZO
  ·conv=>rhs;whnf
   exact Zb rfl
 ·conv=>rhs;whnf
  refine Zd _ (Zl1 _) fun r22 hr22=>?_
  clear hr22
  rcases r22 with r22 | (r22 | r22)
  ·conv=>rhs;whnf
   exact Zb rfl
  ·conv=>rhs;whnf
   refine ZbW rfl ?_;conv=>rhs;whnf
   exact Zb rfl
  ·conv=>rhs;whnf
   refine ZbW rfl ?_;conv=>rhs;whnf
   exact Zb rfl
def ZlI (r:List Int):D:=(zL true r)
theorem ZgY {t0 t1:Bool}{t2 t3:Bool}{t4 t5 t6:Bool}{a:ZD}{b:Zbu}:∀r,(Zes a b)=some r→evD ctx 23 [(.d (D.agg [(zL t0 a.work),(D.list t1 (List.map ZW a.edges))])),(.d (D.agg [(zL t2 b.crew.on),(zL t3 b.crew.left),(D.list t4 (List.map Z4 b.deques)),(D.list t5 (List.map Zaa b.takers)),(zL t6 b.from_)]))]=some (ZlI r):=by
 show ZE _ (fun r rhs=>rhs=some (ZlI r)) _
 unfold Zes
 rw[ZaH ctx 23 ZC7 _ rfl rfl]
 conv=>rhs;whnf
 refine Zi _ ZbL rfl fun x0 hx0=>?_;conv=>rhs;whnf
 refine Zc rfl ?_ ?_<;>conv=>rhs;whnf
 ·exact Zb rfl
 ·refine Zi _ Zgg rfl fun x1 hx1=>?_;conv=>rhs;whnf
  exact Zb rfl
def ZnA (r:Bool):D:=(D.bool r)
def ZkT (t0:Bool) (a:List Int) (b:Int):(Unit⊕Unit)→Ex×List V×Zm
  | (.inl r)=>(.ret,[(.d (D.bool true))],[])
  | (.inr r)=>(.exit 0,[.bad],[])
theorem ZoE {t0:Bool}{a:List Int}{b:Int}:∀(s0:Int) (r:(Unit⊕Unit)),lp (ZfQ a b) s0=some r→lpW ctx 0 [0,1,5] [4] Zze [(.d (zL t0 a)),(.d (Ze b)),(.d (Ze s0))] []=some ((ZkT t0 a b) r):=by
 refine Zbm (ZkT t0 a b) ?_
 intro s0 rcl ih
 show ZE _ _ (lpW _ _ _ _ _ _ _)
 unfold ZfQ
 rw[Zbn]
 conv=>rhs;whnf
 refine Zk (Zz _ _) ?_;conv=>rhs;whnf
 refine Zc rfl ?_ ?_<;>conv=>rhs;whnf
 ·refine Zn rfl rfl fun x1 hx1=>?_;conv=>rhs;whnf
  refine Zc rfl ?_ ?_<;>conv=>rhs;whnf
  ·exact Zb rfl
  ·exact Zf (ih _)
 ·exact Zb rfl
theorem Zdi {t0:Bool}{a:List Int}{b:Int}:∀r,(Zc7 a b)=some r→evD ctx 25 [(.d (zL t0 a)),(.d (Ze b))]=some (ZnA r):=by
 show ZE _ (fun r rhs=>rhs=some (ZnA r)) _
 unfold Zc7
 rw[ZaH ctx 25 ZCT _ rfl rfl]
 conv=>rhs;whnf
 refine Zd _ (ZoE _) fun r2 hr2=>?_
 clear hr2
 rcases r2 with r2 | r2
 ·conv=>rhs;whnf
  exact Zb rfl
 ·conv=>rhs;whnf
  exact Zb rfl
def Zmo (r:Bool):D:=(D.bool r)
def Zkn (t0:Bool) (t1:Bool) (a:ZD) (b:Int) (c:Int):(Unit⊕Unit)→Ex×List V×Zm
  | (.inl r)=>(.ret,[(.d (D.bool true))],[])
  | (.inr r)=>(.exit 0,[.bad],[])
theorem Zn7 {t0 t1:Bool}{a:ZD}{b c:Int}:∀(s0:Int) (r:(Unit⊕Unit)),lp (Ze5 a b c) s0=some r→lpW ctx 0 [1,2,3,7] [6] ZvH [(.d (Ze b)),(.d (Ze c)),(.ptr 0 0),(.d (Ze s0))] [(.cells [(.d (zL t0 a.work)),(.d (D.list t1 (List.map ZW a.edges)))])]=some ((Zkn t0 t1 a b c) r):=by
 refine Zbm (Zkn t0 t1 a b c) ?_
 intro s0 rcl ih
 show ZE _ _ (lpW _ _ _ _ _ _ _)
 unfold Ze5
 rw[Zbn]
 conv=>rhs;whnf
 refine Zk (Zz _ _) ?_;conv=>rhs;whnf
 refine Zc rfl ?_ ?_<;>conv=>rhs;whnf
 ·refine Zn rfl rfl fun x1 hx1=>?_;conv=>rhs;whnf
  refine Zc rfl ?_ ?_<;>conv=>rhs;whnf
  ·refine Zh (Za8 rfl hx1) ?_;conv=>rhs;whnf
   refine Zc rfl ?_ ?_<;>conv=>rhs;whnf
   ·exact Zb rfl
   ·exact Zf (ih _)
  ·exact Zf (ih _)
 ·exact Zb rfl
theorem ZpU {t0 t1:Bool}{a:ZD}{b c:Int}:∀r,(ZhN a b c)=some r→evD ctx 155 [(.d (D.agg [(zL t0 a.work),(D.list t1 (List.map ZW a.edges))])),(.d (Ze b)),(.d (Ze c))]=some (Zmo r):=by
 show ZE _ (fun r rhs=>rhs=some (Zmo r)) _
 unfold ZhN
 rw[ZaH ctx 155 Zyg _ rfl rfl]
 conv=>rhs;whnf
 refine Zd _ (Zn7 _) fun r2 hr2=>?_
 clear hr2
 rcases r2 with r2 | r2
 ·conv=>rhs;whnf
  exact Zb rfl
 ·conv=>rhs;whnf
  exact Zb rfl
def ZlX (r:List Int):D:=(zL true r)
def ZjK (t0:Bool) (t1:Bool) (a:ZD) (b:Int):(List Int)→Ex×List V×Zm
  | r=>(.exit 0,[(.sl 0 1)],[(.arr 1 (List.map Ze r))])
theorem Zna {t0 t1:Bool}{a:ZD}{b:Int}:∀(s0:Int×(List Int)) (r:List Int),lp (Zeu a b) s0=some r→lpW ctx 0 [1,2,5,6] [5] Zv1 [(.d (Ze b)),(.ptr 0 0),(.sl 1 1),(.d (Ze s0.1))] [(.cells [(.d (zL t0 a.work)),(.d (D.list t1 (List.map ZW a.edges)))]),(.arr 1 (List.map Ze s0.2))]=some ((ZjK t0 t1 a b) r):=by
 refine Zbm (ZjK t0 t1 a b) ?_
 intro s0 rcl ih
 show ZE _ _ (lpW _ _ _ _ _ _ _)
 unfold Zeu
 rw[Zbn]
 conv=>rhs;whnf
 refine Zk (Zz _ _) ?_;conv=>rhs;whnf
 refine Zc rfl ?_ ?_<;>conv=>rhs;whnf
 ·refine Zi _ ZpU rfl fun x1 hx1=>?_;conv=>rhs;whnf
  refine Zc rfl ?_ ?_<;>conv=>rhs;whnf
  ·refine ZbW rfl ?_;conv=>rhs;whnf
   refine Zc (Zhm Ze s0.2 1) ?_ ?_
   ·conv=>rhs;whnf
    refine Zk (Zhl Ze s0.2 [s0.1]) ?_;conv=>rhs;whnf
    exact Zf (ih _)
   ·exact ZO
  ·exact Zf (ih _)
 ·exact Zb rfl
theorem Zpc {t0 t1:Bool}{a:ZD}{b:Int}:∀r,(Zhi a b)=some r→evD ctx 113 [(.d (D.agg [(zL t0 a.work),(D.list t1 (List.map ZW a.edges))])),(.d (Ze b))]=some (ZlX r):=by
 show ZE _ (fun r rhs=>rhs=some (ZlX r)) _
 unfold Zhi
 rw[ZaH ctx 113 ZAk _ rfl rfl]
 conv=>rhs;whnf
 refine Zd _ (Zna _) fun r2 hr2=>?_;conv=>rhs;whnf
 exact Zb rfl
def Zmf (r:Bool):D:=(D.bool r)
def Zj6 (t2:Bool) (t3:Bool) (b:Zar) (x0:List Int):(Unit⊕Unit)→Ex×List V×Zm
  | (.inl r)=>(.ret,[(.d (D.bool false))],[])
  | (.inr r)=>(.exit 0,[.bad],[])
theorem Zn0 {t2 t3:Bool}{b:Zar}{x0:List Int}:∀(s1:Int) (r:(Unit⊕Unit)),lp (Ze6 b x0) s1=some r→lpW ctx 0 [4,7,8] [6] Zyc [(.ptr 0 0),(.d (zL true x0)),(.d (Ze s1))] [(.cells [(.d (zL t2 b.on)),(.d (zL t3 b.left))])]=some ((Zj6 t2 t3 b x0) r):=by
 refine Zbm (Zj6 t2 t3 b x0) ?_
 intro s1 rcl ih
 show ZE _ _ (lpW _ _ _ _ _ _ _)
 unfold Ze6
 rw[Zbn]
 conv=>rhs;whnf
 refine Zk (Zz _ _) ?_;conv=>rhs;whnf
 refine Zc rfl ?_ ?_<;>conv=>rhs;whnf
 ·refine Zn rfl rfl fun x2 hx2=>?_;conv=>rhs;whnf
  refine Zn rfl rfl fun x3 hx3=>?_;conv=>rhs;whnf
  refine Zc rfl ?_ ?_<;>conv=>rhs;whnf
  ·exact Zb rfl
  ·exact Zf (ih _)
 ·exact Zb rfl
theorem ZpX {t0 t1:Bool}{t2 t3:Bool}{a:ZD}{b:Zar}{c:Int}:∀r,(ZhI a b c)=some r→evD ctx 64 [(.d (D.agg [(zL t0 a.work),(D.list t1 (List.map ZW a.edges))])),(.d (D.agg [(zL t2 b.on),(zL t3 b.left)])),(.d (Ze c))]=some (Zmf r):=by
 show ZE _ (fun r rhs=>rhs=some (Zmf r)) _
 unfold ZhI
 rw[ZaH ctx 64 ZCg _ rfl rfl]
 conv=>rhs;whnf
 refine Zi _ Zpc rfl fun x0 hx0=>?_;conv=>rhs;whnf
 refine Zd _ (Zn0 _) fun r4 hr4=>?_
 clear hr4
 rcases r4 with r4 | r4
 ·conv=>rhs;whnf
  exact Zb rfl
 ·conv=>rhs;whnf
  exact Zb rfl
def ZlY (r:List Int):D:=(zL true r)
def ZjF (t0:Bool) (t1:Bool) (t2:Bool) (t3:Bool) (a:ZD) (b:Zar):(List Int)→Ex×List V×Zm
  | r=>(.exit 0,[(.sl 0 1)],[(.arr 1 (List.map Ze r))])
theorem Znf {t0 t1:Bool}{t2 t3:Bool}{a:ZD}{b:Zar}:∀(s0:Int×(List Int)) (r:List Int),lp (Zev a b) s0=some r→lpW ctx 0 [2,3,5,6] [5] Zyy [(.ptr 0 0),(.ptr 1 0),(.sl 2 1),(.d (Ze s0.1))] [(.cells [(.d (zL t0 a.work)),(.d (D.list t1 (List.map ZW a.edges)))]),(.cells [(.d (zL t2 b.on)),(.d (zL t3 b.left))]),(.arr 1 (List.map Ze s0.2))]=some ((ZjF t0 t1 t2 t3 a b) r):=by
 refine Zbm (ZjF t0 t1 t2 t3 a b) ?_
 intro s0 rcl ih
 show ZE _ _ (lpW _ _ _ _ _ _ _)
 unfold Zev
 rw[Zbn]
 conv=>rhs;whnf
 refine Zk (Zz _ _) ?_;conv=>rhs;whnf
 refine Zc rfl ?_ ?_<;>conv=>rhs;whnf
 ·refine Zn rfl rfl fun x1 hx1=>?_;conv=>rhs;whnf
  refine Zc rfl ?_ ?_<;>conv=>rhs;whnf
  ·refine Zi _ Zdi rfl fun x2 hx2=>?_;conv=>rhs;whnf
   refine Zc rfl ?_ ?_<;>conv=>rhs;whnf
   ·exact Zf (ih _)
   ·refine Zi _ ZpX rfl fun x3 hx3=>?_;conv=>rhs;whnf
    refine Zc rfl ?_ ?_<;>conv=>rhs;whnf
    ·refine ZbW rfl ?_;conv=>rhs;whnf
     refine Zc (Zhm Ze s0.2 1) ?_ ?_
     ·conv=>rhs;whnf
      refine Zk (Zhl Ze s0.2 [s0.1]) ?_;conv=>rhs;whnf
      exact Zf (ih _)
     ·exact ZO
    ·exact Zf (ih _)
  ·exact Zf (ih _)
 ·exact Zb rfl
theorem Zc4 {t0 t1:Bool}{t2 t3:Bool}{a:ZD}{b:Zar}:∀r,(Zcr a b)=some r→evD ctx 24 [(.d (D.agg [(zL t0 a.work),(D.list t1 (List.map ZW a.edges))])),(.d (D.agg [(zL t2 b.on),(zL t3 b.left)]))]=some (ZlY r):=by
 show ZE _ (fun r rhs=>rhs=some (ZlY r)) _
 unfold Zcr
 rw[ZaH ctx 24 ZB1 _ rfl rfl]
 conv=>rhs;whnf
 refine Zd _ (Znf _) fun r4 hr4=>?_;conv=>rhs;whnf
 exact Zb rfl
def Zi6 (r:Bool):D:=(D.bool r)
theorem ZmE {t0 t1:Bool}{t2 t3 t4:Bool}{a:ZD}{b:List Int}{c:Int}{d:List Int}{e:List Int}{f:Int}:∀r,(Zgt a b c d e f)=some r→evD ctx 4 [(.d (D.agg [(zL t0 a.work),(D.list t1 (List.map ZW a.edges))])),(.d (zL t2 b)),(.d (Ze c)),(.d (zL t3 d)),(.d (zL t4 e)),(.d (D.int .u8 f))]=some (Zi6 r):=by
 show ZE _ (fun r rhs=>rhs=some (Zi6 r)) _
 unfold Zgt
 rw[ZaH ctx 4 fn4 _ rfl rfl]
 conv=>rhs;whnf
 refine Zi _ Zdy rfl fun x0 hx0=>?_;conv=>rhs;whnf
 refine Zc rfl ?_ ?_<;>conv=>rhs;whnf
 ·refine Zi _ Zqz rfl fun x1 hx1=>?_;conv=>rhs;whnf
  refine Zc rfl ?_ ?_<;>conv=>rhs;whnf
  ·refine Zk (Zz _ _) ?_;conv=>rhs;whnf
   refine Zc rfl ?_ ?_<;>conv=>rhs;whnf
   ·refine Zi _ Zdy rfl fun x2 hx2=>?_;conv=>rhs;whnf
    refine Zc rfl ?_ ?_<;>conv=>rhs;whnf
    ·exact Zb rfl
    ·exact Zb rfl
   ·refine Zi _ ZoQ rfl fun x3 hx3=>?_;conv=>rhs;whnf
    refine Zc rfl ?_ ?_<;>conv=>rhs;whnf
    ·refine Zk (Zz _ _) ?_;conv=>rhs;whnf
     refine Zc rfl ?_ ?_<;>conv=>rhs;whnf
     ·refine Zi _ Zdy rfl fun x4 hx4=>?_;conv=>rhs;whnf
      refine Zc rfl ?_ ?_<;>conv=>rhs;whnf
      ·exact Zb rfl
      ·exact Zb rfl
     ·refine Zk (Zz _ _) ?_;conv=>rhs;whnf
      refine Zc rfl ?_ ?_<;>conv=>rhs;whnf
      ·refine Zi _ Zdy rfl fun x5 hx5=>?_;conv=>rhs;whnf
       refine Zc rfl ?_ ?_<;>conv=>rhs;whnf
       ·exact Zb rfl
       ·exact Zb rfl
      ·refine Zau rfl ?_;conv=>rhs;whnf
       refine Zi _ Zo6 rfl fun x6 hx6=>?_;conv=>rhs;whnf
       refine Zc rfl ?_ ?_<;>conv=>rhs;whnf
       ·refine Zd _ Zco fun x7 hx7=>?_;conv=>rhs;whnf
        refine Zd _ Zd3 fun x8 hx8=>?_;conv=>rhs;whnf
        refine Zd _ ZjD fun x9 hx9=>?_
        clear hx9
        rcases x9 with x9 | x9
        ·conv=>rhs;whnf
         refine Zd _ Zco fun x10 hx10=>?_;conv=>rhs;whnf
         refine Zd _ ZdU fun x11 hx11=>?_;conv=>rhs;whnf
         refine Zd _ Zd3 fun x12 hx12=>?_;conv=>rhs;whnf
         refine Zi _ Ze2 rfl fun x13 hx13=>?_;conv=>rhs;whnf
         refine Zd _ Zco fun x14 hx14=>?_;conv=>rhs;whnf
         refine Zd _ ZdU fun x15 hx15=>?_;conv=>rhs;whnf
         refine Zi _ Ze2 rfl fun x16 hx16=>?_;conv=>rhs;whnf
         refine Zc rfl ?_ ?_<;>conv=>rhs;whnf
         ·exact Zb rfl
         ·refine Zc rfl ?_ ?_<;>conv=>rhs;whnf
          ·exact Zb rfl
          ·refine Zi _ ZgY rfl fun x17 hx17=>?_;conv=>rhs;whnf
           refine Zk (Zz _ _) ?_;conv=>rhs;whnf
           refine Zc rfl ?_ ?_<;>conv=>rhs;whnf
           ·exact Zb rfl
           ·refine Zi _ ZgY rfl fun x18 hx18=>?_;conv=>rhs;whnf
            refine Zk (Zz _ _) ?_;conv=>rhs;whnf
            refine Zc rfl ?_ ?_<;>conv=>rhs;whnf
            ·exact Zb rfl
            ·refine Zi _ Zc4 rfl fun x19 hx19=>?_;conv=>rhs;whnf
             refine Zk (Zz _ _) ?_;conv=>rhs;whnf
             refine Zc rfl ?_ ?_<;>conv=>rhs;whnf
             ·refine Zi _ Zc4 rfl fun x20 hx20=>?_;conv=>rhs;whnf
              refine Zk (Zz _ _) ?_;conv=>rhs;whnf
              refine Zc rfl ?_ ?_<;>conv=>rhs;whnf
              ·refine Zc rfl ?_ ?_<;>conv=>rhs;whnf
               ·refine Zk (Zz _ _) ?_;conv=>rhs;whnf
                refine Zc rfl ?_ ?_<;>conv=>rhs;whnf
                ·refine Zi _ ZbL rfl fun x21 hx21=>?_;conv=>rhs;whnf
                 refine Zc rfl ?_ ?_<;>conv=>rhs;whnf
                 ·exact Zb rfl
                 ·exact Zb rfl
                ·exact Zb rfl
               ·exact Zb rfl
              ·refine Zi _ Zdi rfl fun x22 hx22=>?_;conv=>rhs;whnf
               refine Zc rfl ?_ ?_<;>conv=>rhs;whnf
               ·exact Zb rfl
               ·refine Zc rfl ?_ ?_<;>conv=>rhs;whnf
                ·refine Zk (Zz _ _) ?_;conv=>rhs;whnf
                 refine Zc rfl ?_ ?_<;>conv=>rhs;whnf
                 ·refine Zi _ ZbL rfl fun x23 hx23=>?_;conv=>rhs;whnf
                  refine Zc rfl ?_ ?_<;>conv=>rhs;whnf
                  ·exact Zb rfl
                  ·exact Zb rfl
                 ·exact Zb rfl
                ·exact Zb rfl
             ·refine Zi _ Zdi rfl fun x24 hx24=>?_;conv=>rhs;whnf
              refine Zc rfl ?_ ?_<;>conv=>rhs;whnf
              ·refine Zi _ Zc4 rfl fun x25 hx25=>?_;conv=>rhs;whnf
               refine Zk (Zz _ _) ?_;conv=>rhs;whnf
               refine Zc rfl ?_ ?_<;>conv=>rhs;whnf
               ·exact Zb rfl
               ·refine Zi _ Zdi rfl fun x26 hx26=>?_;conv=>rhs;whnf
                refine Zc rfl ?_ ?_<;>conv=>rhs;whnf
                ·exact Zb rfl
                ·exact Zb rfl
              ·refine Zi _ Zc4 rfl fun x27 hx27=>?_;conv=>rhs;whnf
               refine Zk (Zz _ _) ?_;conv=>rhs;whnf
               refine Zc rfl ?_ ?_<;>conv=>rhs;whnf
               ·refine Zc rfl ?_ ?_<;>conv=>rhs;whnf
                ·refine Zk (Zz _ _) ?_;conv=>rhs;whnf
                 refine Zc rfl ?_ ?_<;>conv=>rhs;whnf
                 ·refine Zi _ ZbL rfl fun x28 hx28=>?_;conv=>rhs;whnf
                  refine Zc rfl ?_ ?_<;>conv=>rhs;whnf
                  ·exact Zb rfl
                  ·exact Zb rfl
                 ·exact Zb rfl
                ·exact Zb rfl
               ·refine Zi _ Zdi rfl fun x29 hx29=>?_;conv=>rhs;whnf
                refine Zc rfl ?_ ?_<;>conv=>rhs;whnf
                ·exact Zb rfl
                ·refine Zc rfl ?_ ?_<;>conv=>rhs;whnf
                 ·refine Zk (Zz _ _) ?_;conv=>rhs;whnf
                  refine Zc rfl ?_ ?_<;>conv=>rhs;whnf
                  ·refine Zi _ ZbL rfl fun x30 hx30=>?_;conv=>rhs;whnf
                   refine Zc rfl ?_ ?_<;>conv=>rhs;whnf
                   ·exact Zb rfl
                   ·exact Zb rfl
                  ·exact Zb rfl
                 ·exact Zb rfl
        ·conv=>rhs;whnf
         refine Zd _ Zco fun x31 hx31=>?_;conv=>rhs;whnf
         refine Zd _ ZdU fun x32 hx32=>?_;conv=>rhs;whnf
         refine Zd _ Zd3 fun x33 hx33=>?_;conv=>rhs;whnf
         refine Zi _ Ze2 rfl fun x34 hx34=>?_;conv=>rhs;whnf
         refine Zd _ Zco fun x35 hx35=>?_;conv=>rhs;whnf
         refine Zd _ ZdU fun x36 hx36=>?_;conv=>rhs;whnf
         refine Zi _ Ze2 rfl fun x37 hx37=>?_;conv=>rhs;whnf
         refine Zc rfl ?_ ?_<;>conv=>rhs;whnf
         ·exact Zb rfl
         ·refine Zc rfl ?_ ?_<;>conv=>rhs;whnf
          ·exact Zb rfl
          ·refine Zi _ ZgY rfl fun x38 hx38=>?_;conv=>rhs;whnf
           refine Zk (Zz _ _) ?_;conv=>rhs;whnf
           refine Zc rfl ?_ ?_<;>conv=>rhs;whnf
           ·exact Zb rfl
           ·refine Zi _ ZgY rfl fun x39 hx39=>?_;conv=>rhs;whnf
            refine Zk (Zz _ _) ?_;conv=>rhs;whnf
            refine Zc rfl ?_ ?_<;>conv=>rhs;whnf
            ·exact Zb rfl
            ·refine Zi _ Zc4 rfl fun x40 hx40=>?_;conv=>rhs;whnf
             refine Zk (Zz _ _) ?_;conv=>rhs;whnf
             refine Zc rfl ?_ ?_<;>conv=>rhs;whnf
             ·refine Zi _ Zc4 rfl fun x41 hx41=>?_;conv=>rhs;whnf
              refine Zk (Zz _ _) ?_;conv=>rhs;whnf
              refine Zc rfl ?_ ?_<;>conv=>rhs;whnf
              ·refine Zc rfl ?_ ?_<;>conv=>rhs;whnf
               ·refine Zk (Zz _ _) ?_;conv=>rhs;whnf
                refine Zc rfl ?_ ?_<;>conv=>rhs;whnf
                ·refine Zi _ ZbL rfl fun x42 hx42=>?_;conv=>rhs;whnf
                 refine Zc rfl ?_ ?_<;>conv=>rhs;whnf
                 ·exact Zb rfl
                 ·exact Zb rfl
                ·exact Zb rfl
               ·exact Zb rfl
              ·refine Zi _ Zdi rfl fun x43 hx43=>?_;conv=>rhs;whnf
               refine Zc rfl ?_ ?_<;>conv=>rhs;whnf
               ·exact Zb rfl
               ·refine Zc rfl ?_ ?_<;>conv=>rhs;whnf
                ·refine Zk (Zz _ _) ?_;conv=>rhs;whnf
                 refine Zc rfl ?_ ?_<;>conv=>rhs;whnf
                 ·refine Zi _ ZbL rfl fun x44 hx44=>?_;conv=>rhs;whnf
                  refine Zc rfl ?_ ?_<;>conv=>rhs;whnf
                  ·exact Zb rfl
                  ·exact Zb rfl
                 ·exact Zb rfl
                ·exact Zb rfl
             ·refine Zi _ Zdi rfl fun x45 hx45=>?_;conv=>rhs;whnf
              refine Zc rfl ?_ ?_<;>conv=>rhs;whnf
              ·refine Zi _ Zc4 rfl fun x46 hx46=>?_;conv=>rhs;whnf
               refine Zk (Zz _ _) ?_;conv=>rhs;whnf
               refine Zc rfl ?_ ?_<;>conv=>rhs;whnf
               ·exact Zb rfl
               ·refine Zi _ Zdi rfl fun x47 hx47=>?_;conv=>rhs;whnf
                refine Zc rfl ?_ ?_<;>conv=>rhs;whnf
                ·exact Zb rfl
                ·exact Zb rfl
              ·refine Zi _ Zc4 rfl fun x48 hx48=>?_;conv=>rhs;whnf
               refine Zk (Zz _ _) ?_;conv=>rhs;whnf
               refine Zc rfl ?_ ?_<;>conv=>rhs;whnf
               ·refine Zc rfl ?_ ?_<;>conv=>rhs;whnf
                ·refine Zk (Zz _ _) ?_;conv=>rhs;whnf
                 refine Zc rfl ?_ ?_<;>conv=>rhs;whnf
                 ·refine Zi _ ZbL rfl fun x49 hx49=>?_;conv=>rhs;whnf
                  refine Zc rfl ?_ ?_<;>conv=>rhs;whnf
                  ·exact Zb rfl
                  ·exact Zb rfl
                 ·exact Zb rfl
                ·exact Zb rfl
               ·refine Zi _ Zdi rfl fun x50 hx50=>?_;conv=>rhs;whnf
                refine Zc rfl ?_ ?_<;>conv=>rhs;whnf
                ·exact Zb rfl
                ·refine Zc rfl ?_ ?_<;>conv=>rhs;whnf
                 ·refine Zk (Zz _ _) ?_;conv=>rhs;whnf
                  refine Zc rfl ?_ ?_<;>conv=>rhs;whnf
                  ·refine Zi _ ZbL rfl fun x51 hx51=>?_;conv=>rhs;whnf
                   refine Zc rfl ?_ ?_<;>conv=>rhs;whnf
                   ·exact Zb rfl
                   ·exact Zb rfl
                  ·exact Zb rfl
                 ·exact Zb rfl
       ·refine Zd _ Zco fun x52 hx52=>?_;conv=>rhs;whnf
        refine Zd _ Zd3 fun x53 hx53=>?_;conv=>rhs;whnf
        refine Zd _ ZjD fun x54 hx54=>?_
        clear hx54
        rcases x54 with x54 | x54
        ·conv=>rhs;whnf
         refine Zc rfl ?_ ?_
         ·conv=>rhs;whnf
          exact Zb rfl
         ·exact ZO
        ·conv=>rhs;whnf
         refine Zau rfl ?_;conv=>rhs;whnf
         exact Zb rfl
    ·refine Zi _ Zdy rfl fun x55 hx55=>?_;conv=>rhs;whnf
     refine Zc rfl ?_ ?_<;>conv=>rhs;whnf
     ·exact Zb rfl
     ·exact Zb rfl
  ·refine Zi _ Zdy rfl fun x56 hx56=>?_;conv=>rhs;whnf
   refine Zc rfl ?_ ?_<;>conv=>rhs;whnf
   ·exact Zb rfl
   ·exact Zb rfl
 ·refine Zi _ Zdy rfl fun x57 hx57=>?_;conv=>rhs;whnf
  refine Zc rfl ?_ ?_<;>conv=>rhs;whnf
  ·exact Zb rfl
  ·exact Zb rfl
abbrev Zy6:List Lf×Bool:=([.int .i64],false)
abbrev ZAn:List Lf×Bool:=([.int .u8],false)
abbrev ZjS:List Lf×Bool:=([.sl false [.int .i64]],false)
abbrev Zuf:List Lf×Bool:=([.sl false [.int .i64],.sl true [.int .i64,.int .i64]],true)
theorem ZB6 {c:Int} (c1:1≤c) (c8:c≤8):w64 (w64 (w64 (8*c)*c)*w64 (c+1))=((8*c.toNat*c.toNat*(c.toNat+1):Nat):Int):=by
 have:c=1∨c=2∨c=3∨c=4∨c=5∨c=6∨c=7∨c=8:=by omega
 rcases this with rfl | rfl | rfl | rfl | rfl | rfl | rfl | rfl<;>decide
theorem ZBq {c:Int} (c8:c≤8):8*c.toNat*c.toNat*(c.toNat+1)≤8*8*8*9:=by
 have h8:c.toNat≤8:=by omega
 exact Nat.mul_le_mul (Nat.mul_le_mul (Nat.mul_le_mul_left 8 h8) h8) (by omega)
theorem Zyz {g:ZD}{m:Nat}{left on fs:List Int}{ds:List Zj}{ts:List Zp} (h:Zcm g=0) (G:GangIn g m left on ds ts fs) (hw:∀c,¬ZeI m (vw on ds ts fs) c):Zei g.edges left on=[]∨decide ((-1:Int)∈on)=false:=by
 by_cases hi:(-1:Int)∈on
 ·left
  rw[List.eq_nil_iff_forall_not_mem]
  intro z hz
  exact(Zq7 G hw).2 hi z ((ZnL G.crew).1 hz)
 ·right;exact decide_eq_false hi
theorem ZrD (g:ZD) (need:List Int) (c:Int) (picks more:List Int) (ticks:Int) (hu:0≤ticks∧ticks≤255):Zgt g need c picks more ticks=some true:=by
 unfold Zgt
 simp only[ZdJ,ZCS,Option.bind_some,cond_true]
 cases hf:Ztp g with
 | false=>rfl
 | true=>
 obtain⟨hw,he,hsh⟩:=ZwC hf
 rw[cond_true]
 by_cases hl:70<(need.length:Int)
 ·rw[decide_eq_true hl];rfl
 rw[decide_eq_false hl,cond_false]
 obtain⟨b,hb,hb2⟩:=ZyP need (by omega)
 rw[hb,Option.bind_some]
 cases b with
 | false=>rfl
 | true=>
 rw[cond_true]
 by_cases hp:300<(picks.length:Int)
 ·rw[decide_eq_true hp];rfl
 rw[decide_eq_false hp,cond_false]
 by_cases hm:300<(more.length:Int)
 ·rw[decide_eq_true hm];rfl
 rw[decide_eq_false hm,cond_false,ZdB (by omega) (by omega)]
 have ht0:=Int.tmod_nonneg 20 hu.1
 have ht1:=Int.tmod_lt_of_pos ticks (show(0:Int)<20 by omega)
 by_cases h1:Zl2 g need c=0
 ·have hin:=Zqc.1 h1
  have hc:=hin.ck
  have hG:=(ZcG hc).1
  have c1:=hin.c1
  have c8:=hin.c8
  obtain⟨on,left,ds,ts,fs,b1,GB⟩:=ZyE (e:=Int.tmod ticks 20) hin hf (by omega) (show picks.length≤1000 by omega) (by omega)
  obtain⟨ds0,n1,_⟩:=Zr9 hin
  obtain⟨n,on1,ds1,ts1,fs1,q1,q2,q3,_,q5⟩:=ZnP hc (show more.length≤100000 by omega) GB
  obtain⟨k,on2,ds2,ts2,fs2,r1,r2,r3,_,r5⟩:=ZnP hc (show([]:List Int).length≤100000 by simp) GB
  have hml:=ZBq c8
  have e1:decide ((k:Int)≤((8*c.toNat*c.toNat*(c.toNat+1):Nat):Int))=true:=decide_eq_true (by simp at r5;omega)
  have e2:decide ((n:Int)≤w64 ((more.length:Int)+((8*c.toNat*c.toNat*(c.toNat+1):Nat):Int)))=true:=decide_eq_true (by rw[ZdB (by omega) (by omega)];omega)
  rw[b1,Option.bind_some]
  dsimp only
  rw[cond_true,ZnK hf,Option.bind_some,Zig (show need.length≤1000 by omega),Option.bind_some,n1,Option.bind_some]
  dsimp only
  simp only[ZnK hf,Zme hG GB.toGangIn,Zig (show more.length≤1000 by omega),Option.bind_some,q1,r1,show((0:Int) != 0)=false from rfl,cond_false,ZqV hc q2.toGangIn,ZqV hc r2.toGangIn,ZxC q3,ZxC r3,List.length_nil,
   show decide ((0:Int)<((0:Nat):Int))=false from rfl,Zru hG q2.crew,Zru hG r2.crew,ZsR on1 (-1) (show on1.length<9223372036854775808 by have:=q2.ol;omega),ZsR on2 (-1) (show on2.length<9223372036854775808 by have:=r2.ol;omega),Zm2,ZB6 c1 c8,e1,e2,cond_true,Zj8 hc q2.toGangIn,beq_self_eq_true]
  rcases Zyz hc q2.toGangIn q3 with i1 | i1<;>rcases Zyz hc r2.toGangIn r3 with i2 | i2
  ·rw[i1,i2];rfl
  ·rw[i1,i2]
   cases ((Zei g.edges left on2).length:Int)==0<;>rfl
  ·rw[i1,i2]
   cases ((Zei g.edges left on1).length:Int)==0<;>rfl
  ·rw[i1,i2]
   cases ((Zei g.edges left on1).length:Int)==0<;>cases ((Zei g.edges left on2).length:Int)==0<;>rfl
 ·obtain⟨G,hG⟩:=Zxp (picks:=picks) (e:=Int.tmod ticks 20) hsh h1 hf (by omega)
  rw[hG,Option.bind_some,cond_false]
  simp only[ZnK hf,Zig (show need.length≤1000 by omega),Option.bind_some,ZtH hsh h1,show(Zl2 g need c != 0)=true by simpa using h1,cond_true]
theorem Ztc (xs:List D) (h:Zgz Zuf.1 xs) (ys:List D) (k:Zgz ZjS.1 ys) (zs:List D) (m:Zgz Zy6.1 zs) (vs:List D) (n:Zgz ZjS.1 vs) (us:List D) (q:Zgz ZjS.1 us) (ws:List D) (r:Zgz ZAn.1 ws) :
  ∃H',evW ctx 4 (Zdx [ZjY Zuf.2 xs,ZjY ZjS.2 ys,ZjY Zy6.2 zs,ZjY ZjS.2 vs,ZjY ZjS.2 us,ZjY ZAn.2 ws]) []=some (.d (.bool true),H'):=by
 obtain⟨d,hd,_⟩:=Zxu h
 obtain⟨a,ha,_⟩:=ZnU k
 obtain⟨c,hc,_⟩:=ZCC m
 obtain⟨p,hp,_⟩:=ZnU n
 obtain⟨o,ho,_⟩:=ZnU q
 obtain⟨t,ht,hu⟩:=ZFc r
 show ∃H',evW ctx 4 [.d (D.agg xs),.d (ZjY false ys),.d (ZjY false zs),.d (ZjY false vs),.d (ZjY false us),.d (ZjY false ws)] []=_
 rw[hd,ha,hc,hp,ho,ht]
 exact ZAg (ZmE true (ZrD d a c p o t hu))
end Go.Proofs.YtgcfmiajkbbmeaaGreatDoor
namespace Go.Proofs.YtgcfmiajkbbmeaaGreatDoor.LawStealCalm
open Go.ChangeShapes Go.WideShapes Go.ChangeAt Go.RowKit Go.Proofs.YtgcfmiajkbbmeaaGreatDoorE
theorem own:ownKnob Tryz.prog.godebug=none:=by kernel_rfl
theorem Zm4:laidOutB Tryz.prog=true:=by kernel_rfl
def Zrw : List (String × DataW Unit) := [("math/bits.deBruijn32tab", Rows.laid_math_bits_deBruijn32tab), ("math/bits.deBruijn64tab", Rows.laid_math_bits_deBruijn64tab)]
theorem ZzT (os:Os) (args:Array Value):laidMetH Tryz.prog Zrw ((World.doorLaid Tryz.prog 19 os).forCall (fun _ _=>0) ⟨#[],args,[]⟩).memory:=
 laidMetH_of_parts3 (fuel:=8) (laidMet_of_run' 8 (by kernel_rfl) (by kernel_rfl)) (by kernel_rfl) (by kernel_rfl)
theorem Zyk {W:World} (h:laidMetH Tryz.prog Zrw W):GOK Zo R0 W:=by
 intro g l hg
 unfold Zo at hg
 split at hg
 ·cases hg
  exact Zrf (t := 246) (N := 32) (e := 5) (k := .u8) h (by kernel_rfl) (n := "math/bits.deBruijn32tab") (by rw [show DataW.agg (Zn2 ZBH) = Rows.laid_math_bits_deBruijn32tab by kernel_rfl]; simp [Zrw]) (by kernel_rfl) (by kernel_rfl) (by kernel_rfl) (by kernel_rfl) (by kernel_rfl) (by kernel_rfl) (by decide)
 ·cases hg
  exact Zrf (t := 247) (N := 64) (e := 5) (k := .u8) h (by kernel_rfl) (n := "math/bits.deBruijn64tab") (by rw [show DataW.agg (Zn2 ZBv) = Rows.laid_math_bits_deBruijn64tab by kernel_rfl]; simp [Zrw]) (by kernel_rfl) (by kernel_rfl) (by kernel_rfl) (by kernel_rfl) (by kernel_rfl) (by kernel_rfl) (by decide)
 ·cases hg
theorem ZCJ (os:Os) (started:os.Started) (H:Type) (enc:TypeId×Value→H) :
  ReturnsInHanded {} Tryz.checked os 4 .any (fun w args=>(Rows.stealCalmSpec.pre enc Tryz.prog Tryz.f4 [] false w args∧laidMetH Tryz.prog Zrw w)∧sizedMet enc Tryz.prog Tryz.f4 (OpenSpec.ofChange Rows.stealCalmSpec) false w args) (Rows.stealCalmSpec.post enc Tryz.prog Tryz.f4 false true false false):=by
 refine returnsInHanded_of_change_and (C:=Tryz.checked) (X:=fun w _=>laidMetH Tryz.prog Zrw w) (fun _ _ _ hh h=>h.of_heap hh) own started (by kernel_rfl) Tryz.func4
  (ChangeSpec.witness_shaped (enc:=enc) (C:=Tryz.checked) (os:=os) (X:=fun w _=>laidMetH Tryz.prog Zrw w) false (World.doorLaid Tryz.prog 19 os) #[.agg #[.slice none 0 0,.slice none 0 0],.slice none 0 0,.int .i64 0,.slice none 0 0,.slice none 0 0,.int .u8 0] 8 rfl (World.shaped_of_RefB (by kernel_rfl) (by kernel_rfl)) (by kernel_rfl) (by kernel_rfl) (by kernel_rfl) (ZzT os _)) ?_
 intro W base args ds gs before hval0 hW _ _ hL _
 have hval:∀(j:Nat) t v,Tryz.f4.params[j]? = some t→args[j]? = some v→Value.okWide Tryz.prog W .any base t v:=hval0
 have hW':=hW
 obtain⟨p,q,hA0,hV,rfl,hfz,hnd⟩:=hW
 have hA:DataW.TrodAll enc Tryz.prog W 0 (fun _=>true) true Tryz.f4.params.toList args.toList ds p:=hA0
 rw[Tryz.params4] at hA hval
 obtain⟨v0,vs0,d0,ds0,p0,q0,hargs,rfl,rfl,h0,r0⟩:=trodAll_cons hA
 obtain⟨v1,vs1,d1,ds1,p1,q1,rfl,rfl,rfl,h1,r1⟩:=trodAll_cons r0
 obtain⟨v2,vs2,d2,ds2,p2,q2,rfl,rfl,rfl,h2,r2⟩:=trodAll_cons r1
 obtain⟨v3,vs3,d3,ds3,p3,q3,rfl,rfl,rfl,h3,r3⟩:=trodAll_cons r2
 obtain⟨v4,vs4,d4,ds4,p4,q4,rfl,rfl,rfl,h4,r4⟩:=trodAll_cons r3
 obtain⟨v5,vs5,d5,ds5,p5,q5,rfl,rfl,rfl,h5,r5⟩:=trodAll_cons r4
 obtain⟨rfl,rfl,rfl⟩:=trodAll_nil r5
 obtain rfl:args = #[v0,v1,v2,v3,v4,v5]:=by cases args;simp_all
 obtain⟨rfl,rfl⟩:=trodVars_none hV
 have lt0:∀x∈p0,x.block<W.heap.size:=by obtain⟨m,hm⟩:=h0;exact DataW.trod_lt m _ _ _ hm
 obtain⟨x0,ok0,den0⟩:=Zpa (P:=Tryz.prog) (n:=8) (t:=25) (l:=Zuf.1) (ag:=Zuf.2) (by kernel_rfl) (hval 0 25 v0 rfl rfl) h0
 have lt1:∀x∈p1,x.block<W.heap.size:=by obtain⟨m,hm⟩:=h1;exact DataW.trod_lt m _ _ _ hm
 obtain⟨x1,ok1,den1⟩:=Zpa (P:=Tryz.prog) (n:=8) (t:=22) (l:=ZjS.1) (ag:=ZjS.2) (by kernel_rfl) (hval 1 22 v1 rfl rfl) h1
 have lt2:∀x∈p2,x.block<W.heap.size:=by obtain⟨m,hm⟩:=h2;exact DataW.trod_lt m _ _ _ hm
 obtain⟨x2,ok2,den2⟩:=Zpa (P:=Tryz.prog) (n:=8) (t:=3) (l:=Zy6.1) (ag:=Zy6.2) (by kernel_rfl) (hval 2 3 v2 rfl rfl) h2
 have lt3:∀x∈p3,x.block<W.heap.size:=by obtain⟨m,hm⟩:=h3;exact DataW.trod_lt m _ _ _ hm
 obtain⟨x3,ok3,den3⟩:=Zpa (P:=Tryz.prog) (n:=8) (t:=22) (l:=ZjS.1) (ag:=ZjS.2) (by kernel_rfl) (hval 3 22 v3 rfl rfl) h3
 have lt4:∀x∈p4,x.block<W.heap.size:=by obtain⟨m,hm⟩:=h4;exact DataW.trod_lt m _ _ _ hm
 obtain⟨x4,ok4,den4⟩:=Zpa (P:=Tryz.prog) (n:=8) (t:=22) (l:=ZjS.1) (ag:=ZjS.2) (by kernel_rfl) (hval 4 22 v4 rfl rfl) h4
 have lt5:∀x∈p5,x.block<W.heap.size:=by obtain⟨m,hm⟩:=h5;exact DataW.trod_lt m _ _ _ hm
 obtain⟨x5,ok5,den5⟩:=Zpa (P:=Tryz.prog) (n:=8) (t:=5) (l:=ZAn.1) (ag:=ZAn.2) (by kernel_rfl) (hval 5 5 v5 rfl rfl) h5
 obtain⟨H1,ev⟩:=Ztc x0 ok0 x1 ok1 x2 ok2 x3 ok3 x4 ok4 x5 ok5
 have den:Zbz All All All W [ZjY Zuf.2 x0,ZjY ZjS.2 x1,ZjY Zy6.2 x2,ZjY ZjS.2 x3,ZjY ZjS.2 x4,ZjY ZAn.2 x5] [v0,v1,v2,v3,v4,v5]:=⟨_,_,rfl,den0,⟨_,_,rfl,den1,⟨_,_,rfl,den2,⟨_,_,rfl,den3,⟨_,_,rfl,den4,⟨_,_,rfl,den5,rfl⟩⟩⟩⟩⟩⟩
 refine(Zxn ZEQ (Zyk hL) den ev).mono fun e W' ⟨he,bel⟩=>?_
 subst he
 exact⟨_,rfl,_,_,_,[],_,[],hW',trodAll_mk1 (shut_bool Tryz.underlying4 _),(trodAll_cons_mk (Below.trod Zm4 (by kernel_rfl) (of_decide_eq_true (by kernel_rfl)) h0 bel lt0) (trodAll_cons_mk (Below.trod Zm4 (by kernel_rfl) (of_decide_eq_true (by kernel_rfl)) h1 bel lt1) (trodAll_cons_mk (Below.trod Zm4 (by kernel_rfl) (of_decide_eq_true (by kernel_rfl)) h2 bel lt2) (trodAll_cons_mk (Below.trod Zm4 (by kernel_rfl) (of_decide_eq_true (by kernel_rfl)) h3 bel lt3) (trodAll_cons_mk (Below.trod Zm4 (by kernel_rfl) (of_decide_eq_true (by kernel_rfl)) h4 bel lt4) (trodAll_cons_mk (Below.trod Zm4 (by kernel_rfl) (of_decide_eq_true (by kernel_rfl)) h5 bel lt5) trodAll_mk0)))))),rfl,bel.frame _,fun h=>by cases h⟩
theorem over:Rows.stealCalmRow.holds Tryz.pinned (OpenSpec.ofChange Rows.stealCalmSpec):=
 OpenClaim.holds_of_wide 4 Tryz.f4 rfl rfl rfl rfl rfl rfl rfl ⟨rfl,rfl,rfl,rfl,rfl⟩ rfl rfl rfl rfl rfl (by kernel_rfl) Tryz.func4 (by kernel_rfl)
  (of_decide_eq_true (by kernel_rfl)) (by unfold Func.isWrapper;first | (rw[if_pos (by decide +kernel)];kernel_rfl) | (rw[if_neg (by decide +kernel)];exact⟨rfl,rfl⟩))
  (fun os started H enc _=>ZCJ os started H enc)
theorem proved:Rows.StealCalmSaid:=over
theorem carded:Rows.StealCalmCardSaid:=
 Claim7.holds_tied_plain_at .later [] [.data, .data] true (true, "d6d7d9d5c807326625a91c6e0083beb2768bae7db06b561411ca8dd5dfe6ff89") false
  proved (fun _ h=>by cases h) (by kernel_rfl) (fun _ h=>by cases h) stealCalm_row_tie rfl ⟨rfl,rfl⟩ (by kernel_rfl) rfl
  (fun f fn hf hfn=>by
   obtain rfl : f = 4 := Option.some.inj ((show Tryz.prog.funcNamed "trefoil/trefoillaw13.StealCalm" = some 4 by kernel_rfl).symm.trans hf) |>.symm
   obtain rfl:fn=Tryz.f4:=(Option.some.inj (Tryz.func4.symm.trans hfn)).symm
   exact⟨by kernel_rfl,fun j t ht=>by
    rw[Tryz.params4] at ht
    have hm:t∈[25,22,3,22,22,5]:=by simpa using Array.mem_of_getElem? ht
    have hall:([25,22,3,22,22,5].all fun u=>!Tryz.prog.wantsStandIn u)=true:=by kernel_rfl
    exact(show Tryz.prog.wantsStandIn t=false by simpa using List.all_eq_true.1 hall t hm)⟩)
  (by kernel_rfl)
end Go.Proofs.YtgcfmiajkbbmeaaGreatDoor.LawStealCalm
namespace Go.Proofs.YtgcfmiajkbbmeaaGreatDoor
theorem stealCalm_holds:Rows.StealCalmCardSaid:=LawStealCalm.carded
#print axioms stealCalm_holds
end Go.Proofs.YtgcfmiajkbbmeaaGreatDoor
