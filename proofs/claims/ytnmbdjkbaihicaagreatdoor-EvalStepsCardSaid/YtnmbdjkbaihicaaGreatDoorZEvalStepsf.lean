/- EvalSteps: part 6 of 7 of the proof. -/
import Derived.Test.YtnmbdjkbaihicaaGreatDoorZEvalStepse
import Derived.KernelRfl
set_option maxRecDepth 100000
set_option maxHeartbeats 40000000
namespace Go.Proofs.YtnmbdjkbaihicaaGreatDoor
open Go Go.Proofs.YtnmbdjkbaihicaaGreatDoorE
set_option linter.unusedVariables false
set_option linter.unusedSimpArgs false
theorem ZgP:∀r,Zgb=some r→evD ctx 6 []=some (D.bool r):=fun r h=>by
  cases h
  exact ZFm 100 (by kernel_rfl)
def ZoH (r:Bool):D:=(D.bool r)
def ZkW (t0:Bool) (t1:Bool) (t2:Bool) (t3:Bool) (a:Zi):(Unit⊕Unit)→Ex×List V×Zp
  | (.inl r)=>(.ret,[(.ptr 0 0),(.d (D.bool false))],[(.cells (dV t0 t1 t2 t3 a))])
  | (.inr r)=>(.exit 0,[(.ptr 0 0),.bad],[(.cells (dV t0 t1 t2 t3 a))])
theorem Zpz {t0:Bool}{t1:Bool}{t2:Bool}{t3:Bool}{a:Zi}:∀(s0:Int) (r:(Unit⊕Unit)),lp (Zfv a) s0=some r→lpW ctx 0 [1,3] [1,2] ZBo [(.ptr 0 0),(.d (Zb s0))] [(.cells (dV t0 t1 t2 t3 a))]=some ((ZkW t0 t1 t2 t3 a) r):=by
 refine Z1 (ZkW t0 t1 t2 t3 a) ?_
 intro s0 rcl ih
 show ZG _ _ (lpW _ _ _ _ _ _ _)
 unfold Zfv
 rw[Z2]
 conv=>arg 3;whnf
 refine Zk (Zt _ _) ?_;conv=>arg 3;whnf
 refine Zd rfl ?_ ?_<;>conv=>arg 3;whnf
 ·refine Zd rfl ?_ ?_<;>conv=>arg 3;whnf
  ·refine Zl rfl rfl fun x1 hx1=>?_;conv=>arg 3;whnf
   refine Zk (Zt _ _) ?_;conv=>arg 3;whnf
   refine Zd rfl ?_ ?_<;>conv=>arg 3;whnf
   ·exact Zc rfl
   ·refine Zg (Za7 rfl hx1) ?_;conv=>arg 3;whnf
    refine Zk (Zt _ _) ?_;conv=>arg 3;whnf
    refine Zd rfl ?_ ?_<;>conv=>arg 3;whnf
    ·exact Zc rfl
    ·exact Zf (ih _)
  ·exact Zc rfl
 ·exact Zc rfl
theorem Zs6 {t0:Bool}{t1:Bool}{t2:Bool}{t3:Bool}{a:Zi}:∀r,(Zis a)=some r→evD ctx 27 [(.d (D.agg (dA t0 t1 t2 t3 a)))]=some (ZoH r):=by
 show ZG _ (fun r rhs=>rhs=some (ZoH r)) _
 unfold Zis
 rw[Z4 ctx 27 ZEc _ rfl rfl]
 conv=>arg 3;whnf
 refine Ze _ (Zpz _) fun r2 hr2=>?_
 clear hr2
 rcases r2 with r2 | r2
 ·conv=>arg 3;whnf
  exact Zc rfl
 ·conv=>arg 3;whnf
  refine Zk (Zt _ _) ?_;conv=>arg 3;whnf
  refine Zd rfl ?_ ?_<;>conv=>arg 3;whnf
  ·refine Zk (Zt _ _) ?_;conv=>arg 3;whnf
   refine Zd rfl ?_ ?_<;>conv=>arg 3;whnf
   ·refine Zk (Zt _ _) ?_;conv=>arg 3;whnf
    refine Zd rfl ?_ ?_<;>conv=>arg 3;whnf
    ·refine Zk (Zt _ _) ?_;conv=>arg 3;whnf
     refine Zd rfl ?_ ?_<;>conv=>arg 3;whnf
     ·exact Zc rfl
     ·exact Zc rfl
    ·exact Zc rfl
   ·exact Zc rfl
  ·exact Zc rfl
def Zou (r:Bool):D:=(D.bool r)
theorem Znm {t0:Bool}{t1:Bool}{t2:Bool}{t3:Bool}{t4:Bool}{t5:Bool}{t6:Bool}{a:Zi}{b:(List Int)}{c:Zy}:∀r,(ZhA a b c)=some r→evD ctx 7 [(.d (D.agg (dA t0 t1 t2 t3 a))),(.d (D.list t4 (List.map Zb b))),(.d (D.agg [(D.list t5 (List.map D.bool c.done)),(D.list t6 (List.map Zb c.vals))]))]=some (Zou r):=by
 show ZG _ (fun r rhs=>rhs=some (Zou r)) _
 unfold ZhA
 rw[Z4 ctx 7 fn7 _ rfl rfl]
 conv=>arg 3;whnf
 refine Zj _ Zs6 rfl fun x0 hx0=>?_;conv=>arg 3;whnf
 refine Zd rfl ?_ ?_<;>conv=>arg 3;whnf
 ·refine Zk (Zt _ _) ?_;conv=>arg 3;whnf
  refine Zd rfl ?_ ?_<;>conv=>arg 3;whnf
  ·refine Zk (Zt _ _) ?_;conv=>arg 3;whnf
   refine Zd rfl ?_ ?_<;>conv=>arg 3;whnf
   ·refine Zk (Zt _ _) ?_;conv=>arg 3;whnf
    refine Zd rfl ?_ ?_<;>conv=>arg 3;whnf
    ·exact Zc rfl
    ·exact Zc rfl
   ·exact Zc rfl
  ·exact Zc rfl
 ·exact Zc rfl
def ZoK (t0:Bool) (t1:Bool) (t2:Bool) (t3:Bool) (a:Zi):(List Zs)→V×Zp
  | r=>((.agg [(.d (Zb a.period)),(.d (Zb a.deadline)),(.sl 0 3),(.sl 1 2),(.sl 2 3),(.sl 3 2)]),[(.arr 3 (List.map Z8 a.parts)),(.arr 2 (List.map Zv a.edges)),(.arr 3 (List.map Zr a.futures)),(.arr 2 (List.map Zz r))])
def ZkQ (t0:Bool) (t1:Bool) (t2:Bool) (t3:Bool) (a:Zi):(List Zs)→Ex×List V×Zp
  | r=>(.exit 0,[(.ptr 0 0),(.ptr 1 0)],[(.cells [(.d (Zb 0)),(.d (Zb 0)),(.sl 2 3),(.sl 3 2),(.sl 4 3),(.sl 5 2)]),(.cells [(.d (Zb a.period)),(.d (Zb a.deadline)),(.sl 6 3),(.sl 7 2),(.sl 8 3),(.sl 9 2)]),(.arr 3 []),(.arr 2 []),(.arr 3 []),(.arr 2 []),(.arr 3 (List.map Z8 a.parts)),(.arr 2 (List.map Zv a.edges)),(.arr 3 (List.map Zr a.futures)),(.arr 2 (List.map Zz r))])
theorem Zpp {t0:Bool}{t1:Bool}{t2:Bool}{t3:Bool}{a:Zi}:∀(s0:Int×(List Zs)) (r:(List Zs)),lp (ZeD a) s0=some r→lpW ctx 0 [1,2,3,4] [2,3] ZDO [(.ptr 0 0),(.ptr 1 0),(.ptr 2 0),(.d (Zb s0.1))] [(.cells (dV t0 t1 t2 t3 a)),(.cells [(.d (Zb 0)),(.d (Zb 0)),(.sl 3 3),(.sl 4 2),(.sl 5 3),(.sl 6 2)]),(.cells [(.d (Zb a.period)),(.d (Zb a.deadline)),(.sl 7 3),(.sl 8 2),(.sl 9 3),(.sl 10 2)]),(.arr 3 []),(.arr 2 []),(.arr 3 []),(.arr 2 []),(.arr 3 (List.map Z8 a.parts)),(.arr 2 (List.map Zv a.edges)),(.arr 3 (List.map Zr a.futures)),(.arr 2 (List.map Zz s0.2))]=some ((ZkQ t0 t1 t2 t3 a) r):=by
 refine Z1 (ZkQ t0 t1 t2 t3 a) ?_
 intro s0 rcl ih
 show ZG _ _ (lpW _ _ _ _ _ _ _)
 unfold ZeD
 rw[Z2]
 conv=>arg 3;whnf
 refine Zk (Zt _ _) ?_;conv=>arg 3;whnf
 refine Zd rfl ?_ ?_<;>conv=>arg 3;whnf
 ·refine Zl rfl rfl fun x1 hx1=>?_;conv=>arg 3;whnf
  refine Zah (Zf5 (f:=Zb) (fun _=>⟨rfl,rfl⟩) x1.ins 0) ?_;conv=>arg 3;whnf
  refine Zd (Zf4 Zb x1.ins) ?_ ?_
  ·conv=>arg 3;whnf
   refine Zk (rfl:_=List.map Zb x1.ins) ?_;conv=>arg 3;whnf
   refine Zg (Za7 rfl hx1) ?_;conv=>arg 3;whnf
   refine Zah (Zf5 (f:=Zb) (fun _=>⟨rfl,rfl⟩) x1.outs 0) ?_;conv=>arg 3;whnf
   refine Zd (Zf4 Zb x1.outs) ?_ ?_
   ·conv=>arg 3;whnf
    refine Zk (rfl:_=List.map Zb x1.outs) ?_;conv=>arg 3;whnf
    refine Zah rfl ?_;conv=>arg 3;whnf
    refine Zd (Zcg Zz s0.2 1) ?_ ?_
    ·conv=>arg 3;whnf
     refine Zk (Zcf Zz s0.2 [x1]) ?_;conv=>arg 3;whnf
     exact Zf (ih _)
    ·exact ZQ
   ·exact ZQ
  ·exact ZQ
 ·exact Zc rfl
theorem Zfz {t0:Bool}{t1:Bool}{t2:Bool}{t3:Bool}{a:Zi}:∀r,(Zea a)=some r→evW ctx 9 [(.d (D.agg (dA t0 t1 t2 t3 a)))] []=some ((ZoK t0 t1 t2 t3 a) r):=by
 show ZG _ (fun r rhs=>rhs=some ((ZoK t0 t1 t2 t3 a) r)) _
 unfold Zea
 rw[Zgw ctx 9 fn9 _ _ rfl rfl]
 conv=>arg 3;whnf
 refine Zah (Zf5 (f:=Z8) (fun _=>⟨rfl,rfl⟩) a.parts 0) ?_;conv=>arg 3;whnf
 refine Zd (Zf4 Z8 a.parts) ?_ ?_
 ·conv=>arg 3;whnf
  refine Zk (rfl:_=List.map Z8 a.parts) ?_;conv=>arg 3;whnf
  refine Zah (Zf5 (f:=Zv) (fun _=>⟨rfl,rfl⟩) a.edges 0) ?_;conv=>arg 3;whnf
  refine Zd (Zf4 Zv a.edges) ?_ ?_
  ·conv=>arg 3;whnf
   refine Zk (rfl:_=List.map Zv a.edges) ?_;conv=>arg 3;whnf
   refine Zah (Zf5 (f:=Zr) (fun _=>⟨rfl,rfl⟩) a.futures 0) ?_;conv=>arg 3;whnf
   refine Zd (Zf4 Zr a.futures) ?_ ?_
   ·conv=>arg 3;whnf
    refine Zk (rfl:_=List.map Zr a.futures) ?_;conv=>arg 3;whnf
    refine Ze _ (Zpp _) fun r2 hr2=>?_;conv=>arg 3;whnf
    exact Zc rfl
   ·exact ZQ
  ·exact ZQ
 ·exact ZQ
def ZoC (t0:Bool) (t1:Bool) (a:Zy):Unit→V×Zp
  | r=>((.agg [(.sl 0 1),(.sl 1 1)]),[(.arr 1 (List.map D.bool a.done)),(.arr 1 (List.map Zb a.vals))])
theorem Zba {t0:Bool}{t1:Bool}{a:Zy}:∀r,(Zbm a)=some r→evW ctx 10 [(.d (D.agg [(D.list t0 (List.map D.bool a.done)),(D.list t1 (List.map Zb a.vals))]))] []=some ((ZoC t0 t1 a) r):=by
 show ZG _ (fun r rhs=>rhs=some ((ZoC t0 t1 a) r)) _
 unfold Zbm
 rw[Zgw ctx 10 ZEh _ _ rfl rfl]
 conv=>arg 3;whnf
 refine Zah (Zf5 (f:=D.bool) (fun _=>⟨rfl,rfl⟩) a.done 0) ?_;conv=>arg 3;whnf
 refine Zd (Zf4 D.bool a.done) ?_ ?_
 ·conv=>arg 3;whnf
  refine Zk (rfl:_=List.map D.bool a.done) ?_;conv=>arg 3;whnf
  refine Zah (Zf5 (f:=Zb) (fun _=>⟨rfl,rfl⟩) a.vals 0) ?_;conv=>arg 3;whnf
  refine Zd (Zf4 Zb a.vals) ?_ ?_
  ·conv=>arg 3;whnf
   refine Zk (rfl:_=List.map Zb a.vals) ?_;conv=>arg 3;whnf
   exact Zc rfl
  ·exact ZQ
 ·exact ZQ
def Zmd (r:Bool):D:=(D.bool r)
theorem Zcd {a:Int}{b:Int}{c:Int}:∀r,(ZbD a b c)=some r→evD ctx 67 [(.d (Zb a)),(.d (Zb b)),(.d (Zb c))]=some (Zmd r):=by
 show ZG _ (fun r rhs=>rhs=some (Zmd r)) _
 unfold ZbD
 rw[Z4 ctx 67 ZEH _ rfl rfl]
 conv=>arg 3;whnf
 refine Zd rfl ?_ ?_<;>conv=>arg 3;whnf
 ·refine Zd rfl ?_ ?_<;>conv=>arg 3;whnf
  ·exact Zc rfl
  ·exact Zc rfl
 ·exact Zc rfl
def ZoG (r:Int):D:=(Zb r)
theorem Zsh {a:Int}:∀r,(Zio a)=some r→evD ctx 98 [(.d (Zb a))]=some (ZoG r):=by
 show ZG _ (fun r rhs=>rhs=some (ZoG r)) _
 unfold Zio
 rw[Z4 ctx 98 ZFq _ rfl rfl]
 conv=>arg 3;whnf
 refine Zd rfl ?_ ?_<;>conv=>arg 3;whnf
 ·exact Zc rfl
 ·refine Zd rfl ?_ ?_<;>conv=>arg 3;whnf
  ·exact Zc rfl
  ·exact Zc rfl
def ZgX (r:Int):D:=(Zb r)
theorem Zjm {a:Int}:∀r,(ZcN a)=some r→evD ctx 114 [(.d (D.int .u64 a))]=some (ZgX r):=by
 show ZG _ (fun r rhs=>rhs=some (ZgX r)) _
 unfold ZcN
 rw[Z4 ctx 114 ZAG _ rfl rfl]
 conv=>arg 3;whnf
 refine Z6 rfl ?_;conv=>arg 3;whnf
 refine Z6 rfl ?_;conv=>arg 3;whnf
 refine Z6 rfl ?_;conv=>arg 3;whnf
 refine Z6 rfl ?_;conv=>arg 3;whnf
 refine Z6 rfl ?_;conv=>arg 3;whnf
 refine Z6 rfl ?_;conv=>arg 3;whnf
 exact Zc rfl
def ZhB (r:Int):D:=(Zb r)
theorem ZkM {a:Int}:∀r,(Zc7 a)=some r→evD ctx 99 [(.d (D.int .u64 a))]=some (ZhB r):=by
 show ZG _ (fun r rhs=>rhs=some (ZhB r)) _
 unfold Zc7
 rw[Z4 ctx 99 ZEe _ rfl rfl]
 conv=>arg 3;whnf
 refine Zj _ Zjm rfl fun x0 hx0=>?_;conv=>arg 3;whnf
 exact Zc rfl
theorem ZGm (n:Int):0≤IntKind.u64.wrap n∧IntKind.u64.wrap n<18446744073709551616:=by
  have:IntKind.u64.wrap n=n % 18446744073709551616:=by
    show(if (false&&decide (n % 18446744073709551616 ≥ 9223372036854775808))=true then n % 18446744073709551616-18446744073709551616 else n % 18446744073709551616)=_
    simp
  rw[this]
  omega
theorem ZHb (n:Int):∃j:Nat,j<64∧(IntKind.u64.wrap n).fdiv (2 ^ (min (Int.toNat 58) IntKind.u64.bits))=(j:Int):=by
  obtain⟨h1,h2⟩:=ZGm n
  have e:(2:Int) ^ (min (Int.toNat 58) IntKind.u64.bits)=288230376151711744:=by decide
  rw[e,Int.fdiv_eq_ediv_of_nonneg _ (by omega)]
  refine⟨((IntKind.u64.wrap n) / 288230376151711744).toNat,?_,?_⟩<;>omega
theorem ZHk:∀j:Nat,j<64→ZdZ [] 1 false (.d (.rptr (ZA9.drop (j*1))))=some (.d (.int .u8 (Zvl.getD j 0))):=by
  have key:((List.range 64).all fun j=>match ZdZ [] 1 false (.d (.rptr (ZA9.drop (j*1)))) with | some (.d (.int .u8 z))=>z==Zvl.getD j 0 | _=>false)=true:=by rfl
  intro j hj
  have:=List.all_eq_true.1 key j (by simpa using hj)
  split at this
  · rename_i z hz
    rw[hz,eq_of_beq this]
  · cases this
def ZiG (r:Int):D:=Zb r
theorem Zh0 (a:Int):∀r,Zd6 a=some r→evD ctx 116 [.d (.int .u64 a)]=some (ZiG r):=by
  intro r hr
  unfold Zd6 at hr
  have hr:=Option.some.inj hr
  subst hr
  rw[Z4 ctx 116 ZCk _ rfl rfl]
  by_cases h:(a==0)=true
  · conv=>lhs;whnf
    rw[h,ZDg]
    rfl
  · replace h:(a==0)=false:=by simpa using h
    obtain⟨j,hj,e⟩:=ZHb (IntKind.u64.wrap ((BitVec.ofInt IntKind.u64.bits a &&& BitVec.ofInt IntKind.u64.bits (IntKind.u64.wrap (0-a))).toNat:Int)*285870213051353865)
    conv=>lhs;whnf
    rw[h,ZDE]
    conv=>lhs;whnf
    refine(ZHd (by rfl)).trans ?_
    conv=>lhs;whnf
    rw[e]
    refine(ZF6 (by simp;omega)).trans ?_
    conv=>lhs;whnf
    erw [ZHk j hj]
    rfl
def Zgn (r:Int):D:=(Zb r)
theorem ZiP {a:Int}:∀r,(Zc6 a)=some r→evD ctx 100 [(.d (D.int .u64 a))]=some (Zgn r):=by
 show ZG _ (fun r rhs=>rhs=some (Zgn r)) _
 unfold Zc6
 rw[Z4 ctx 100 ZBY _ rfl rfl]
 conv=>arg 3;whnf
 refine Zj _ (Zh0 _) rfl fun x0 hx0=>?_;conv=>arg 3;whnf
 exact Zc rfl
def Zrd (r:(Int×Bool)):D:=(D.tup [(Zb r.1),(D.bool r.2)])
theorem ZuS {a:Int}:∀r,(ZkY a)=some r→evD ctx 68 [(.d (Zb a))]=some (Zrd r):=by
 show ZG _ (fun r rhs=>rhs=some (Zrd r)) _
 unfold ZkY
 rw[Z4 ctx 68 ZEd _ rfl rfl]
 conv=>arg 3;whnf
 refine Zj _ Zsh rfl fun x0 hx0=>?_;conv=>arg 3;whnf
 refine Zd rfl ?_ ?_<;>conv=>arg 3;whnf
 ·exact Zc rfl
 ·refine Zj _ ZkM rfl fun x1 hx1=>?_;conv=>arg 3;whnf
  refine Zd rfl ?_ ?_<;>conv=>arg 3;whnf
  ·exact Zc rfl
  ·refine Zj _ ZiP rfl fun x2 hx2=>?_;conv=>arg 3;whnf
   exact Zc rfl
def Zov (r:Bool):D:=(D.bool r)
theorem Zsj {a:ZV}:∀r,(ZfL a)=some r→evD ctx 70 [(.d (D.agg [(Zb a.op),(Zb a.arg),(Zb a.work)]))]=some (Zov r):=by
 show ZG _ (fun r rhs=>rhs=some (Zov r)) _
 unfold ZfL
 rw[Z4 ctx 70 ZFi _ rfl rfl]
 conv=>arg 3;whnf
 refine Zj _ Zcd rfl fun x0 hx0=>?_;conv=>arg 3;whnf
 refine Zd rfl ?_ ?_<;>conv=>arg 3;whnf
 ·refine Zj _ Zcd rfl fun x1 hx1=>?_;conv=>arg 3;whnf
  refine Zd rfl ?_ ?_<;>conv=>arg 3;whnf
  ·refine Zj _ Zcd rfl fun x2 hx2=>?_;conv=>arg 3;whnf
   refine Zd rfl ?_ ?_<;>conv=>arg 3;whnf
   ·exact Zc rfl
   ·exact Zc rfl
  ·exact Zc rfl
 ·exact Zc rfl
def ZcS (r:Int):D:=(Zb r)
def Zct (t0:Bool) (a:(List ZV)):(Int⊕Unit)→Ex×List V×Zp
  | (.inl r)=>(.ret,[(.d (Zb r))],[])
  | (.inr r)=>(.exit 0,[.bad],[])
theorem Zff {t0:Bool}{a:(List ZV)}:∀(s0:Int) (r:(Int⊕Unit)),lp (Za3 a (fun z0=>ZfL z0)) s0=some r→lpW ctx 0 [0,1,7,8] [4] ZyJ [(.d (D.list t0 (List.map Z8 a))),(.d (D.fn 70 [])),(.d (Zb (a.length:Int))),(.d (Zb s0))] []=some ((Zct t0 a) r):=by
 refine Z1 (Zct t0 a) ?_
 intro s0 rcl ih
 show ZG _ _ (lpW _ _ _ _ _ _ _)
 unfold Za3
 rw[Z2]
 conv=>arg 3;whnf
 refine Zd rfl ?_ ?_<;>conv=>arg 3;whnf
 ·refine Zl rfl rfl fun x1 hx1=>?_;conv=>arg 3;whnf
  refine Zj _ Zsj rfl fun x2 hx2=>?_;conv=>arg 3;whnf
  refine Zd rfl ?_ ?_<;>conv=>arg 3;whnf
  ·exact Zc rfl
  ·exact Zf (ih _)
 ·exact Zc rfl
theorem ZfB {t0:Bool}{a:(List ZV)}:∀r,(Zcc a (fun z0=>ZfL z0))=some r→evD ctx 101 [(.d (D.list t0 (List.map Z8 a))),(.d (D.fn 70 []))]=some (ZcS r):=by
 show ZG _ (fun r rhs=>rhs=some (ZcS r)) _
 unfold Zcc
 rw[Z4 ctx 101 ZAm _ rfl rfl]
 conv=>arg 3;whnf
 refine Zk (Zt _ _) ?_;conv=>arg 3;whnf
 refine Ze _ (Zff _) fun r3 hr3=>?_
 clear hr3
 rcases r3 with r3 | r3
 ·conv=>arg 3;whnf
  exact Zc rfl
 ·conv=>arg 3;whnf
  exact Zc rfl
def Zcy (r:Bool):D:=(D.bool r)
theorem Zfh {t0:Bool}{a:(List ZV)}:∀r,(Za4 a (fun z0=>ZfL z0))=some r→evD ctx 69 [(.d (D.list t0 (List.map Z8 a))),(.d (D.fn 70 []))]=some (Zcy r):=by
 show ZG _ (fun r rhs=>rhs=some (Zcy r)) _
 unfold Za4
 rw[Z4 ctx 69 ZFr _ rfl rfl]
 conv=>arg 3;whnf
 refine Zj _ ZfB rfl fun x0 hx0=>?_;conv=>arg 3;whnf
 refine Zd rfl ?_ ?_<;>conv=>arg 3;whnf
 ·exact Zc rfl
 ·exact Zc rfl
def Zp8 (r:Bool):D:=(D.bool r)
theorem ZoD {t0:Bool}{t1:Bool}{t2:Bool}{t3:Bool}{a:Zi}{b:Int}{c:Int}:∀r,(Zh9 a b c)=some r→evD ctx 71 [(.d (D.agg (dA t0 t1 t2 t3 a))),(.d (Zb b)),(.d (Zb c))]=some (Zp8 r):=by
 show ZG _ (fun r rhs=>rhs=some (Zp8 r)) _
 unfold Zh9
 rw[Z4 ctx 71 ZE2 _ rfl rfl]
 conv=>arg 3;whnf
 refine Zd rfl ?_ ?_<;>conv=>arg 3;whnf
 ·refine Zk (Zt _ _) ?_;conv=>arg 3;whnf
  refine Zj _ Zcd rfl fun x0 hx0=>?_;conv=>arg 3;whnf
  refine Zd rfl ?_ ?_<;>conv=>arg 3;whnf
  ·refine Zk (Zt _ _) ?_;conv=>arg 3;whnf
   refine Zj _ Zcd rfl fun x1 hx1=>?_;conv=>arg 3;whnf
   refine Zd rfl ?_ ?_<;>conv=>arg 3;whnf
   ·exact Zc rfl
   ·exact Zc rfl
  ·exact Zc rfl
 ·exact Zc rfl
def ZfY (r:Int):D:=(Zb r)
def Zfq (t0:Bool) (a:(List Zn)) (b:Zn):(Int⊕Unit)→Ex×List V×Zp
  | (.inl r)=>(.ret,[(.d (Zb r))],[])
  | (.inr r)=>(.exit 0,[.bad],[])
theorem ZhL {t0:Bool}{a:(List Zn)}{b:Zn}:∀(s0:Int) (r:(Int⊕Unit)),lp (Zbt a b) s0=some r→lpW ctx 0 [0,3,7,8] [4] Zyd [(.d (D.list t0 (List.map Zv a))),(.ptr 0 0),(.d (Zb (a.length:Int))),(.d (Zb s0))] [(.cells [(.d (Zb b.src)),(.d (Zb b.dst))])]=some ((Zfq t0 a b) r):=by
 refine Z1 (Zfq t0 a b) ?_
 intro s0 rcl ih
 show ZG _ _ (lpW _ _ _ _ _ _ _)
 unfold Zbt
 rw[Z2]
 conv=>arg 3;whnf
 refine Zd rfl ?_ ?_<;>conv=>arg 3;whnf
 ·refine Zl rfl rfl fun x1 hx1=>?_;conv=>arg 3;whnf
  refine Zd rfl ?_ ?_<;>conv=>arg 3;whnf
  ·exact Zc rfl
  ·exact Zf (ih _)
 ·exact Zc rfl
theorem ZiI {t0:Bool}{a:(List Zn)}{b:Zn}:∀r,(ZcU a b)=some r→evD ctx 102 [(.d (D.list t0 (List.map Zv a))),(.d (D.agg [(Zb b.src),(Zb b.dst)]))]=some (ZfY r):=by
 show ZG _ (fun r rhs=>rhs=some (ZfY r)) _
 unfold ZcU
 rw[Z4 ctx 102 ZAF _ rfl rfl]
 conv=>arg 3;whnf
 refine Zk (Zt _ _) ?_;conv=>arg 3;whnf
 refine Ze _ (ZhL _) fun r2 hr2=>?_
 clear hr2
 rcases r2 with r2 | r2
 ·conv=>arg 3;whnf
  exact Zc rfl
 ·conv=>arg 3;whnf
  exact Zc rfl
def Zfr (r:Bool):D:=(D.bool r)
theorem Zfc {t0:Bool}{a:(List Zn)}{b:Zn}:∀r,(Za2 a b)=some r→evD ctx 72 [(.d (D.list t0 (List.map Zv a))),(.d (D.agg [(Zb b.src),(Zb b.dst)]))]=some (Zfr r):=by
 show ZG _ (fun r rhs=>rhs=some (Zfr r)) _
 unfold Za2
 rw[Z4 ctx 72 ZD5 _ rfl rfl]
 conv=>arg 3;whnf
 refine Zj _ ZiI rfl fun x0 hx0=>?_;conv=>arg 3;whnf
 refine Zd rfl ?_ ?_<;>conv=>arg 3;whnf
 ·exact Zc rfl
 ·exact Zc rfl
def Zll (r:Bool):D:=(D.bool r)
theorem ZpR {a:Zm}{b0:Int}{b1:Int}{b2:Int}:∀r,(ZdC a b1 b2)=some r→evD ctx 73 [(.d (D.agg [(Zb a.maker),(Zb a.user),(Zb a.pos)])),(.d (D.rptr [(Zb b0),(Zb b1),(Zb b2)]))]=some (Zll r):=by
 show ZG _ (fun r rhs=>rhs=some (Zll r)) _
 unfold ZdC
 rw[Z4 ctx 73 ZEq _ rfl rfl]
 conv=>arg 3;whnf
 refine Zd rfl ?_ ?_<;>conv=>arg 3;whnf
 ·refine Zd rfl ?_ ?_<;>conv=>arg 3;whnf
  ·exact Zc rfl
  ·exact Zc rfl
 ·exact Zc rfl
def ZbZ (r:Int):D:=(Zb r)
def ZbI (t0:Bool) (a:(List Zm)) (b0:Int) (b1:Int) (b2:Int):(Int⊕Unit)→Ex×List V×Zp
  | (.inl r)=>(.ret,[(.d (Zb r))],[])
  | (.inr r)=>(.exit 0,[.bad],[])
theorem ZdS {t0:Bool}{a:(List Zm)}{b0:Int}{b1:Int}{b2:Int}:∀(s0:Int) (r:(Int⊕Unit)),lp (ZaM a (fun z0=>ZdC z0 b1 b2)) s0=some r→lpW ctx 0 [0,1,7,8] [4] Zya [(.d (D.list t0 (List.map Zr a))),(.d (D.fn 73 [(D.rptr [(Zb b0),(Zb b1),(Zb b2)])])),(.d (Zb (a.length:Int))),(.d (Zb s0))] []=some ((ZbI t0 a b0 b1 b2) r):=by
 refine Z1 (ZbI t0 a b0 b1 b2) ?_
 intro s0 rcl ih
 show ZG _ _ (lpW _ _ _ _ _ _ _)
 unfold ZaM
 rw[Z2]
 conv=>arg 3;whnf
 refine Zd rfl ?_ ?_<;>conv=>arg 3;whnf
 ·refine Zl rfl rfl fun x1 hx1=>?_;conv=>arg 3;whnf
  refine Zj _ ZpR rfl fun x2 hx2=>?_;conv=>arg 3;whnf
  refine Zd rfl ?_ ?_<;>conv=>arg 3;whnf
  ·exact Zc rfl
  ·exact Zf (ih _)
 ·exact Zc rfl
theorem Zed {t0:Bool}{a:(List Zm)}{b0:Int}{b1:Int}{b2:Int}:∀r,(Zbu a (fun z0=>ZdC z0 b1 b2))=some r→evD ctx 103 [(.d (D.list t0 (List.map Zr a))),(.d (D.fn 73 [(D.rptr [(Zb b0),(Zb b1),(Zb b2)])]))]=some (ZbZ r):=by
 show ZG _ (fun r rhs=>rhs=some (ZbZ r)) _
 unfold Zbu
 rw[Z4 ctx 103 ZAR _ rfl rfl]
 conv=>arg 3;whnf
 refine Zk (Zt _ _) ?_;conv=>arg 3;whnf
 refine Ze _ (ZdS _) fun r3 hr3=>?_
 clear hr3
 rcases r3 with r3 | r3
 ·conv=>arg 3;whnf
  exact Zc rfl
 ·conv=>arg 3;whnf
  exact Zc rfl
def ZbG (r:Bool):D:=(D.bool r)
theorem ZdQ {t0:Bool}{a:(List Zm)}{b0:Int}{b1:Int}{b2:Int}:∀r,(ZaN a (fun z0=>ZdC z0 b1 b2))=some r→evD ctx 74 [(.d (D.list t0 (List.map Zr a))),(.d (D.fn 73 [(D.rptr [(Zb b0),(Zb b1),(Zb b2)])]))]=some (ZbG r):=by
 show ZG _ (fun r rhs=>rhs=some (ZbG r)) _
 unfold ZaN
 rw[Z4 ctx 74 ZE6 _ rfl rfl]
 conv=>arg 3;whnf
 refine Zj _ Zed rfl fun x0 hx0=>?_;conv=>arg 3;whnf
 refine Zd rfl ?_ ?_<;>conv=>arg 3;whnf
 ·exact Zc rfl
 ·exact Zc rfl
def ZpN (r:Bool):D:=(D.bool r)
def Zl6 (t0:Bool) (t1:Bool) (t2:Bool) (t3:Bool) (t4:Bool) (a:Zi) (b:(List Int)):(Unit⊕Unit)→Ex×List V×Zp
  | (.inl r)=>(.ret,[(.d (D.list t4 (List.map Zb b))),(.d (D.bool false))],[])
  | (.inr r)=>(.exit 0,[(.d (D.list t4 (List.map Zb b))),.bad],[])
theorem Zq3 {t0:Bool}{t1:Bool}{t2:Bool}{t3:Bool}{t4:Bool}{a:Zi}{b:(List Int)}:∀(s0:Int) (r:(Unit⊕Unit)),lp (Zgf a b) s0=some r→lpW ctx 0 [1,2,7,8,9] [1,4] ZBd [(.d (D.list t4 (List.map Zb b))),(.ptr 0 0),(.d (D.list t4 (List.map Zb b))),(.d (Zb (b.length:Int))),(.d (Zb s0))] [(.cells (dV t0 t1 t2 t3 a))]=some ((Zl6 t0 t1 t2 t3 t4 a b) r):=by
 refine Z1 (Zl6 t0 t1 t2 t3 t4 a b) ?_
 intro s0 rcl ih
 show ZG _ _ (lpW _ _ _ _ _ _ _)
 unfold Zgf
 rw[Z2]
 conv=>arg 3;whnf
 refine Zd rfl ?_ ?_<;>conv=>arg 3;whnf
 ·refine Zl rfl rfl fun x1 hx1=>?_;conv=>arg 3;whnf
  refine Zk (Zt _ _) ?_;conv=>arg 3;whnf
  refine Zj _ Zcd rfl fun x2 hx2=>?_;conv=>arg 3;whnf
  refine Zd rfl ?_ ?_<;>conv=>arg 3;whnf
  ·refine Zd rfl ?_ ?_<;>conv=>arg 3;whnf
   ·refine Zl rfl rfl fun x3 hx3=>?_;conv=>arg 3;whnf
    refine Zd rfl ?_ ?_<;>conv=>arg 3;whnf
    ·exact Zc rfl
    ·exact Zf (ih _)
   ·exact Zf (ih _)
  ·exact Zc rfl
 ·exact Zc rfl
theorem ZoJ {t0:Bool}{t1:Bool}{t2:Bool}{t3:Bool}{t4:Bool}{a:Zi}{b:(List Int)}:∀r,(Zia a b)=some r→evD ctx 76 [(.d (D.agg (dA t0 t1 t2 t3 a))),(.d (D.list t4 (List.map Zb b)))]=some (ZpN r):=by
 show ZG _ (fun r rhs=>rhs=some (ZpN r)) _
 unfold Zia
 rw[Z4 ctx 76 ZEJ _ rfl rfl]
 conv=>arg 3;whnf
 refine Zk (Zt _ _) ?_;conv=>arg 3;whnf
 refine Ze _ (Zq3 _) fun r4 hr4=>?_
 clear hr4
 rcases r4 with r4 | r4
 ·conv=>arg 3;whnf
  exact Zc rfl
 ·conv=>arg 3;whnf
  refine Zk (Zt _ _) ?_;conv=>arg 3;whnf
  refine Zd rfl ?_ ?_<;>conv=>arg 3;whnf
  ·exact Zc rfl
  ·exact Zc rfl
def ZgB (r:Int):D:=(Zb r)
def ZfO (t0:Bool) (a:(List Int)) (b:Int):(Int⊕Unit)→Ex×List V×Zp
  | (.inl r)=>(.ret,[(.d (Zb r))],[])
  | (.inr r)=>(.exit 0,[.bad],[])
theorem Zh4 {t0:Bool}{a:(List Int)}{b:Int}:∀(s0:Int) (r:(Int⊕Unit)),lp (ZbK a b) s0=some r→lpW ctx 0 [0,1,7,8] [4] ZAA [(.d (D.list t0 (List.map Zb a))),(.d (Zb b)),(.d (Zb (a.length:Int))),(.d (Zb s0))] []=some ((ZfO t0 a b) r):=by
 refine Z1 (ZfO t0 a b) ?_
 intro s0 rcl ih
 show ZG _ _ (lpW _ _ _ _ _ _ _)
 unfold ZbK
 rw[Z2]
 conv=>arg 3;whnf
 refine Zd rfl ?_ ?_<;>conv=>arg 3;whnf
 ·refine Zl rfl rfl fun x1 hx1=>?_;conv=>arg 3;whnf
  refine Zd rfl ?_ ?_<;>conv=>arg 3;whnf
  ·exact Zc rfl
  ·exact Zf (ih _)
 ·exact Zc rfl
theorem Zjh {t0:Bool}{a:(List Int)}{b:Int}:∀r,(Zdw a b)=some r→evD ctx 83 [(.d (D.list t0 (List.map Zb a))),(.d (Zb b))]=some (ZgB r):=by
 show ZG _ (fun r rhs=>rhs=some (ZgB r)) _
 unfold Zdw
 rw[Z4 ctx 83 ZEr _ rfl rfl]
 conv=>arg 3;whnf
 refine Zk (Zt _ _) ?_;conv=>arg 3;whnf
 refine Ze _ (Zh4 _) fun r2 hr2=>?_
 clear hr2
 rcases r2 with r2 | r2
 ·conv=>arg 3;whnf
  exact Zc rfl
 ·conv=>arg 3;whnf
  exact Zc rfl
def ZfJ (r:Bool):D:=(D.bool r)
theorem Zid {t0:Bool}{a:(List Int)}{b:Int}:∀r,(ZbJ a b)=some r→evD ctx 47 [(.d (D.list t0 (List.map Zb a))),(.d (Zb b))]=some (ZfJ r):=by
 show ZG _ (fun r rhs=>rhs=some (ZfJ r)) _
 unfold ZbJ
 rw[Z4 ctx 47 ZEf _ rfl rfl]
 conv=>arg 3;whnf
 refine Zj _ Zjh rfl fun x0 hx0=>?_;conv=>arg 3;whnf
 refine Zd rfl ?_ ?_<;>conv=>arg 3;whnf
 ·exact Zc rfl
 ·exact Zc rfl
def Zlu (r:Bool):D:=(D.bool r)
theorem ZpL {t0:Bool}{t1:Bool}{a:Int}{b0:(List Int)}{b1:(List Int)}:∀r,(ZdE a b1)=some r→evD ctx 75 [(.d (Zb a)),(.d (D.rptr [(D.list t0 (List.map Zb b0)),(D.list t1 (List.map Zb b1))]))]=some (Zlu r):=by
 show ZG _ (fun r rhs=>rhs=some (Zlu r)) _
 unfold ZdE
 rw[Z4 ctx 75 ZEK _ rfl rfl]
 conv=>arg 3;whnf
 refine Zj _ Zid rfl fun x0 hx0=>?_;conv=>arg 3;whnf
 refine Zd rfl ?_ ?_<;>conv=>arg 3;whnf
 ·exact Zc rfl
 ·exact Zc rfl
def ZcM (r:Int):D:=(Zb r)
def Zcn (t0:Bool) (t1:Bool) (t2:Bool) (a:(List Int)) (b0:(List Int)) (b1:(List Int)):(Int⊕Unit)→Ex×List V×Zp
  | (.inl r)=>(.ret,[(.d (Zb r))],[])
  | (.inr r)=>(.exit 0,[.bad],[])
theorem ZeV {t0:Bool}{t1:Bool}{t2:Bool}{a:(List Int)}{b0:(List Int)}{b1:(List Int)}:∀(s0:Int) (r:(Int⊕Unit)),lp (Zay a (fun z0=>ZdE z0 b1)) s0=some r→lpW ctx 0 [0,1,7,8] [4] Zvg [(.d (D.list t0 (List.map Zb a))),(.d (D.fn 75 [(D.rptr [(D.list t1 (List.map Zb b0)),(D.list t2 (List.map Zb b1))])])),(.d (Zb (a.length:Int))),(.d (Zb s0))] []=some ((Zcn t0 t1 t2 a b0 b1) r):=by
 refine Z1 (Zcn t0 t1 t2 a b0 b1) ?_
 intro s0 rcl ih
 show ZG _ _ (lpW _ _ _ _ _ _ _)
 unfold Zay
 rw[Z2]
 conv=>arg 3;whnf
 refine Zd rfl ?_ ?_<;>conv=>arg 3;whnf
 ·refine Zl rfl rfl fun x1 hx1=>?_;conv=>arg 3;whnf
  refine Zj _ ZpL rfl fun x2 hx2=>?_;conv=>arg 3;whnf
  refine Zd rfl ?_ ?_<;>conv=>arg 3;whnf
  ·exact Zc rfl
  ·exact Zf (ih _)
 ·exact Zc rfl
theorem Zfs {t0:Bool}{t1:Bool}{t2:Bool}{a:(List Int)}{b0:(List Int)}{b1:(List Int)}:∀r,(Za8 a (fun z0=>ZdE z0 b1))=some r→evD ctx 104 [(.d (D.list t0 (List.map Zb a))),(.d (D.fn 75 [(D.rptr [(D.list t1 (List.map Zb b0)),(D.list t2 (List.map Zb b1))])]))]=some (ZcM r):=by
 show ZG _ (fun r rhs=>rhs=some (ZcM r)) _
 unfold Za8
 rw[Z4 ctx 104 Zx3 _ rfl rfl]
 conv=>arg 3;whnf
 refine Zk (Zt _ _) ?_;conv=>arg 3;whnf
 refine Ze _ (ZeV _) fun r3 hr3=>?_
 clear hr3
 rcases r3 with r3 | r3
 ·conv=>arg 3;whnf
  exact Zc rfl
 ·conv=>arg 3;whnf
  exact Zc rfl
def Zco (r:Bool):D:=(D.bool r)
theorem ZeX {t0:Bool}{t1:Bool}{t2:Bool}{a:(List Int)}{b0:(List Int)}{b1:(List Int)}:∀r,(Zac a (fun z0=>ZdE z0 b1))=some r→evD ctx 77 [(.d (D.list t0 (List.map Zb a))),(.d (D.fn 75 [(D.rptr [(D.list t1 (List.map Zb b0)),(D.list t2 (List.map Zb b1))])]))]=some (Zco r):=by
 show ZG _ (fun r rhs=>rhs=some (Zco r)) _
 unfold Zac
 rw[Z4 ctx 77 ZCF _ rfl rfl]
 conv=>arg 3;whnf
 refine Zj _ Zfs rfl fun x0 hx0=>?_;conv=>arg 3;whnf
 refine Zd rfl ?_ ?_<;>conv=>arg 3;whnf
 ·exact Zc rfl
 ·exact Zc rfl
def Znq (r:Int):D:=(Zb r)
def Zkn (t0:Bool) (t1:Bool) (t2:Bool) (t3:Bool) (a:Zi):(Unit⊕Unit)→Ex×List V×Zp
  | (.inl r)=>(.ret,[(.ptr 0 0),(.d (Zb 53))],[(.cells (dV t0 t1 t2 t3 a))])
  | (.inr r)=>(.exit 0,[(.ptr 0 0),.bad],[(.cells (dV t0 t1 t2 t3 a))])
theorem ZoX {t0:Bool}{t1:Bool}{t2:Bool}{t3:Bool}{a:Zi}:∀(s4:Int) (r:(Unit⊕Unit)),lp (ZdR a) s4=some r→lpW ctx 0 [1,61,62,63] [1,2] ZAU [(.ptr 0 0),(.d (D.list t1 (List.map Zv a.edges))),(.d (Zb (a.edges.length:Int))),(.d (Zb s4))] [(.cells (dV t0 t1 t2 t3 a))]=some ((Zkn t0 t1 t2 t3 a) r):=by
 refine Z1 (Zkn t0 t1 t2 t3 a) ?_
 intro s4 rcl ih
 show ZG _ _ (lpW _ _ _ _ _ _ _)
 unfold ZdR
 rw[Z2]
 conv=>arg 3;whnf
 refine Zd rfl ?_ ?_<;>conv=>arg 3;whnf
 ·refine Zl rfl rfl fun x5 hx5=>?_;conv=>arg 3;whnf
  refine Zj _ ZoD rfl fun x6 hx6=>?_;conv=>arg 3;whnf
  refine Zd rfl ?_ ?_<;>conv=>arg 3;whnf
  ·refine Zd rfl ?_ ?_
   ·conv=>arg 3;whnf
    refine Zd (ZAO Zv a.edges s4.toNat) ?_ ?_
    ·conv=>arg 3;whnf
     refine Zah rfl ?_;conv=>arg 3;whnf
     refine Zk (Zvd Zv a.edges s4.toNat) ?_;conv=>arg 3;whnf
     refine Zj _ Zfc rfl fun x7 hx7=>?_;conv=>arg 3;whnf
     refine Zd rfl ?_ ?_<;>conv=>arg 3;whnf
     ·exact Zc rfl
     ·exact Zf (ih _)
    ·exact ZQ
   ·exact ZQ
  ·exact Zc rfl
 ·exact Zc rfl
def Zks (t0:Bool) (t1:Bool) (t2:Bool) (t3:Bool) (a:Zi):(Unit⊕Unit)→Ex×List V×Zp
  | (.inl r)=>(.ret,[(.ptr 0 0),(.d (Zb 54))],[(.cells (dV t0 t1 t2 t3 a))])
  | (.inr r)=>(.exit 2,[(.ptr 0 0),.bad],[(.cells (dV t0 t1 t2 t3 a))])
theorem Zpc {t0:Bool}{t1:Bool}{t2:Bool}{t3:Bool}{a:Zi}:∀(s9:Int) (r:(Unit⊕Unit)),lp (ZdV a) s9=some r→lpW ctx 0 [1,85,86,87] [1,2] ZzY [(.ptr 0 0),(.d (D.list t2 (List.map Zr a.futures))),(.d (Zb (a.futures.length:Int))),(.d (Zb s9))] [(.cells (dV t0 t1 t2 t3 a))]=some ((Zks t0 t1 t2 t3 a) r):=by
 refine Z1 (Zks t0 t1 t2 t3 a) ?_
 intro s9 rcl ih
 show ZG _ _ (lpW _ _ _ _ _ _ _)
 unfold ZdV
 rw[Z2]
 conv=>arg 3;whnf
 refine Zd rfl ?_ ?_<;>conv=>arg 3;whnf
 ·refine Zl rfl rfl fun x10 hx10=>?_;conv=>arg 3;whnf
  refine Zj _ ZoD rfl fun x11 hx11=>?_;conv=>arg 3;whnf
  refine Zd rfl ?_ ?_<;>conv=>arg 3;whnf
  ·refine Zl rfl rfl fun x12 hx12=>?_;conv=>arg 3;whnf
   refine Zj _ Zcd rfl fun x13 hx13=>?_;conv=>arg 3;whnf
   refine Zd rfl ?_ ?_<;>conv=>arg 3;whnf
   ·refine Zd rfl ?_ ?_
    ·conv=>arg 3;whnf
     refine Zd (ZAO Zr a.futures s9.toNat) ?_ ?_
     ·conv=>arg 3;whnf
      refine Zah rfl ?_;conv=>arg 3;whnf
      refine Zk (Zvd Zr a.futures s9.toNat) ?_;conv=>arg 3;whnf
      refine Zj _ ZdQ rfl fun x14 hx14=>?_;conv=>arg 3;whnf
      refine Zd rfl ?_ ?_<;>conv=>arg 3;whnf
      ·exact Zc rfl
      ·exact Zf (ih _)
     ·exact ZQ
    ·exact ZQ
   ·exact Zc rfl
  ·exact Zc rfl
 ·exact Zc rfl
def Zkp (t0:Bool) (t1:Bool) (t2:Bool) (t3:Bool) (a:Zi):(Unit⊕Unit)→Ex×List V×Zp
  | (.inl r)=>(.ret,[(.d (Zb 55))],[])
  | (.inr r)=>(.exit 4,[.bad],[])
theorem Zo9 {t0:Bool}{t1:Bool}{t2:Bool}{t3:Bool}{a:Zi}:∀(s16:Int) (r:(Unit⊕Unit)),lp (ZdT a) s16=some r→lpW ctx 0 [1,124,125,126] [2] ZBK [(.ptr 0 0),(.d (D.list t3 (List.map Zz a.barriers))),(.d (Zb (a.barriers.length:Int))),(.d (Zb s16))] [(.cells (dV t0 t1 t2 t3 a))]=some ((Zkp t0 t1 t2 t3 a) r):=by
 refine Z1 (Zkp t0 t1 t2 t3 a) ?_
 intro s16 rcl ih
 show ZG _ _ (lpW _ _ _ _ _ _ _)
 unfold ZdT
 rw[Z2]
 conv=>arg 3;whnf
 refine Zd rfl ?_ ?_<;>conv=>arg 3;whnf
 ·refine Zl rfl rfl fun x17 hx17=>?_;conv=>arg 3;whnf
  refine Zj _ ZoJ rfl fun x18 hx18=>?_;conv=>arg 3;whnf
  refine Zd rfl ?_ ?_<;>conv=>arg 3;whnf
  ·refine Zj _ ZoJ rfl fun x19 hx19=>?_;conv=>arg 3;whnf
   refine Zd rfl ?_ ?_<;>conv=>arg 3;whnf
   ·refine Zj _ ZeX rfl fun x20 hx20=>?_;conv=>arg 3;whnf
    refine Zd rfl ?_ ?_<;>conv=>arg 3;whnf
    ·exact Zc rfl
    ·exact Zf (ih _)
   ·exact Zc rfl
  ·exact Zc rfl
 ·exact Zc rfl
theorem ZiN {t0:Bool}{t1:Bool}{t2:Bool}{t3:Bool}{a:Zi}:∀r,(ZfU a)=some r→evD ctx 41 [(.d (D.agg (dA t0 t1 t2 t3 a)))]=some (Znq r):=by
 show ZG _ (fun r rhs=>rhs=some (Znq r)) _
 unfold ZfU
 rw[Z4 ctx 41 ZEW _ rfl rfl]
 conv=>arg 3;whnf
 refine Zk (Zt _ _) ?_;conv=>arg 3;whnf
 refine Zj _ Zcd rfl fun x0 hx0=>?_;conv=>arg 3;whnf
 refine Zd rfl ?_ ?_<;>conv=>arg 3;whnf
 ·refine Zk (Zt _ _) ?_;conv=>arg 3;whnf
  refine Zd rfl ?_ ?_<;>conv=>arg 3;whnf
  ·exact Zc rfl
  ·refine Zk (Zt _ _) ?_;conv=>arg 3;whnf
   refine Zd rfl ?_ ?_<;>conv=>arg 3;whnf
   ·exact Zc rfl
   ·refine Zk (Zt _ _) ?_;conv=>arg 3;whnf
    refine Zd rfl ?_ ?_<;>conv=>arg 3;whnf
    ·exact Zc rfl
    ·refine Zj _ ZuS rfl fun x1 hx1=>?_;conv=>arg 3;whnf
     refine Zd rfl ?_ ?_<;>conv=>arg 3;whnf
     ·refine Zd rfl ?_ ?_<;>conv=>arg 3;whnf
      ·exact Zc rfl
      ·refine Zj _ Zcd rfl fun x2 hx2=>?_;conv=>arg 3;whnf
       refine Zd rfl ?_ ?_<;>conv=>arg 3;whnf
       ·refine Zj _ Zfh rfl fun x3 hx3=>?_;conv=>arg 3;whnf
        refine Zd rfl ?_ ?_<;>conv=>arg 3;whnf
        ·exact Zc rfl
        ·refine Zk (Zt _ _) ?_;conv=>arg 3;whnf
         refine Ze _ (ZoX _) fun r8 hr8=>?_
         clear hr8
         rcases r8 with r8 | r8
         ·conv=>arg 3;whnf
          exact Zc rfl
         ·conv=>arg 3;whnf
          refine Zk (Zt _ _) ?_;conv=>arg 3;whnf
          refine Ze _ (Zpc _) fun r15 hr15=>?_
          clear hr15
          rcases r15 with r15 | r15
          ·conv=>arg 3;whnf
           exact Zc rfl
          ·conv=>arg 3;whnf
           refine Zk (Zt _ _) ?_;conv=>arg 3;whnf
           refine Ze _ (Zo9 _) fun r21 hr21=>?_
           clear hr21
           rcases r21 with r21 | r21
           ·conv=>arg 3;whnf
            exact Zc rfl
           ·conv=>arg 3;whnf
            exact Zc rfl
       ·exact Zc rfl
     ·exact Zc rfl
 ·exact Zc rfl
def ZjF (r:Int):D:=(Zb r)
theorem ZJ {t0:Bool}{t1:Bool}{t2:Bool}{t3:Bool}{a:Int}{b:Int}{c0:Int}{c1:Int}{c2:(List ZV)}{c3:(List Zn)}{c4:(List Zm)}{c5:(List Zs)}:∀r,(Zw a b c4)=some r→evD ctx 106 [(.d (Zb a)),(.d (Zb b)),(.d (D.rptr [(Zb c0),(Zb c1),(D.list t0 (List.map Z8 c2)),(D.list t1 (List.map Zv c3)),(D.list t2 (List.map Zr c4)),(D.list t3 (List.map Zz c5))]))]=some (ZjF r):=by
 show ZG _ (fun r rhs=>rhs=some (ZjF r)) _
 unfold Zw
 rw[Z4 ctx 106 ZAo _ rfl rfl]
 conv=>arg 3;whnf
 refine Zl rfl rfl fun x0 hx0=>?_;conv=>arg 3;whnf
 refine Zl rfl rfl fun x1 hx1=>?_;conv=>arg 3;whnf
 exact Zc rfl
def Zi1 (r:Int):D:=(Zb r)
theorem ZmS {a:Int}:∀r,(ZhR a)=some r→evD ctx 129 [(.d (D.int .u64 a))]=some (Zi1 r):=by
 show ZG _ (fun r rhs=>rhs=some (Zi1 r)) _
 unfold ZhR
 rw[Z4 ctx 129 ZBO _ rfl rfl]
 conv=>arg 3;whnf
 refine Zd rfl ?_ ?_<;>conv=>arg 3;whnf
 ·refine Z6 rfl ?_;conv=>arg 3;whnf
  refine Zd rfl ?_ ?_<;>conv=>arg 3;whnf
  ·refine Z6 rfl ?_;conv=>arg 3;whnf
   refine Zd rfl ?_ ?_<;>conv=>arg 3;whnf
   ·refine Z6 rfl ?_;conv=>arg 3;whnf
    refine Zd rfl ?_ ?_
    ·conv=>arg 3;whnf
     refine Zin rfl fun x0 hx0=>?_;conv=>arg 3;whnf
     exact Zc rfl
    ·exact ZQ
   ·refine Zd rfl ?_ ?_
    ·conv=>arg 3;whnf
     refine Zin rfl fun x1 hx1=>?_;conv=>arg 3;whnf
     exact Zc rfl
    ·exact ZQ
  ·refine Zd rfl ?_ ?_<;>conv=>arg 3;whnf
   ·refine Z6 rfl ?_;conv=>arg 3;whnf
    refine Zd rfl ?_ ?_
    ·conv=>arg 3;whnf
     refine Zin rfl fun x2 hx2=>?_;conv=>arg 3;whnf
     exact Zc rfl
    ·exact ZQ
   ·refine Zd rfl ?_ ?_
    ·conv=>arg 3;whnf
     refine Zin rfl fun x3 hx3=>?_;conv=>arg 3;whnf
     exact Zc rfl
    ·exact ZQ
 ·refine Zd rfl ?_ ?_<;>conv=>arg 3;whnf
  ·refine Z6 rfl ?_;conv=>arg 3;whnf
   refine Zd rfl ?_ ?_<;>conv=>arg 3;whnf
   ·refine Z6 rfl ?_;conv=>arg 3;whnf
    refine Zd rfl ?_ ?_
    ·conv=>arg 3;whnf
     refine Zin rfl fun x4 hx4=>?_;conv=>arg 3;whnf
     exact Zc rfl
    ·exact ZQ
   ·refine Zd rfl ?_ ?_
    ·conv=>arg 3;whnf
     refine Zin rfl fun x5 hx5=>?_;conv=>arg 3;whnf
     exact Zc rfl
    ·exact ZQ
  ·refine Zd rfl ?_ ?_<;>conv=>arg 3;whnf
   ·refine Z6 rfl ?_;conv=>arg 3;whnf
    refine Zd rfl ?_ ?_
    ·conv=>arg 3;whnf
     refine Zin rfl fun x6 hx6=>?_;conv=>arg 3;whnf
     exact Zc rfl
    ·exact ZQ
   ·refine Zd rfl ?_ ?_
    ·conv=>arg 3;whnf
     refine Zin rfl fun x7 hx7=>?_;conv=>arg 3;whnf
     exact Zc rfl
    ·exact ZQ
def Zkh (r:Int):D:=(Zb r)
theorem ZjY {a:Int}:∀r,(Ze5 a)=some r→evD ctx 118 [(.d (D.int .u64 a))]=some (Zkh r):=by
 show ZG _ (fun r rhs=>rhs=some (Zkh r)) _
 unfold Ze5
 rw[Z4 ctx 118 ZBv _ rfl rfl]
 conv=>arg 3;whnf
 refine Zj _ ZmS rfl fun x0 hx0=>?_;conv=>arg 3;whnf
 exact Zc rfl
def ZbS (t0:Bool) (t1:Bool) (t2:Bool) (t3:Bool) (b:Int) (c:Int) (m0_0:(List Int)) (m1_0:Int) (m1_1:Int) (m1_2:(List ZV)) (m1_3:(List Zn)) (m1_4:(List Zm)) (m1_5:(List Zs)):(List Int)→V×Zp
  | r=>((.d (D.tup [])),[(.arr 1 (List.map Zb r)),(.cells [(.d (Zb m1_0)),(.d (Zb m1_1)),(.d (D.list t0 (List.map Z8 m1_2))),(.d (D.list t1 (List.map Zv m1_3))),(.d (D.list t2 (List.map Zr m1_4))),(.d (D.list t3 (List.map Zz m1_5)))])])
def Zby (t0:Bool) (t1:Bool) (t2:Bool) (t3:Bool) (b:Int) (c:Int) (m1_0:Int) (m1_1:Int) (m1_2:(List ZV)) (m1_3:(List Zn)) (m1_4:(List Zm)) (m1_5:(List Zs)) (s0:Int×(List Int)):(List Int)→Ex×List V×Zp
  | r=>(.exit 2,[(.sl 0 1),(.d (Zb b)),(.d (Zb c)),(.fn 106 [(.ptr 1 0)]),(.d (Zb s0.1))],[(.arr 1 (List.map Zb r)),(.cells [(.d (Zb m1_0)),(.d (Zb m1_1)),(.d (D.list t0 (List.map Z8 m1_2))),(.d (D.list t1 (List.map Zv m1_3))),(.d (D.list t2 (List.map Zr m1_4))),(.d (D.list t3 (List.map Zz m1_5)))])])
theorem ZdF {t0:Bool}{t1:Bool}{t2:Bool}{t3:Bool}{b:Int}{c:Int}{m1_0:Int}{m1_1:Int}{m1_2:(List ZV)}{m1_3:(List Zn)}{m1_4:(List Zm)}{m1_5:(List Zs)}{s0:Int×(List Int)}:∀(s1:Int×(List Int)) (r:(List Int)),lp (Z0 b (fun z0 z1=>Zw z0 z1 m1_4)) s1=some r→lpW ctx 2 [0,1,2,3,8,9] [0,1,2,3,8] Zyp [(.sl 0 1),(.d (Zb b)),(.d (Zb c)),(.fn 106 [(.ptr 1 0)]),(.d (Zb s0.1)),(.d (Zb s1.1))] [(.arr 1 (List.map Zb s1.2)),(.cells [(.d (Zb m1_0)),(.d (Zb m1_1)),(.d (D.list t0 (List.map Z8 m1_2))),(.d (D.list t1 (List.map Zv m1_3))),(.d (D.list t2 (List.map Zr m1_4))),(.d (D.list t3 (List.map Zz m1_5)))])]=some ((Zby t0 t1 t2 t3 b c m1_0 m1_1 m1_2 m1_3 m1_4 m1_5 s0) r):=by
 refine Z1 (Zby t0 t1 t2 t3 b c m1_0 m1_1 m1_2 m1_3 m1_4 m1_5 s0) ?_
 intro s1 rcl ih
 show ZG _ _ (lpW _ _ _ _ _ _ _)
 unfold Z0
 rw[Z2]
 conv=>arg 3;whnf
 refine Zd rfl ?_ ?_<;>conv=>arg 3;whnf
 ·refine Zl rfl rfl fun x2 hx2=>?_;conv=>arg 3;whnf
  refine Zg (ZD rfl hx2) ?_;conv=>arg 3;whnf
  refine Zl rfl rfl fun x3 hx3=>?_;conv=>arg 3;whnf
  refine Zg (ZD rfl hx3) ?_;conv=>arg 3;whnf
  refine Zj _ ZJ rfl fun x4 hx4=>?_;conv=>arg 3;whnf
  refine Zd rfl ?_ ?_<;>conv=>arg 3;whnf
  ·refine Zg (Za7 rfl hx3) ?_;conv=>arg 3;whnf
   refine Zg (ZD rfl hx3) ?_;conv=>arg 3;whnf
   refine Zg (Za7 rfl hx2) ?_;conv=>arg 3;whnf
   refine Zg (ZD rfl hx2) ?_;conv=>arg 3;whnf
   refine Zg (Za7 rfl hx2) ?_;conv=>arg 3;whnf
   refine Zg (ZD rfl hx2) ?_;conv=>arg 3;whnf
   refine Zk (ZaE Zb s1.2 s1.1.toNat x3) ?_;conv=>arg 3;whnf
   refine Zl rfl rfl fun x5 hx5=>?_;conv=>arg 3;whnf
   refine Zg (ZD rfl hx5) ?_;conv=>arg 3;whnf
   refine Zk (ZaE Zb (List.set s1.2 s1.1.toNat x3) (w64 (s1.1-1)).toNat x2) ?_;conv=>arg 3;whnf
   exact Zf (ih _)
  ·exact Zc rfl
 ·exact Zc rfl
def ZbA (t0:Bool) (t1:Bool) (t2:Bool) (t3:Bool) (b:Int) (c:Int) (m1_0:Int) (m1_1:Int) (m1_2:(List ZV)) (m1_3:(List Zn)) (m1_4:(List Zm)) (m1_5:(List Zs)):(List Int)→Ex×List V×Zp
  | r=>(.exit 0,[],[(.arr 1 (List.map Zb r)),(.cells [(.d (Zb m1_0)),(.d (Zb m1_1)),(.d (D.list t0 (List.map Z8 m1_2))),(.d (D.list t1 (List.map Zv m1_3))),(.d (D.list t2 (List.map Zr m1_4))),(.d (D.list t3 (List.map Zz m1_5)))])])
theorem ZdG {t0:Bool}{t1:Bool}{t2:Bool}{t3:Bool}{b:Int}{c:Int}{m1_0:Int}{m1_1:Int}{m1_2:(List ZV)}{m1_3:(List Zn)}{m1_4:(List Zm)}{m1_5:(List Zs)}:∀(s0:Int×(List Int)) (r:(List Int)),lp (Zav b c (fun z0 z1=>Zw z0 z1 m1_4)) s0=some r→lpW ctx 2 [0,1,2,3,8] [] Zyj [(.sl 0 1),(.d (Zb b)),(.d (Zb c)),(.fn 106 [(.ptr 1 0)]),(.d (Zb s0.1))] [(.arr 1 (List.map Zb s0.2)),(.cells [(.d (Zb m1_0)),(.d (Zb m1_1)),(.d (D.list t0 (List.map Z8 m1_2))),(.d (D.list t1 (List.map Zv m1_3))),(.d (D.list t2 (List.map Zr m1_4))),(.d (D.list t3 (List.map Zz m1_5)))])]=some ((ZbA t0 t1 t2 t3 b c m1_0 m1_1 m1_2 m1_3 m1_4 m1_5) r):=by
 refine Z1 (ZbA t0 t1 t2 t3 b c m1_0 m1_1 m1_2 m1_3 m1_4 m1_5) ?_
 intro s0 rcl ih
 show ZG _ _ (lpW _ _ _ _ _ _ _)
 unfold Zav
 rw[Z2]
 conv=>arg 3;whnf
 refine Zd rfl ?_ ?_<;>conv=>arg 3;whnf
 ·refine Ze _ (ZdF _) fun r6 hr6=>?_;conv=>arg 3;whnf
  exact Zf (ih _)
 ·exact Zc rfl
theorem Zai {t0:Bool}{t1:Bool}{t2:Bool}{t3:Bool}{b:Int}{c:Int}{m0_0:(List Int)}{m1_0:Int}{m1_1:Int}{m1_2:(List ZV)}{m1_3:(List Zn)}{m1_4:(List Zm)}{m1_5:(List Zs)}:∀r,(ZZ b c (fun z0 z1=>Zw z0 z1 m1_4) m0_0)=some r→evW ctx 120 [(.sl 0 1),(.d (Zb b)),(.d (Zb c)),(.fn 106 [(.ptr 1 0)])] [(.arr 1 (List.map Zb m0_0)),(.cells [(.d (Zb m1_0)),(.d (Zb m1_1)),(.d (D.list t0 (List.map Z8 m1_2))),(.d (D.list t1 (List.map Zv m1_3))),(.d (D.list t2 (List.map Zr m1_4))),(.d (D.list t3 (List.map Zz m1_5)))])]=some ((ZbS t0 t1 t2 t3 b c m0_0 m1_0 m1_1 m1_2 m1_3 m1_4 m1_5) r):=by
 show ZG _ (fun r rhs=>rhs=some ((ZbS t0 t1 t2 t3 b c m0_0 m1_0 m1_1 m1_2 m1_3 m1_4 m1_5) r)) _
 unfold ZZ
 rw[Zgw ctx 120 ZBf _ _ rfl rfl]
 conv=>arg 3;whnf
 refine Ze _ (ZdG _) fun r7 hr7=>?_;conv=>arg 3;whnf
 exact Zc rfl
def ZcF (t0:Bool) (t1:Bool) (t2:Bool) (t3:Bool) (b:Int) (c:Int) (d:Int) (m0_0:(List Int)) (m1_0:Int) (m1_1:Int) (m1_2:(List ZV)) (m1_3:(List Zn)) (m1_4:(List Zm)) (m1_5:(List Zs)):(List Int)→V×Zp
  | r=>((.d (D.tup [])),[(.arr 1 (List.map Zb r)),(.cells [(.d (Zb m1_0)),(.d (Zb m1_1)),(.d (D.list t0 (List.map Z8 m1_2))),(.d (D.list t1 (List.map Zv m1_3))),(.d (D.list t2 (List.map Zr m1_4))),(.d (D.list t3 (List.map Zz m1_5)))])])
def Zcb (t0:Bool) (t1:Bool) (t2:Bool) (t3:Bool) (c:Int) (d:Int) (m1_0:Int) (m1_1:Int) (m1_2:(List ZV)) (m1_3:(List Zn)) (m1_4:(List Zm)) (m1_5:(List Zs)):((List Int)⊕(List Int))→Ex×List V×Zp
  | (.inl r)=>(.exit 0,[],[(.arr 1 (List.map Zb r)),(.cells [(.d (Zb m1_0)),(.d (Zb m1_1)),(.d (D.list t0 (List.map Z8 m1_2))),(.d (D.list t1 (List.map Zv m1_3))),(.d (D.list t2 (List.map Zr m1_4))),(.d (D.list t3 (List.map Zz m1_5)))])])
  | (.inr r)=>(.ret,[],[(.arr 1 (List.map Zb r)),(.cells [(.d (Zb m1_0)),(.d (Zb m1_1)),(.d (D.list t0 (List.map Z8 m1_2))),(.d (D.list t1 (List.map Zv m1_3))),(.d (D.list t2 (List.map Zr m1_4))),(.d (D.list t3 (List.map Zz m1_5)))])])
theorem ZeE {t0:Bool}{t1:Bool}{t2:Bool}{t3:Bool}{c:Int}{d:Int}{m1_0:Int}{m1_1:Int}{m1_2:(List ZV)}{m1_3:(List Zn)}{m1_4:(List Zm)}{m1_5:(List Zs)}:∀(s0:Int×(List Int)) (r:((List Int)⊕(List Int))),lp (ZM c d (fun z0 z1=>Zw z0 z1 m1_4)) s0=some r→lpW ctx 2 [0,2,3,4,10] [] Zx8 [(.sl 0 1),(.d (Zb c)),(.d (Zb d)),(.fn 106 [(.ptr 1 0)]),(.d (Zb s0.1))] [(.arr 1 (List.map Zb s0.2)),(.cells [(.d (Zb m1_0)),(.d (Zb m1_1)),(.d (D.list t0 (List.map Z8 m1_2))),(.d (D.list t1 (List.map Zv m1_3))),(.d (D.list t2 (List.map Zr m1_4))),(.d (D.list t3 (List.map Zz m1_5)))])]=some ((Zcb t0 t1 t2 t3 c d m1_0 m1_1 m1_2 m1_3 m1_4 m1_5) r):=by
 refine Z1 (Zcb t0 t1 t2 t3 c d m1_0 m1_1 m1_2 m1_3 m1_4 m1_5) ?_
 intro s0 rcl ih
 show ZG _ _ (lpW _ _ _ _ _ _ _)
 unfold ZM
 rw[Z2]
 conv=>arg 3;whnf
 refine Zd rfl ?_ ?_<;>conv=>arg 3;whnf
 ·exact Zc rfl
 ·refine Zd rfl ?_ ?_<;>conv=>arg 3;whnf
  ·refine Zl rfl rfl fun x1 hx1=>?_;conv=>arg 3;whnf
   refine Zg (ZD rfl hx1) ?_;conv=>arg 3;whnf
   refine Zl rfl rfl fun x2 hx2=>?_;conv=>arg 3;whnf
   refine Zg (ZD rfl hx2) ?_;conv=>arg 3;whnf
   refine Zj _ ZJ rfl fun x3 hx3=>?_;conv=>arg 3;whnf
   refine Zd rfl ?_ ?_<;>conv=>arg 3;whnf
   ·refine Zl rfl rfl fun x4 hx4=>?_;conv=>arg 3;whnf
    refine Zg (ZD rfl hx4) ?_;conv=>arg 3;whnf
    refine Zl rfl rfl fun x5 hx5=>?_;conv=>arg 3;whnf
    refine Zg (ZD rfl hx5) ?_;conv=>arg 3;whnf
    refine Zj _ ZJ rfl fun x6 hx6=>?_;conv=>arg 3;whnf
    refine Zd rfl ?_ ?_<;>conv=>arg 3;whnf
    ·refine Zg (Za7 rfl hx5) ?_;conv=>arg 3;whnf
     refine Zg (ZD rfl hx5) ?_;conv=>arg 3;whnf
     refine Zg (Za7 rfl hx4) ?_;conv=>arg 3;whnf
     refine Zg (ZD rfl hx4) ?_;conv=>arg 3;whnf
     refine Zg (Za7 rfl hx4) ?_;conv=>arg 3;whnf
     refine Zg (ZD rfl hx4) ?_;conv=>arg 3;whnf
     refine Zk (ZaE Zb s0.2 (w64 (d+s0.1)).toNat x5) ?_;conv=>arg 3;whnf
     refine Zl rfl rfl fun x7 hx7=>?_;conv=>arg 3;whnf
     refine Zg (ZD rfl hx7) ?_;conv=>arg 3;whnf
     refine Zk (ZaE Zb (List.set s0.2 (w64 (d+s0.1)).toNat x5) (w64 (d+(w64 ((w64 ((w64 (2*s0.1))+1))+1)))).toNat x4) ?_;conv=>arg 3;whnf
     exact Zf (ih _)
    ·exact Zc rfl
   ·refine Zl rfl rfl fun x8 hx8=>?_;conv=>arg 3;whnf
    refine Zg (ZD rfl hx8) ?_;conv=>arg 3;whnf
    refine Zg (Za7 rfl hx1) ?_;conv=>arg 3;whnf
    refine Zg (ZD rfl hx1) ?_;conv=>arg 3;whnf
    refine Zj _ ZJ rfl fun x9 hx9=>?_;conv=>arg 3;whnf
    refine Zd rfl ?_ ?_<;>conv=>arg 3;whnf
    ·refine Zg (Za7 rfl hx1) ?_;conv=>arg 3;whnf
     refine Zg (ZD rfl hx1) ?_;conv=>arg 3;whnf
     refine Zg (Za7 rfl hx8) ?_;conv=>arg 3;whnf
     refine Zg (ZD rfl hx8) ?_;conv=>arg 3;whnf
     refine Zg (Za7 rfl hx8) ?_;conv=>arg 3;whnf
     refine Zg (ZD rfl hx8) ?_;conv=>arg 3;whnf
     refine Zk (ZaE Zb s0.2 (w64 (d+s0.1)).toNat x1) ?_;conv=>arg 3;whnf
     refine Zl rfl rfl fun x10 hx10=>?_;conv=>arg 3;whnf
     refine Zg (ZD rfl hx10) ?_;conv=>arg 3;whnf
     refine Zk (ZaE Zb (List.set s0.2 (w64 (d+s0.1)).toNat x1) (w64 (d+(w64 ((w64 (2*s0.1))+1)))).toNat x8) ?_;conv=>arg 3;whnf
     exact Zf (ih _)
    ·exact Zc rfl
  ·refine Zl rfl rfl fun x11 hx11=>?_;conv=>arg 3;whnf
   refine Zg (ZD rfl hx11) ?_;conv=>arg 3;whnf
   refine Zl rfl rfl fun x12 hx12=>?_;conv=>arg 3;whnf
   refine Zg (ZD rfl hx12) ?_;conv=>arg 3;whnf
   refine Zj _ ZJ rfl fun x13 hx13=>?_;conv=>arg 3;whnf
   refine Zd rfl ?_ ?_<;>conv=>arg 3;whnf
   ·refine Zg (Za7 rfl hx12) ?_;conv=>arg 3;whnf
    refine Zg (ZD rfl hx12) ?_;conv=>arg 3;whnf
    refine Zg (Za7 rfl hx11) ?_;conv=>arg 3;whnf
    refine Zg (ZD rfl hx11) ?_;conv=>arg 3;whnf
    refine Zg (Za7 rfl hx11) ?_;conv=>arg 3;whnf
    refine Zg (ZD rfl hx11) ?_;conv=>arg 3;whnf
    refine Zk (ZaE Zb s0.2 (w64 (d+s0.1)).toNat x12) ?_;conv=>arg 3;whnf
    refine Zl rfl rfl fun x14 hx14=>?_;conv=>arg 3;whnf
    refine Zg (ZD rfl hx14) ?_;conv=>arg 3;whnf
    refine Zk (ZaE Zb (List.set s0.2 (w64 (d+s0.1)).toNat x12) (w64 (d+(w64 ((w64 (2*s0.1))+1)))).toNat x11) ?_;conv=>arg 3;whnf
    exact Zf (ih _)
   ·exact Zc rfl
theorem Zcl {t0:Bool}{t1:Bool}{t2:Bool}{t3:Bool}{b:Int}{c:Int}{d:Int}{m0_0:(List Int)}{m1_0:Int}{m1_1:Int}{m1_2:(List ZV)}{m1_3:(List Zn)}{m1_4:(List Zm)}{m1_5:(List Zs)}:∀r,(ZaO b c d (fun z0 z1=>Zw z0 z1 m1_4) m0_0)=some r→evW ctx 139 [(.sl 0 1),(.d (Zb b)),(.d (Zb c)),(.d (Zb d)),(.fn 106 [(.ptr 1 0)])] [(.arr 1 (List.map Zb m0_0)),(.cells [(.d (Zb m1_0)),(.d (Zb m1_1)),(.d (D.list t0 (List.map Z8 m1_2))),(.d (D.list t1 (List.map Zv m1_3))),(.d (D.list t2 (List.map Zr m1_4))),(.d (D.list t3 (List.map Zz m1_5)))])]=some ((ZcF t0 t1 t2 t3 b c d m0_0 m1_0 m1_1 m1_2 m1_3 m1_4 m1_5) r):=by
 show ZG _ (fun r rhs=>rhs=some ((ZcF t0 t1 t2 t3 b c d m0_0 m1_0 m1_1 m1_2 m1_3 m1_4 m1_5) r)) _
 unfold ZaO
 rw[Zgw ctx 139 ZAT _ _ rfl rfl]
 conv=>arg 3;whnf
 refine Ze _ (ZeE _) fun r15 hr15=>?_
 clear hr15
 rcases r15 with r15 | r15
 ·conv=>arg 3;whnf
  exact Zc rfl
 ·conv=>arg 3;whnf
  exact Zc rfl
def ZcE (t0:Bool) (t1:Bool) (t2:Bool) (t3:Bool) (b:Int) (c:Int) (m0_0:(List Int)) (m1_0:Int) (m1_1:Int) (m1_2:(List ZV)) (m1_3:(List Zn)) (m1_4:(List Zm)) (m1_5:(List Zs)):(List Int)→V×Zp
  | r=>((.d (D.tup [])),[(.arr 1 (List.map Zb r)),(.cells [(.d (Zb m1_0)),(.d (Zb m1_1)),(.d (D.list t0 (List.map Z8 m1_2))),(.d (D.list t1 (List.map Zv m1_3))),(.d (D.list t2 (List.map Zr m1_4))),(.d (D.list t3 (List.map Zz m1_5)))])])
def Zb5 (t0:Bool) (t1:Bool) (t2:Bool) (t3:Bool) (b:Int) (c:Int) (m1_0:Int) (m1_1:Int) (m1_2:(List ZV)) (m1_3:(List Zn)) (m1_4:(List Zm)) (m1_5:(List Zs)):(List Int)→Ex×List V×Zp
  | r=>(.exit 0,[(.sl 0 1),(.fn 106 [(.ptr 1 0)]),(.d (Zb b)),(.d (Zb 0)),(.d (Zb (w64 (c-b))))],[(.arr 1 (List.map Zb r)),(.cells [(.d (Zb m1_0)),(.d (Zb m1_1)),(.d (D.list t0 (List.map Z8 m1_2))),(.d (D.list t1 (List.map Zv m1_3))),(.d (D.list t2 (List.map Zr m1_4))),(.d (D.list t3 (List.map Zz m1_5)))])])
theorem ZeN {t0:Bool}{t1:Bool}{t2:Bool}{t3:Bool}{b:Int}{c:Int}{m1_0:Int}{m1_1:Int}{m1_2:(List ZV)}{m1_3:(List Zn)}{m1_4:(List Zm)}{m1_5:(List Zs)}:∀(s0:Int×(List Int)) (r:(List Int)),lp (ZaR b c (fun z0 z1=>Zw z0 z1 m1_4)) s0=some r→lpW ctx 2 [0,3,8,9,10,11] [0,3,8,9,10] Zyg [(.sl 0 1),(.fn 106 [(.ptr 1 0)]),(.d (Zb b)),(.d (Zb 0)),(.d (Zb (w64 (c-b)))),(.d (Zb s0.1))] [(.arr 1 (List.map Zb s0.2)),(.cells [(.d (Zb m1_0)),(.d (Zb m1_1)),(.d (D.list t0 (List.map Z8 m1_2))),(.d (D.list t1 (List.map Zv m1_3))),(.d (D.list t2 (List.map Zr m1_4))),(.d (D.list t3 (List.map Zz m1_5)))])]=some ((Zb5 t0 t1 t2 t3 b c m1_0 m1_1 m1_2 m1_3 m1_4 m1_5) r):=by
 refine Z1 (Zb5 t0 t1 t2 t3 b c m1_0 m1_1 m1_2 m1_3 m1_4 m1_5) ?_
 intro s0 rcl ih
 show ZG _ _ (lpW _ _ _ _ _ _ _)
 unfold ZaR
 rw[Z2]
 conv=>arg 3;whnf
 refine Zd rfl ?_ ?_<;>conv=>arg 3;whnf
 ·refine Ze _ Zcl fun x1 hx1=>?_;conv=>arg 3;whnf
  exact Zf (ih _)
 ·exact Zc rfl
def Zb6 (t0:Bool) (t1:Bool) (t2:Bool) (t3:Bool) (b:Int) (m1_0:Int) (m1_1:Int) (m1_2:(List ZV)) (m1_3:(List Zn)) (m1_4:(List Zm)) (m1_5:(List Zs)):(List Int)→Ex×List V×Zp
  | r=>(.exit 2,[],[(.arr 1 (List.map Zb r)),(.cells [(.d (Zb m1_0)),(.d (Zb m1_1)),(.d (D.list t0 (List.map Z8 m1_2))),(.d (D.list t1 (List.map Zv m1_3))),(.d (D.list t2 (List.map Zr m1_4))),(.d (D.list t3 (List.map Zz m1_5)))])])
theorem ZeL {t0:Bool}{t1:Bool}{t2:Bool}{t3:Bool}{b:Int}{m1_0:Int}{m1_1:Int}{m1_2:(List ZV)}{m1_3:(List Zn)}{m1_4:(List Zm)}{m1_5:(List Zs)}:∀(s3:Int×(List Int)) (r:(List Int)),lp (ZaS b (fun z0 z1=>Zw z0 z1 m1_4)) s3=some r→lpW ctx 2 [0,3,8,9,12] [] Zx1 [(.sl 0 1),(.fn 106 [(.ptr 1 0)]),(.d (Zb b)),(.d (Zb 0)),(.d (Zb s3.1))] [(.arr 1 (List.map Zb s3.2)),(.cells [(.d (Zb m1_0)),(.d (Zb m1_1)),(.d (D.list t0 (List.map Z8 m1_2))),(.d (D.list t1 (List.map Zv m1_3))),(.d (D.list t2 (List.map Zr m1_4))),(.d (D.list t3 (List.map Zz m1_5)))])]=some ((Zb6 t0 t1 t2 t3 b m1_0 m1_1 m1_2 m1_3 m1_4 m1_5) r):=by
 refine Z1 (Zb6 t0 t1 t2 t3 b m1_0 m1_1 m1_2 m1_3 m1_4 m1_5) ?_
 intro s3 rcl ih
 show ZG _ _ (lpW _ _ _ _ _ _ _)
 unfold ZaS
 rw[Z2]
 conv=>arg 3;whnf
 refine Zd rfl ?_ ?_<;>conv=>arg 3;whnf
 ·refine Zl rfl rfl fun x4 hx4=>?_;conv=>arg 3;whnf
  refine Zg (ZD rfl hx4) ?_;conv=>arg 3;whnf
  refine Zl rfl rfl fun x5 hx5=>?_;conv=>arg 3;whnf
  refine Zg (ZD rfl hx5) ?_;conv=>arg 3;whnf
  refine Zg (Za7 rfl hx5) ?_;conv=>arg 3;whnf
  refine Zg (ZD rfl hx5) ?_;conv=>arg 3;whnf
  refine Zk (ZaE Zb s3.2 b.toNat x4) ?_;conv=>arg 3;whnf
  refine Zl rfl rfl fun x6 hx6=>?_;conv=>arg 3;whnf
  refine Zg (ZD rfl hx6) ?_;conv=>arg 3;whnf
  refine Zk (ZaE Zb (List.set s3.2 b.toNat x4) (w64 (b+s3.1)).toNat x5) ?_;conv=>arg 3;whnf
  refine Ze _ Zcl fun x7 hx7=>?_;conv=>arg 3;whnf
  exact Zf (ih _)
 ·exact Zc rfl
theorem ZaC {t0:Bool}{t1:Bool}{t2:Bool}{t3:Bool}{b:Int}{c:Int}{m0_0:(List Int)}{m1_0:Int}{m1_1:Int}{m1_2:(List ZV)}{m1_3:(List Zn)}{m1_4:(List Zm)}{m1_5:(List Zs)}:∀r,(Zad b c (fun z0 z1=>Zw z0 z1 m1_4) m0_0)=some r→evW ctx 121 [(.sl 0 1),(.d (Zb b)),(.d (Zb c)),(.fn 106 [(.ptr 1 0)])] [(.arr 1 (List.map Zb m0_0)),(.cells [(.d (Zb m1_0)),(.d (Zb m1_1)),(.d (D.list t0 (List.map Z8 m1_2))),(.d (D.list t1 (List.map Zv m1_3))),(.d (D.list t2 (List.map Zr m1_4))),(.d (D.list t3 (List.map Zz m1_5)))])]=some ((ZcE t0 t1 t2 t3 b c m0_0 m1_0 m1_1 m1_2 m1_3 m1_4 m1_5) r):=by
 show ZG _ (fun r rhs=>rhs=some ((ZcE t0 t1 t2 t3 b c m0_0 m1_0 m1_1 m1_2 m1_3 m1_4 m1_5) r)) _
 unfold Zad
 rw[Zgw ctx 121 Zz9 _ _ rfl rfl]
 conv=>arg 3;whnf
 refine Z6 rfl ?_;conv=>arg 3;whnf
 refine Ze _ (ZeN _) fun r2 hr2=>?_;conv=>arg 3;whnf
 refine Ze _ (ZeL _) fun r8 hr8=>?_;conv=>arg 3;whnf
 exact Zc rfl
def ZcQ (t0:Bool) (t1:Bool) (t2:Bool) (t3:Bool) (b:Int) (c:Int) (m0_0:(List Int)) (m1_0:Int) (m2_0:Int) (m2_1:Int) (m2_2:(List ZV)) (m2_3:(List Zn)) (m2_4:(List Zm)) (m2_5:(List Zs)):(Int×Int×Int)→V×Zp
  | r=>((.d (D.tup [(Zb r.1),(Zb r.2.1)])),[(.arr 1 (List.map Zb m0_0)),(.cells [(.d (Zb r.2.2))]),(.cells [(.d (Zb m2_0)),(.d (Zb m2_1)),(.d (D.list t0 (List.map Z8 m2_2))),(.d (D.list t1 (List.map Zv m2_3))),(.d (D.list t2 (List.map Zr m2_4))),(.d (D.list t3 (List.map Zz m2_5)))])])
theorem Zbk {t0:Bool}{t1:Bool}{t2:Bool}{t3:Bool}{b:Int}{c:Int}{m0_0:(List Int)}{m1_0:Int}{m2_0:Int}{m2_1:Int}{m2_2:(List ZV)}{m2_3:(List Zn)}{m2_4:(List Zm)}{m2_5:(List Zs)}:∀r,(Za0 b c (fun z0 z1=>Zw z0 z1 m2_4) m0_0 m1_0)=some r→evW ctx 148 [(.sl 0 1),(.d (Zb b)),(.d (Zb c)),(.ptr 1 0),(.fn 106 [(.ptr 2 0)])] [(.arr 1 (List.map Zb m0_0)),(.cells [(.d (Zb m1_0))]),(.cells [(.d (Zb m2_0)),(.d (Zb m2_1)),(.d (D.list t0 (List.map Z8 m2_2))),(.d (D.list t1 (List.map Zv m2_3))),(.d (D.list t2 (List.map Zr m2_4))),(.d (D.list t3 (List.map Zz m2_5)))])]=some ((ZcQ t0 t1 t2 t3 b c m0_0 m1_0 m2_0 m2_1 m2_2 m2_3 m2_4 m2_5) r):=by
 show ZG _ (fun r rhs=>rhs=some ((ZcQ t0 t1 t2 t3 b c m0_0 m1_0 m2_0 m2_1 m2_2 m2_3 m2_4 m2_5) r)) _
 unfold Za0
 rw[Zgw ctx 148 ZB3 _ _ rfl rfl]
 conv=>arg 3;whnf
 refine Zl rfl rfl fun x0 hx0=>?_;conv=>arg 3;whnf
 refine Zg (ZD rfl hx0) ?_;conv=>arg 3;whnf
 refine Zl rfl rfl fun x1 hx1=>?_;conv=>arg 3;whnf
 refine Zg (ZD rfl hx1) ?_;conv=>arg 3;whnf
 refine Zj _ ZJ rfl fun x2 hx2=>?_;conv=>arg 3;whnf
 refine Zd rfl ?_ ?_<;>conv=>arg 3;whnf
 ·exact Zc rfl
 ·exact Zc rfl
def ZcP (t0:Bool) (t1:Bool) (t2:Bool) (t3:Bool) (b:Int) (c:Int) (d:Int) (m0_0:(List Int)) (m1_0:Int) (m2_0:Int) (m2_1:Int) (m2_2:(List ZV)) (m2_3:(List Zn)) (m2_4:(List Zm)) (m2_5:(List Zs)):(Int×Int)→V×Zp
  | r=>((.d (Zb r.1)),[(.arr 1 (List.map Zb m0_0)),(.cells [(.d (Zb r.2))]),(.cells [(.d (Zb m2_0)),(.d (Zb m2_1)),(.d (D.list t0 (List.map Z8 m2_2))),(.d (D.list t1 (List.map Zv m2_3))),(.d (D.list t2 (List.map Zr m2_4))),(.d (D.list t3 (List.map Zz m2_5)))])])
theorem Zbl {t0:Bool}{t1:Bool}{t2:Bool}{t3:Bool}{b:Int}{c:Int}{d:Int}{m0_0:(List Int)}{m1_0:Int}{m2_0:Int}{m2_1:Int}{m2_2:(List ZV)}{m2_3:(List Zn)}{m2_4:(List Zm)}{m2_5:(List Zs)}:∀r,(ZaY b c d (fun z0 z1=>Zw z0 z1 m2_4) m0_0 m1_0)=some r→evW ctx 143 [(.sl 0 1),(.d (Zb b)),(.d (Zb c)),(.d (Zb d)),(.ptr 1 0),(.fn 106 [(.ptr 2 0)])] [(.arr 1 (List.map Zb m0_0)),(.cells [(.d (Zb m1_0))]),(.cells [(.d (Zb m2_0)),(.d (Zb m2_1)),(.d (D.list t0 (List.map Z8 m2_2))),(.d (D.list t1 (List.map Zv m2_3))),(.d (D.list t2 (List.map Zr m2_4))),(.d (D.list t3 (List.map Zz m2_5)))])]=some ((ZcP t0 t1 t2 t3 b c d m0_0 m1_0 m2_0 m2_1 m2_2 m2_3 m2_4 m2_5) r):=by
 show ZG _ (fun r rhs=>rhs=some ((ZcP t0 t1 t2 t3 b c d m0_0 m1_0 m2_0 m2_1 m2_2 m2_3 m2_4 m2_5) r)) _
 unfold ZaY
 rw[Zgw ctx 143 ZBN _ _ rfl rfl]
 conv=>arg 3;whnf
 refine Ze _ Zbk fun x0 hx0=>?_;conv=>arg 3;whnf
 refine Ze _ Zbk fun x1 hx1=>?_;conv=>arg 3;whnf
 refine Ze _ Zbk fun x2 hx2=>?_;conv=>arg 3;whnf
 exact Zc rfl
def ZbL (t0:Bool) (t1:Bool) (t2:Bool) (t3:Bool) (b:Int) (m0_0:(List Int)) (m1_0:Int) (m2_0:Int) (m2_1:Int) (m2_2:(List ZV)) (m2_3:(List Zn)) (m2_4:(List Zm)) (m2_5:(List Zs)):(Int×Int)→V×Zp
  | r=>((.d (Zb r.1)),[(.arr 1 (List.map Zb m0_0)),(.cells [(.d (Zb r.2))]),(.cells [(.d (Zb m2_0)),(.d (Zb m2_1)),(.d (D.list t0 (List.map Z8 m2_2))),(.d (D.list t1 (List.map Zv m2_3))),(.d (D.list t2 (List.map Zr m2_4))),(.d (D.list t3 (List.map Zz m2_5)))])])
theorem ZaP {t0:Bool}{t1:Bool}{t2:Bool}{t3:Bool}{b:Int}{m0_0:(List Int)}{m1_0:Int}{m2_0:Int}{m2_1:Int}{m2_2:(List ZV)}{m2_3:(List Zn)}{m2_4:(List Zm)}{m2_5:(List Zs)}:∀r,(Zaf b (fun z0 z1=>Zw z0 z1 m2_4) m0_0 m1_0)=some r→evW ctx 142 [(.sl 0 1),(.d (Zb b)),(.ptr 1 0),(.fn 106 [(.ptr 2 0)])] [(.arr 1 (List.map Zb m0_0)),(.cells [(.d (Zb m1_0))]),(.cells [(.d (Zb m2_0)),(.d (Zb m2_1)),(.d (D.list t0 (List.map Z8 m2_2))),(.d (D.list t1 (List.map Zv m2_3))),(.d (D.list t2 (List.map Zr m2_4))),(.d (D.list t3 (List.map Zz m2_5)))])]=some ((ZbL t0 t1 t2 t3 b m0_0 m1_0 m2_0 m2_1 m2_2 m2_3 m2_4 m2_5) r):=by
 show ZG _ (fun r rhs=>rhs=some ((ZbL t0 t1 t2 t3 b m0_0 m1_0 m2_0 m2_1 m2_2 m2_3 m2_4 m2_5) r)) _
 unfold Zaf
 rw[Zgw ctx 142 ZBp _ _ rfl rfl]
 conv=>arg 3;whnf
 refine Ze _ Zbl fun x0 hx0=>?_;conv=>arg 3;whnf
 exact Zc rfl
def Zca (t0:Bool) (t1:Bool) (t2:Bool) (t3:Bool) (b:Int) (c:Int) (m0_0:(List Int)) (m1_0:Int) (m1_1:Int) (m1_2:(List ZV)) (m1_3:(List Zn)) (m1_4:(List Zm)) (m1_5:(List Zs)):(Int×Int)→V×Zp
  | r=>((.d (D.tup [(Zb r.1),(Zb r.2)])),[(.arr 1 (List.map Zb m0_0)),(.cells [(.d (Zb m1_0)),(.d (Zb m1_1)),(.d (D.list t0 (List.map Z8 m1_2))),(.d (D.list t1 (List.map Zv m1_3))),(.d (D.list t2 (List.map Zr m1_4))),(.d (D.list t3 (List.map Zz m1_5)))])])
theorem Zas {t0:Bool}{t1:Bool}{t2:Bool}{t3:Bool}{b:Int}{c:Int}{m0_0:(List Int)}{m1_0:Int}{m1_1:Int}{m1_2:(List ZV)}{m1_3:(List Zn)}{m1_4:(List Zm)}{m1_5:(List Zs)}:∀r,(ZS b c (fun z0 z1=>Zw z0 z1 m1_4) m0_0)=some r→evW ctx 123 [(.sl 0 1),(.d (Zb b)),(.d (Zb c)),(.fn 106 [(.ptr 1 0)])] [(.arr 1 (List.map Zb m0_0)),(.cells [(.d (Zb m1_0)),(.d (Zb m1_1)),(.d (D.list t0 (List.map Z8 m1_2))),(.d (D.list t1 (List.map Zv m1_3))),(.d (D.list t2 (List.map Zr m1_4))),(.d (D.list t3 (List.map Zz m1_5)))])]=some ((Zca t0 t1 t2 t3 b c m0_0 m1_0 m1_1 m1_2 m1_3 m1_4 m1_5) r):=by
 show ZG _ (fun r rhs=>rhs=some ((Zca t0 t1 t2 t3 b c m0_0 m1_0 m1_1 m1_2 m1_3 m1_4 m1_5) r)) _
 unfold ZS
 rw[Zgw ctx 123 ZBB _ _ rfl rfl]
 conv=>arg 3;whnf
 refine Z6 rfl ?_;conv=>arg 3;whnf
 refine Z6 rfl ?_;conv=>arg 3;whnf
 refine Z6 rfl ?_;conv=>arg 3;whnf
 refine Zd rfl ?_ ?_<;>conv=>arg 3;whnf
 ·refine Zd rfl ?_ ?_<;>conv=>arg 3;whnf
  ·refine Ze _ ZaP fun x0 hx0=>?_;conv=>arg 3;whnf
   refine Ze _ ZaP fun x1 hx1=>?_;conv=>arg 3;whnf
   refine Ze _ ZaP fun x2 hx2=>?_;conv=>arg 3;whnf
   refine Ze _ Zbl fun x3 hx3=>?_;conv=>arg 3;whnf
   refine Zd rfl ?_ ?_<;>conv=>arg 3;whnf
   ·exact Zc rfl
   ·refine Zd rfl ?_ ?_<;>conv=>arg 3;whnf
    ·exact Zc rfl
    ·exact Zc rfl
  ·refine Ze _ Zbl fun x4 hx4=>?_;conv=>arg 3;whnf
   refine Zd rfl ?_ ?_<;>conv=>arg 3;whnf
   ·exact Zc rfl
   ·refine Zd rfl ?_ ?_<;>conv=>arg 3;whnf
    ·exact Zc rfl
    ·exact Zc rfl
 ·refine Zah rfl ?_;conv=>arg 3;whnf
  exact Zc rfl
def ZbT (t0:Bool) (t1:Bool) (t2:Bool) (t3:Bool) (b:Int) (c:Int) (m0_0:(List Int)) (m1_0:Int) (m1_1:Int) (m1_2:(List ZV)) (m1_3:(List Zn)) (m1_4:(List Zm)) (m1_5:(List Zs)):(List Int)→V×Zp
  | r=>((.d (D.tup [])),[(.arr 1 (List.map Zb r)),(.cells [(.d (Zb m1_0)),(.d (Zb m1_1)),(.d (D.list t0 (List.map Z8 m1_2))),(.d (D.list t1 (List.map Zv m1_3))),(.d (D.list t2 (List.map Zr m1_4))),(.d (D.list t3 (List.map Zz m1_5)))])])
def ZbH (t0:Bool) (t1:Bool) (t2:Bool) (t3:Bool) (m1_0:Int) (m1_1:Int) (m1_2:(List ZV)) (m1_3:(List Zn)) (m1_4:(List Zm)) (m1_5:(List Zs)):(List Int)→Ex×List V×Zp
  | r=>(.exit 0,[],[(.arr 1 (List.map Zb r)),(.cells [(.d (Zb m1_0)),(.d (Zb m1_1)),(.d (D.list t0 (List.map Z8 m1_2))),(.d (D.list t1 (List.map Zv m1_3))),(.d (D.list t2 (List.map Zr m1_4))),(.d (D.list t3 (List.map Zz m1_5)))])])
theorem ZdO {t0:Bool}{t1:Bool}{t2:Bool}{t3:Bool}{m1_0:Int}{m1_1:Int}{m1_2:(List ZV)}{m1_3:(List Zn)}{m1_4:(List Zm)}{m1_5:(List Zs)}:∀(s0:Int×Int×(List Int)) (r:(List Int)),lp (Zab) s0=some r→lpW ctx 2 [0,8,9] [] Zyo [(.sl 0 1),(.d (Zb s0.1)),(.d (Zb s0.2.1))] [(.arr 1 (List.map Zb s0.2.2)),(.cells [(.d (Zb m1_0)),(.d (Zb m1_1)),(.d (D.list t0 (List.map Z8 m1_2))),(.d (D.list t1 (List.map Zv m1_3))),(.d (D.list t2 (List.map Zr m1_4))),(.d (D.list t3 (List.map Zz m1_5)))])]=some ((ZbH t0 t1 t2 t3 m1_0 m1_1 m1_2 m1_3 m1_4 m1_5) r):=by
 refine Z1 (ZbH t0 t1 t2 t3 m1_0 m1_1 m1_2 m1_3 m1_4 m1_5) ?_
 intro s0 rcl ih
 show ZG _ _ (lpW _ _ _ _ _ _ _)
 unfold Zab
 rw[Z2]
 conv=>arg 3;whnf
 refine Zd rfl ?_ ?_<;>conv=>arg 3;whnf
 ·refine Zl rfl rfl fun x1 hx1=>?_;conv=>arg 3;whnf
  refine Zg (ZD rfl hx1) ?_;conv=>arg 3;whnf
  refine Zl rfl rfl fun x2 hx2=>?_;conv=>arg 3;whnf
  refine Zg (ZD rfl hx2) ?_;conv=>arg 3;whnf
  refine Zg (Za7 rfl hx2) ?_;conv=>arg 3;whnf
  refine Zg (ZD rfl hx2) ?_;conv=>arg 3;whnf
  refine Zk (ZaE Zb s0.2.2 s0.1.toNat x1) ?_;conv=>arg 3;whnf
  refine Zl rfl rfl fun x3 hx3=>?_;conv=>arg 3;whnf
  refine Zg (ZD rfl hx3) ?_;conv=>arg 3;whnf
  refine Zk (ZaE Zb (List.set s0.2.2 s0.1.toNat x1) s0.2.1.toNat x2) ?_;conv=>arg 3;whnf
  exact Zf (ih _)
 ·exact Zc rfl
theorem Zaq {t0:Bool}{t1:Bool}{t2:Bool}{t3:Bool}{b:Int}{c:Int}{m0_0:(List Int)}{m1_0:Int}{m1_1:Int}{m1_2:(List ZV)}{m1_3:(List Zn)}{m1_4:(List Zm)}{m1_5:(List Zs)}:∀r,(ZR b c (fun z0 z1=>Zw z0 z1 m1_4) m0_0)=some r→evW ctx 124 [(.sl 0 1),(.d (Zb b)),(.d (Zb c)),(.fn 106 [(.ptr 1 0)])] [(.arr 1 (List.map Zb m0_0)),(.cells [(.d (Zb m1_0)),(.d (Zb m1_1)),(.d (D.list t0 (List.map Z8 m1_2))),(.d (D.list t1 (List.map Zv m1_3))),(.d (D.list t2 (List.map Zr m1_4))),(.d (D.list t3 (List.map Zz m1_5)))])]=some ((ZbT t0 t1 t2 t3 b c m0_0 m1_0 m1_1 m1_2 m1_3 m1_4 m1_5) r):=by
 show ZG _ (fun r rhs=>rhs=some ((ZbT t0 t1 t2 t3 b c m0_0 m1_0 m1_1 m1_2 m1_3 m1_4 m1_5) r)) _
 unfold ZR
 rw[Zgw ctx 124 ZCx _ _ rfl rfl]
 conv=>arg 3;whnf
 refine Ze _ (ZdO _) fun r4 hr4=>?_;conv=>arg 3;whnf
 exact Zc rfl
def Zbq (t0:Bool) (t1:Bool) (t2:Bool) (t3:Bool) (b:Int) (c:Int) (m0_0:(List Int)) (m1_0:Int) (m1_1:Int) (m1_2:(List ZV)) (m1_3:(List Zn)) (m1_4:(List Zm)) (m1_5:(List Zs)):((List Int)⊕(List Int))→V×Zp
  | (.inl r)=>((.d (D.bool true)),[(.arr 1 (List.map Zb r)),(.cells [(.d (Zb m1_0)),(.d (Zb m1_1)),(.d (D.list t0 (List.map Z8 m1_2))),(.d (D.list t1 (List.map Zv m1_3))),(.d (D.list t2 (List.map Zr m1_4))),(.d (D.list t3 (List.map Zz m1_5)))])])
  | (.inr r)=>((.d (D.bool false)),[(.arr 1 (List.map Zb r)),(.cells [(.d (Zb m1_0)),(.d (Zb m1_1)),(.d (D.list t0 (List.map Z8 m1_2))),(.d (D.list t1 (List.map Zv m1_3))),(.d (D.list t2 (List.map Zr m1_4))),(.d (D.list t3 (List.map Zz m1_5)))])])
def Zbh (t0:Bool) (t1:Bool) (t2:Bool) (t3:Bool) (b:Int) (c:Int) (m1_0:Int) (m1_1:Int) (m1_2:(List ZV)) (m1_3:(List Zn)) (m1_4:(List Zm)) (m1_5:(List Zs)) (s0:Int×Int×(List Int)):Int→Ex×List V×Zp
  | r=>(.exit 2,[(.sl 0 1),(.d (Zb b)),(.d (Zb c)),(.fn 106 [(.ptr 1 0)]),(.d (Zb r)),(.d (Zb s0.2.1))],[(.arr 1 (List.map Zb s0.2.2)),(.cells [(.d (Zb m1_0)),(.d (Zb m1_1)),(.d (D.list t0 (List.map Z8 m1_2))),(.d (D.list t1 (List.map Zv m1_3))),(.d (D.list t2 (List.map Zr m1_4))),(.d (D.list t3 (List.map Zz m1_5)))])])
theorem ZcW {t0:Bool}{t1:Bool}{t2:Bool}{t3:Bool}{b:Int}{c:Int}{m1_0:Int}{m1_1:Int}{m1_2:(List ZV)}{m1_3:(List Zn)}{m1_4:(List Zm)}{m1_5:(List Zs)}{s0:Int×Int×(List Int)}:∀(s1:Int) (r:Int),lp (ZP c (fun z0 z1=>Zw z0 z1 m1_4) s0) s1=some r→lpW ctx 2 [0,1,2,3,9,10] [0,1,2,3,9,10] Zx7 [(.sl 0 1),(.d (Zb b)),(.d (Zb c)),(.fn 106 [(.ptr 1 0)]),(.d (Zb s1)),(.d (Zb s0.2.1))] [(.arr 1 (List.map Zb s0.2.2)),(.cells [(.d (Zb m1_0)),(.d (Zb m1_1)),(.d (D.list t0 (List.map Z8 m1_2))),(.d (D.list t1 (List.map Zv m1_3))),(.d (D.list t2 (List.map Zr m1_4))),(.d (D.list t3 (List.map Zz m1_5)))])]=some ((Zbh t0 t1 t2 t3 b c m1_0 m1_1 m1_2 m1_3 m1_4 m1_5 s0) r):=by
 refine Z1 (Zbh t0 t1 t2 t3 b c m1_0 m1_1 m1_2 m1_3 m1_4 m1_5 s0) ?_
 intro s1 rcl ih
 show ZG _ _ (lpW _ _ _ _ _ _ _)
 unfold ZP
 rw[Z2]
 conv=>arg 3;whnf
 refine Zd rfl ?_ ?_<;>conv=>arg 3;whnf
 ·refine Zl rfl rfl fun x2 hx2=>?_;conv=>arg 3;whnf
  refine Zg (ZD rfl hx2) ?_;conv=>arg 3;whnf
  refine Zl rfl rfl fun x3 hx3=>?_;conv=>arg 3;whnf
  refine Zg (ZD rfl hx3) ?_;conv=>arg 3;whnf
  refine Zj _ ZJ rfl fun x4 hx4=>?_;conv=>arg 3;whnf
  refine Zd rfl ?_ ?_<;>conv=>arg 3;whnf
  ·exact Zc rfl
  ·exact Zf (ih _)
 ·exact Zc rfl
def Zbe (t0:Bool) (t1:Bool) (t2:Bool) (t3:Bool) (b:Int) (c:Int) (m1_0:Int) (m1_1:Int) (m1_2:(List ZV)) (m1_3:(List Zn)) (m1_4:(List Zm)) (m1_5:(List Zs)) (s0:Int×Int×(List Int)) (r5:Int):(List Int)→Ex×List V×Zp
  | r=>(.exit 4,[(.sl 0 1),(.d (Zb b)),(.d (Zb c)),(.fn 106 [(.ptr 1 0)]),(.d (Zb r5)),(.d (Zb s0.2.1))],[(.arr 1 (List.map Zb r)),(.cells [(.d (Zb m1_0)),(.d (Zb m1_1)),(.d (D.list t0 (List.map Z8 m1_2))),(.d (D.list t1 (List.map Zv m1_3))),(.d (D.list t2 (List.map Zr m1_4))),(.d (D.list t3 (List.map Zz m1_5)))])])
theorem ZcV {t0:Bool}{t1:Bool}{t2:Bool}{t3:Bool}{b:Int}{c:Int}{m1_0:Int}{m1_1:Int}{m1_2:(List ZV)}{m1_3:(List Zn)}{m1_4:(List Zm)}{m1_5:(List Zs)}{s0:Int×Int×(List Int)}{r5:Int}:∀(s9:Int×(List Int)) (r:(List Int)),lp (ZX (fun z0 z1=>Zw z0 z1 m1_4)) s9=some r→lpW ctx 2 [0,1,2,3,9,10,11] [0,1,2,3,9,10] ZyG [(.sl 0 1),(.d (Zb b)),(.d (Zb c)),(.fn 106 [(.ptr 1 0)]),(.d (Zb r5)),(.d (Zb s0.2.1)),(.d (Zb s9.1))] [(.arr 1 (List.map Zb s9.2)),(.cells [(.d (Zb m1_0)),(.d (Zb m1_1)),(.d (D.list t0 (List.map Z8 m1_2))),(.d (D.list t1 (List.map Zv m1_3))),(.d (D.list t2 (List.map Zr m1_4))),(.d (D.list t3 (List.map Zz m1_5)))])]=some ((Zbe t0 t1 t2 t3 b c m1_0 m1_1 m1_2 m1_3 m1_4 m1_5 s0 r5) r):=by
 refine Z1 (Zbe t0 t1 t2 t3 b c m1_0 m1_1 m1_2 m1_3 m1_4 m1_5 s0 r5) ?_
 intro s9 rcl ih
 show ZG _ _ (lpW _ _ _ _ _ _ _)
 unfold ZX
 rw[Z2]
 conv=>arg 3;whnf
 refine Zd rfl ?_ ?_<;>conv=>arg 3;whnf
 ·refine Zl rfl rfl fun x10 hx10=>?_;conv=>arg 3;whnf
  refine Zg (ZD rfl hx10) ?_;conv=>arg 3;whnf
  refine Zl rfl rfl fun x11 hx11=>?_;conv=>arg 3;whnf
  refine Zg (ZD rfl hx11) ?_;conv=>arg 3;whnf
  refine Zj _ ZJ rfl fun x12 hx12=>?_;conv=>arg 3;whnf
  refine Zd rfl ?_ ?_<;>conv=>arg 3;whnf
  ·refine Zg (Za7 rfl hx11) ?_;conv=>arg 3;whnf
   refine Zg (ZD rfl hx11) ?_;conv=>arg 3;whnf
   refine Zg (Za7 rfl hx10) ?_;conv=>arg 3;whnf
   refine Zg (ZD rfl hx10) ?_;conv=>arg 3;whnf
   refine Zg (Za7 rfl hx10) ?_;conv=>arg 3;whnf
   refine Zg (ZD rfl hx10) ?_;conv=>arg 3;whnf
   refine Zk (ZaE Zb s9.2 s9.1.toNat x11) ?_;conv=>arg 3;whnf
   refine Zl rfl rfl fun x13 hx13=>?_;conv=>arg 3;whnf
   refine Zg (ZD rfl hx13) ?_;conv=>arg 3;whnf
   refine Zk (ZaE Zb (List.set s9.2 s9.1.toNat x11) (w64 (s9.1-1)).toNat x10) ?_;conv=>arg 3;whnf
   exact Zf (ih _)
  ·exact Zc rfl
 ·exact Zc rfl
def Zbf (t0:Bool) (t1:Bool) (t2:Bool) (t3:Bool) (b:Int) (c:Int) (m1_0:Int) (m1_1:Int) (m1_2:(List ZV)) (m1_3:(List Zn)) (m1_4:(List Zm)) (m1_5:(List Zs)) (s0:Int×Int×(List Int)) (r5:Int):(List Int)→Ex×List V×Zp
  | r=>(.exit 6,[(.sl 0 1),(.d (Zb b)),(.d (Zb c)),(.fn 106 [(.ptr 1 0)]),(.d (Zb r5)),(.d (Zb s0.2.1))],[(.arr 1 (List.map Zb r)),(.cells [(.d (Zb m1_0)),(.d (Zb m1_1)),(.d (D.list t0 (List.map Z8 m1_2))),(.d (D.list t1 (List.map Zv m1_3))),(.d (D.list t2 (List.map Zr m1_4))),(.d (D.list t3 (List.map Zz m1_5)))])])
theorem Zbc {t0:Bool}{t1:Bool}{t2:Bool}{t3:Bool}{b:Int}{c:Int}{m1_0:Int}{m1_1:Int}{m1_2:(List ZV)}{m1_3:(List Zn)}{m1_4:(List Zm)}{m1_5:(List Zs)}{s0:Int×Int×(List Int)}{r5:Int}:∀(s15:Int×(List Int)) (r:(List Int)),lp (ZK c (fun z0 z1=>Zw z0 z1 m1_4)) s15=some r→lpW ctx 2 [0,1,2,3,9,10,12] [0,1,2,3,9,10] Zx9 [(.sl 0 1),(.d (Zb b)),(.d (Zb c)),(.fn 106 [(.ptr 1 0)]),(.d (Zb r5)),(.d (Zb s0.2.1)),(.d (Zb s15.1))] [(.arr 1 (List.map Zb s15.2)),(.cells [(.d (Zb m1_0)),(.d (Zb m1_1)),(.d (D.list t0 (List.map Z8 m1_2))),(.d (D.list t1 (List.map Zv m1_3))),(.d (D.list t2 (List.map Zr m1_4))),(.d (D.list t3 (List.map Zz m1_5)))])]=some ((Zbf t0 t1 t2 t3 b c m1_0 m1_1 m1_2 m1_3 m1_4 m1_5 s0 r5) r):=by
 refine Z1 (Zbf t0 t1 t2 t3 b c m1_0 m1_1 m1_2 m1_3 m1_4 m1_5 s0 r5) ?_
 intro s15 rcl ih
 show ZG _ _ (lpW _ _ _ _ _ _ _)
 unfold ZK
 rw[Z2]
 conv=>arg 3;whnf
 refine Zd rfl ?_ ?_<;>conv=>arg 3;whnf
 ·refine Zl rfl rfl fun x16 hx16=>?_;conv=>arg 3;whnf
  refine Zg (ZD rfl hx16) ?_;conv=>arg 3;whnf
  refine Zl rfl rfl fun x17 hx17=>?_;conv=>arg 3;whnf
  refine Zg (ZD rfl hx17) ?_;conv=>arg 3;whnf
  refine Zj _ ZJ rfl fun x18 hx18=>?_;conv=>arg 3;whnf
  refine Zd rfl ?_ ?_<;>conv=>arg 3;whnf
  ·refine Zg (Za7 rfl hx17) ?_;conv=>arg 3;whnf
   refine Zg (ZD rfl hx17) ?_;conv=>arg 3;whnf
   refine Zg (Za7 rfl hx16) ?_;conv=>arg 3;whnf
   refine Zg (ZD rfl hx16) ?_;conv=>arg 3;whnf
   refine Zg (Za7 rfl hx16) ?_;conv=>arg 3;whnf
   refine Zg (ZD rfl hx16) ?_;conv=>arg 3;whnf
   refine Zk (ZaE Zb s15.2 s15.1.toNat x17) ?_;conv=>arg 3;whnf
   refine Zl rfl rfl fun x19 hx19=>?_;conv=>arg 3;whnf
   refine Zg (ZD rfl hx19) ?_;conv=>arg 3;whnf
   refine Zk (ZaE Zb (List.set s15.2 s15.1.toNat x17) (w64 (s15.1-1)).toNat x16) ?_;conv=>arg 3;whnf
   exact Zf (ih _)
  ·exact Zc rfl
 ·exact Zc rfl
def Zbg (t0:Bool) (t1:Bool) (t2:Bool) (t3:Bool) (b:Int) (c:Int) (m1_0:Int) (m1_1:Int) (m1_2:(List ZV)) (m1_3:(List Zn)) (m1_4:(List Zm)) (m1_5:(List Zs)):((List Int)⊕((List Int)⊕(List Int)))→Ex×List V×Zp
  | (.inl r)=>(.ret,[(.d (D.bool true))],[(.arr 1 (List.map Zb r)),(.cells [(.d (Zb m1_0)),(.d (Zb m1_1)),(.d (D.list t0 (List.map Z8 m1_2))),(.d (D.list t1 (List.map Zv m1_3))),(.d (D.list t2 (List.map Zr m1_4))),(.d (D.list t3 (List.map Zz m1_5)))])])
  | (.inr (.inl r))=>(.ret,[(.d (D.bool false))],[(.arr 1 (List.map Zb r)),(.cells [(.d (Zb m1_0)),(.d (Zb m1_1)),(.d (D.list t0 (List.map Z8 m1_2))),(.d (D.list t1 (List.map Zv m1_3))),(.d (D.list t2 (List.map Zr m1_4))),(.d (D.list t3 (List.map Zz m1_5)))])])
  | (.inr (.inr r))=>(.exit 0,[.bad],[(.arr 1 (List.map Zb r)),(.cells [(.d (Zb m1_0)),(.d (Zb m1_1)),(.d (D.list t0 (List.map Z8 m1_2))),(.d (D.list t1 (List.map Zv m1_3))),(.d (D.list t2 (List.map Zr m1_4))),(.d (D.list t3 (List.map Zz m1_5)))])])
theorem Zc1 {t0:Bool}{t1:Bool}{t2:Bool}{t3:Bool}{b:Int}{c:Int}{m1_0:Int}{m1_1:Int}{m1_2:(List ZV)}{m1_3:(List Zn)}{m1_4:(List Zm)}{m1_5:(List Zs)}:∀(s0:Int×Int×(List Int)) (r:((List Int)⊕((List Int)⊕(List Int)))),lp (ZW b c (fun z0 z1=>Zw z0 z1 m1_4)) s0=some r→lpW ctx 2 [0,1,2,3,9,10] [8] ZyH [(.sl 0 1),(.d (Zb b)),(.d (Zb c)),(.fn 106 [(.ptr 1 0)]),(.d (Zb s0.1)),(.d (Zb s0.2.1))] [(.arr 1 (List.map Zb s0.2.2)),(.cells [(.d (Zb m1_0)),(.d (Zb m1_1)),(.d (D.list t0 (List.map Z8 m1_2))),(.d (D.list t1 (List.map Zv m1_3))),(.d (D.list t2 (List.map Zr m1_4))),(.d (D.list t3 (List.map Zz m1_5)))])]=some ((Zbg t0 t1 t2 t3 b c m1_0 m1_1 m1_2 m1_3 m1_4 m1_5) r):=by
 refine Z1 (Zbg t0 t1 t2 t3 b c m1_0 m1_1 m1_2 m1_3 m1_4 m1_5) ?_
 intro s0 rcl ih
 show ZG _ _ (lpW _ _ _ _ _ _ _)
 unfold ZW
 rw[Z2]
 conv=>arg 3;whnf
 refine Zd rfl ?_ ?_<;>conv=>arg 3;whnf
 ·refine Ze _ (ZcW _) fun r5 hr5=>?_;conv=>arg 3;whnf
  refine Zd rfl ?_ ?_<;>conv=>arg 3;whnf
  ·exact Zc rfl
  ·refine Zd rfl ?_ ?_<;>conv=>arg 3;whnf
   ·exact Zc rfl
   ·refine Zl rfl rfl fun x6 hx6=>?_;conv=>arg 3;whnf
    refine Zg (ZD rfl hx6) ?_;conv=>arg 3;whnf
    refine Zl rfl rfl fun x7 hx7=>?_;conv=>arg 3;whnf
    refine Zg (ZD rfl hx7) ?_;conv=>arg 3;whnf
    refine Zg (Za7 rfl hx7) ?_;conv=>arg 3;whnf
    refine Zg (ZD rfl hx7) ?_;conv=>arg 3;whnf
    refine Zk (ZaE Zb s0.2.2 r5.toNat x6) ?_;conv=>arg 3;whnf
    refine Zl rfl rfl fun x8 hx8=>?_;conv=>arg 3;whnf
    refine Zg (ZD rfl hx8) ?_;conv=>arg 3;whnf
    refine Zk (ZaE Zb (List.set s0.2.2 r5.toNat x6) (w64 (r5-1)).toNat x7) ?_;conv=>arg 3;whnf
    refine Zd rfl ?_ ?_<;>conv=>arg 3;whnf
    ·refine Ze _ (ZcV _) fun r14 hr14=>?_;conv=>arg 3;whnf
     refine Zd rfl ?_ ?_<;>conv=>arg 3;whnf
     ·refine Ze _ (Zbc _) fun r20 hr20=>?_;conv=>arg 3;whnf
      exact Zf (ih _)
     ·exact Zf (ih _)
    ·refine Zd rfl ?_ ?_<;>conv=>arg 3;whnf
     ·refine Ze _ (Zbc _) fun r26 hr26=>?_;conv=>arg 3;whnf
      exact Zf (ih _)
     ·exact Zf (ih _)
 ·exact Zc rfl
theorem Zbn {t0:Bool}{t1:Bool}{t2:Bool}{t3:Bool}{b:Int}{c:Int}{m0_0:(List Int)}{m1_0:Int}{m1_1:Int}{m1_2:(List ZV)}{m1_3:(List Zn)}{m1_4:(List Zm)}{m1_5:(List Zs)}:∀r,(ZT b c (fun z0 z1=>Zw z0 z1 m1_4) m0_0)=some r→evW ctx 125 [(.sl 0 1),(.d (Zb b)),(.d (Zb c)),(.fn 106 [(.ptr 1 0)])] [(.arr 1 (List.map Zb m0_0)),(.cells [(.d (Zb m1_0)),(.d (Zb m1_1)),(.d (D.list t0 (List.map Z8 m1_2))),(.d (D.list t1 (List.map Zv m1_3))),(.d (D.list t2 (List.map Zr m1_4))),(.d (D.list t3 (List.map Zz m1_5)))])]=some ((Zbq t0 t1 t2 t3 b c m0_0 m1_0 m1_1 m1_2 m1_3 m1_4 m1_5) r):=by
 show ZG _ (fun r rhs=>rhs=some ((Zbq t0 t1 t2 t3 b c m0_0 m1_0 m1_1 m1_2 m1_3 m1_4 m1_5) r)) _
 unfold ZT
 rw[Zgw ctx 125 ZA0 _ _ rfl rfl]
 conv=>arg 3;whnf
 refine Ze _ (Zc1 _) fun r27 hr27=>?_
 clear hr27
 rcases r27 with r27 | (r27 | r27)
 ·conv=>arg 3;whnf
  exact Zc rfl
 ·conv=>arg 3;whnf
  exact Zc rfl
 ·conv=>arg 3;whnf
  exact Zc rfl
def Zcq (t0:Bool) (t1:Bool) (t2:Bool) (t3:Bool) (b:Int) (c:Int) (d:Int) (m0_0:(List Int)) (m1_0:Int) (m1_1:Int) (m1_2:(List ZV)) (m1_3:(List Zn)) (m1_4:(List Zm)) (m1_5:(List Zs)):((Int×(List Int))⊕(Int×(List Int)))→V×Zp
  | (.inl r)=>((.d (D.tup [(Zb r.1),(D.bool true)])),[(.arr 1 (List.map Zb r.2)),(.cells [(.d (Zb m1_0)),(.d (Zb m1_1)),(.d (D.list t0 (List.map Z8 m1_2))),(.d (D.list t1 (List.map Zv m1_3))),(.d (D.list t2 (List.map Zr m1_4))),(.d (D.list t3 (List.map Zz m1_5)))])])
  | (.inr r)=>((.d (D.tup [(Zb r.1),(D.bool false)])),[(.arr 1 (List.map Zb r.2)),(.cells [(.d (Zb m1_0)),(.d (Zb m1_1)),(.d (D.list t0 (List.map Z8 m1_2))),(.d (D.list t1 (List.map Zv m1_3))),(.d (D.list t2 (List.map Zr m1_4))),(.d (D.list t3 (List.map Zz m1_5)))])])
def Zb0 (t0:Bool) (t1:Bool) (t2:Bool) (t3:Bool) (b:Int) (c:Int) (d:Int) (m0_0:(List Int)) (m1_0:Int) (m1_1:Int) (m1_2:(List ZV)) (m1_3:(List Zn)) (m1_4:(List Zm)) (m1_5:(List Zs)) (x0:Int) (x1:Int):Int→Ex×List V×Zp
  | r=>(.exit 0,[(.sl 0 1),(.d (Zb b)),(.fn 106 [(.ptr 1 0)]),(.d (Zb r)),(.d (Zb (w64 (c-1))))],[(.arr 1 (List.map Zb (List.set (List.set m0_0 b.toNat x0) d.toNat x1))),(.cells [(.d (Zb m1_0)),(.d (Zb m1_1)),(.d (D.list t0 (List.map Z8 m1_2))),(.d (D.list t1 (List.map Zv m1_3))),(.d (D.list t2 (List.map Zr m1_4))),(.d (D.list t3 (List.map Zz m1_5)))])])
theorem Zer {t0:Bool}{t1:Bool}{t2:Bool}{t3:Bool}{b:Int}{c:Int}{d:Int}{m0_0:(List Int)}{m1_0:Int}{m1_1:Int}{m1_2:(List ZV)}{m1_3:(List Zn)}{m1_4:(List Zm)}{m1_5:(List Zs)}{x0:Int}{x1:Int}:∀(s3:Int) (r:Int),lp (ZaK b c d m0_0 (fun z0 z1=>Zw z0 z1 m1_4) x0 x1) s3=some r→lpW ctx 2 [0,1,4,12,13] [0,1,4,12,13] Zyn [(.sl 0 1),(.d (Zb b)),(.fn 106 [(.ptr 1 0)]),(.d (Zb s3)),(.d (Zb (w64 (c-1))))] [(.arr 1 (List.map Zb (List.set (List.set m0_0 b.toNat x0) d.toNat x1))),(.cells [(.d (Zb m1_0)),(.d (Zb m1_1)),(.d (D.list t0 (List.map Z8 m1_2))),(.d (D.list t1 (List.map Zv m1_3))),(.d (D.list t2 (List.map Zr m1_4))),(.d (D.list t3 (List.map Zz m1_5)))])]=some ((Zb0 t0 t1 t2 t3 b c d m0_0 m1_0 m1_1 m1_2 m1_3 m1_4 m1_5 x0 x1) r):=by
 refine Z1 (Zb0 t0 t1 t2 t3 b c d m0_0 m1_0 m1_1 m1_2 m1_3 m1_4 m1_5 x0 x1) ?_
 intro s3 rcl ih
 show ZG _ _ (lpW _ _ _ _ _ _ _)
 unfold ZaK
 rw[Z2]
 conv=>arg 3;whnf
 refine Zd rfl ?_ ?_<;>conv=>arg 3;whnf
 ·refine Zl rfl rfl fun x4 hx4=>?_;conv=>arg 3;whnf
  refine Zg (ZD rfl hx4) ?_;conv=>arg 3;whnf
  refine Zl rfl rfl fun x5 hx5=>?_;conv=>arg 3;whnf
  refine Zg (ZD rfl hx5) ?_;conv=>arg 3;whnf
  refine Zj _ ZJ rfl fun x6 hx6=>?_;conv=>arg 3;whnf
  refine Zd rfl ?_ ?_<;>conv=>arg 3;whnf
  ·exact Zf (ih _)
  ·exact Zc rfl
 ·exact Zc rfl
def ZbW (t0:Bool) (t1:Bool) (t2:Bool) (t3:Bool) (b:Int) (d:Int) (m0_0:(List Int)) (m1_0:Int) (m1_1:Int) (m1_2:(List ZV)) (m1_3:(List Zn)) (m1_4:(List Zm)) (m1_5:(List Zs)) (x0:Int) (x1:Int) (r7:Int):Int→Ex×List V×Zp
  | r=>(.exit 2,[(.sl 0 1),(.d (Zb b)),(.fn 106 [(.ptr 1 0)]),(.d (Zb r7)),(.d (Zb r))],[(.arr 1 (List.map Zb (List.set (List.set m0_0 b.toNat x0) d.toNat x1))),(.cells [(.d (Zb m1_0)),(.d (Zb m1_1)),(.d (D.list t0 (List.map Z8 m1_2))),(.d (D.list t1 (List.map Zv m1_3))),(.d (D.list t2 (List.map Zr m1_4))),(.d (D.list t3 (List.map Zz m1_5)))])])
theorem Zen {t0:Bool}{t1:Bool}{t2:Bool}{t3:Bool}{b:Int}{d:Int}{m0_0:(List Int)}{m1_0:Int}{m1_1:Int}{m1_2:(List ZV)}{m1_3:(List Zn)}{m1_4:(List Zm)}{m1_5:(List Zs)}{x0:Int}{x1:Int}{r7:Int}:∀(s8:Int) (r:Int),lp (ZaJ b d m0_0 (fun z0 z1=>Zw z0 z1 m1_4) x0 x1 r7) s8=some r→lpW ctx 2 [0,1,4,12,13] [0,1,4,12,13] Zx0 [(.sl 0 1),(.d (Zb b)),(.fn 106 [(.ptr 1 0)]),(.d (Zb r7)),(.d (Zb s8))] [(.arr 1 (List.map Zb (List.set (List.set m0_0 b.toNat x0) d.toNat x1))),(.cells [(.d (Zb m1_0)),(.d (Zb m1_1)),(.d (D.list t0 (List.map Z8 m1_2))),(.d (D.list t1 (List.map Zv m1_3))),(.d (D.list t2 (List.map Zr m1_4))),(.d (D.list t3 (List.map Zz m1_5)))])]=some ((ZbW t0 t1 t2 t3 b d m0_0 m1_0 m1_1 m1_2 m1_3 m1_4 m1_5 x0 x1 r7) r):=by
 refine Z1 (ZbW t0 t1 t2 t3 b d m0_0 m1_0 m1_1 m1_2 m1_3 m1_4 m1_5 x0 x1 r7) ?_
 intro s8 rcl ih
 show ZG _ _ (lpW _ _ _ _ _ _ _)
 unfold ZaJ
 rw[Z2]
 conv=>arg 3;whnf
 refine Zd rfl ?_ ?_<;>conv=>arg 3;whnf
 ·refine Zl rfl rfl fun x9 hx9=>?_;conv=>arg 3;whnf
  refine Zg (ZD rfl hx9) ?_;conv=>arg 3;whnf
  refine Zl rfl rfl fun x10 hx10=>?_;conv=>arg 3;whnf
  refine Zg (ZD rfl hx10) ?_;conv=>arg 3;whnf
  refine Zj _ ZJ rfl fun x11 hx11=>?_;conv=>arg 3;whnf
  refine Zd rfl ?_ ?_<;>conv=>arg 3;whnf
  ·exact Zc rfl
  ·exact Zf (ih _)
 ·exact Zc rfl
def ZbU (t0:Bool) (t1:Bool) (t2:Bool) (t3:Bool) (b:Int) (m1_0:Int) (m1_1:Int) (m1_2:(List ZV)) (m1_3:(List Zn)) (m1_4:(List Zm)) (m1_5:(List Zs)) (s19:Int×Int×(List Int)):Int→Ex×List V×Zp
  | r=>(.exit 6,[(.sl 0 1),(.d (Zb b)),(.fn 106 [(.ptr 1 0)]),(.d (Zb r)),(.d (Zb s19.2.1))],[(.arr 1 (List.map Zb s19.2.2)),(.cells [(.d (Zb m1_0)),(.d (Zb m1_1)),(.d (D.list t0 (List.map Z8 m1_2))),(.d (D.list t1 (List.map Zv m1_3))),(.d (D.list t2 (List.map Zr m1_4))),(.d (D.list t3 (List.map Zz m1_5)))])])
theorem Zey {t0:Bool}{t1:Bool}{t2:Bool}{t3:Bool}{b:Int}{m1_0:Int}{m1_1:Int}{m1_2:(List ZV)}{m1_3:(List Zn)}{m1_4:(List Zm)}{m1_5:(List Zs)}{s19:Int×Int×(List Int)}:∀(s20:Int) (r:Int),lp (ZaL b (fun z0 z1=>Zw z0 z1 m1_4) s19) s20=some r→lpW ctx 2 [0,1,4,12,13] [0,1,4,12,13] ZxM [(.sl 0 1),(.d (Zb b)),(.fn 106 [(.ptr 1 0)]),(.d (Zb s20)),(.d (Zb s19.2.1))] [(.arr 1 (List.map Zb s19.2.2)),(.cells [(.d (Zb m1_0)),(.d (Zb m1_1)),(.d (D.list t0 (List.map Z8 m1_2))),(.d (D.list t1 (List.map Zv m1_3))),(.d (D.list t2 (List.map Zr m1_4))),(.d (D.list t3 (List.map Zz m1_5)))])]=some ((ZbU t0 t1 t2 t3 b m1_0 m1_1 m1_2 m1_3 m1_4 m1_5 s19) r):=by
 refine Z1 (ZbU t0 t1 t2 t3 b m1_0 m1_1 m1_2 m1_3 m1_4 m1_5 s19) ?_
 intro s20 rcl ih
 show ZG _ _ (lpW _ _ _ _ _ _ _)
 unfold ZaL
 rw[Z2]
 conv=>arg 3;whnf
 refine Zd rfl ?_ ?_<;>conv=>arg 3;whnf
 ·refine Zl rfl rfl fun x21 hx21=>?_;conv=>arg 3;whnf
  refine Zg (ZD rfl hx21) ?_;conv=>arg 3;whnf
  refine Zl rfl rfl fun x22 hx22=>?_;conv=>arg 3;whnf
  refine Zg (ZD rfl hx22) ?_;conv=>arg 3;whnf
  refine Zj _ ZJ rfl fun x23 hx23=>?_;conv=>arg 3;whnf
  refine Zd rfl ?_ ?_<;>conv=>arg 3;whnf
  ·exact Zf (ih _)
  ·exact Zc rfl
 ·exact Zc rfl
def ZbY (t0:Bool) (t1:Bool) (t2:Bool) (t3:Bool) (b:Int) (m1_0:Int) (m1_1:Int) (m1_2:(List ZV)) (m1_3:(List Zn)) (m1_4:(List Zm)) (m1_5:(List Zs)) (s19:Int×Int×(List Int)) (r24:Int):Int→Ex×List V×Zp
  | r=>(.exit 8,[(.sl 0 1),(.d (Zb b)),(.fn 106 [(.ptr 1 0)]),(.d (Zb r24)),(.d (Zb r))],[(.arr 1 (List.map Zb s19.2.2)),(.cells [(.d (Zb m1_0)),(.d (Zb m1_1)),(.d (D.list t0 (List.map Z8 m1_2))),(.d (D.list t1 (List.map Zv m1_3))),(.d (D.list t2 (List.map Zr m1_4))),(.d (D.list t3 (List.map Zz m1_5)))])])
theorem Zef {t0:Bool}{t1:Bool}{t2:Bool}{t3:Bool}{b:Int}{m1_0:Int}{m1_1:Int}{m1_2:(List ZV)}{m1_3:(List Zn)}{m1_4:(List Zm)}{m1_5:(List Zs)}{s19:Int×Int×(List Int)}{r24:Int}:∀(s25:Int) (r:Int),lp (ZaH b (fun z0 z1=>Zw z0 z1 m1_4) s19 r24) s25=some r→lpW ctx 2 [0,1,4,12,13] [0,1,4,12,13] ZxU [(.sl 0 1),(.d (Zb b)),(.fn 106 [(.ptr 1 0)]),(.d (Zb r24)),(.d (Zb s25))] [(.arr 1 (List.map Zb s19.2.2)),(.cells [(.d (Zb m1_0)),(.d (Zb m1_1)),(.d (D.list t0 (List.map Z8 m1_2))),(.d (D.list t1 (List.map Zv m1_3))),(.d (D.list t2 (List.map Zr m1_4))),(.d (D.list t3 (List.map Zz m1_5)))])]=some ((ZbY t0 t1 t2 t3 b m1_0 m1_1 m1_2 m1_3 m1_4 m1_5 s19 r24) r):=by
 refine Z1 (ZbY t0 t1 t2 t3 b m1_0 m1_1 m1_2 m1_3 m1_4 m1_5 s19 r24) ?_
 intro s25 rcl ih
 show ZG _ _ (lpW _ _ _ _ _ _ _)
 unfold ZaH
 rw[Z2]
 conv=>arg 3;whnf
 refine Zd rfl ?_ ?_<;>conv=>arg 3;whnf
 ·refine Zl rfl rfl fun x26 hx26=>?_;conv=>arg 3;whnf
  refine Zg (ZD rfl hx26) ?_;conv=>arg 3;whnf
  refine Zl rfl rfl fun x27 hx27=>?_;conv=>arg 3;whnf
  refine Zg (ZD rfl hx27) ?_;conv=>arg 3;whnf
  refine Zj _ ZJ rfl fun x28 hx28=>?_;conv=>arg 3;whnf
  refine Zd rfl ?_ ?_<;>conv=>arg 3;whnf
  ·exact Zc rfl
  ·exact Zf (ih _)
 ·exact Zc rfl
def ZbV (t0:Bool) (t1:Bool) (t2:Bool) (t3:Bool) (b:Int) (m1_0:Int) (m1_1:Int) (m1_2:(List ZV)) (m1_3:(List Zn)) (m1_4:(List Zm)) (m1_5:(List Zs)):(Int×(List Int))→Ex×List V×Zp
  | r=>(.exit 4,[(.sl 0 1),(.d (Zb b)),(.d (Zb r.1))],[(.arr 1 (List.map Zb r.2)),(.cells [(.d (Zb m1_0)),(.d (Zb m1_1)),(.d (D.list t0 (List.map Z8 m1_2))),(.d (D.list t1 (List.map Zv m1_3))),(.d (D.list t2 (List.map Zr m1_4))),(.d (D.list t3 (List.map Zz m1_5)))])])
theorem Zew {t0:Bool}{t1:Bool}{t2:Bool}{t3:Bool}{b:Int}{m1_0:Int}{m1_1:Int}{m1_2:(List ZV)}{m1_3:(List Zn)}{m1_4:(List Zm)}{m1_5:(List Zs)}:∀(s19:Int×Int×(List Int)) (r:(Int×(List Int))),lp (Zbd b (fun z0 z1=>Zw z0 z1 m1_4)) s19=some r→lpW ctx 2 [0,1,4,12,13] [0,1,13] Zyf [(.sl 0 1),(.d (Zb b)),(.fn 106 [(.ptr 1 0)]),(.d (Zb s19.1)),(.d (Zb s19.2.1))] [(.arr 1 (List.map Zb s19.2.2)),(.cells [(.d (Zb m1_0)),(.d (Zb m1_1)),(.d (D.list t0 (List.map Z8 m1_2))),(.d (D.list t1 (List.map Zv m1_3))),(.d (D.list t2 (List.map Zr m1_4))),(.d (D.list t3 (List.map Zz m1_5)))])]=some ((ZbV t0 t1 t2 t3 b m1_0 m1_1 m1_2 m1_3 m1_4 m1_5) r):=by
 refine Z1 (ZbV t0 t1 t2 t3 b m1_0 m1_1 m1_2 m1_3 m1_4 m1_5) ?_
 intro s19 rcl ih
 show ZG _ _ (lpW _ _ _ _ _ _ _)
 unfold Zbd
 rw[Z2]
 conv=>arg 3;whnf
 refine Ze _ (Zey _) fun r24 hr24=>?_;conv=>arg 3;whnf
 refine Ze _ (Zef _) fun r29 hr29=>?_;conv=>arg 3;whnf
 refine Zd rfl ?_ ?_<;>conv=>arg 3;whnf
 ·exact Zc rfl
 ·refine Zl rfl rfl fun x30 hx30=>?_;conv=>arg 3;whnf
  refine Zg (ZD rfl hx30) ?_;conv=>arg 3;whnf
  refine Zl rfl rfl fun x31 hx31=>?_;conv=>arg 3;whnf
  refine Zg (ZD rfl hx31) ?_;conv=>arg 3;whnf
  refine Zg (Za7 rfl hx31) ?_;conv=>arg 3;whnf
  refine Zg (ZD rfl hx31) ?_;conv=>arg 3;whnf
  refine Zk (ZaE Zb s19.2.2 r24.toNat x30) ?_;conv=>arg 3;whnf
  refine Zl rfl rfl fun x32 hx32=>?_;conv=>arg 3;whnf
  refine Zg (ZD rfl hx32) ?_;conv=>arg 3;whnf
  refine Zk (ZaE Zb (List.set s19.2.2 r24.toNat x30) r29.toNat x31) ?_;conv=>arg 3;whnf
  exact Zf (ih _)
theorem Zo {t0:Bool}{t1:Bool}{t2:Bool}{t3:Bool}{b:Int}{c:Int}{d:Int}{m0_0:(List Int)}{m1_0:Int}{m1_1:Int}{m1_2:(List ZV)}{m1_3:(List Zn)}{m1_4:(List Zm)}{m1_5:(List Zs)}:∀r,(Zu b c d (fun z0 z1=>Zw z0 z1 m1_4) m0_0)=some r→evW ctx 127 [(.sl 0 1),(.d (Zb b)),(.d (Zb c)),(.d (Zb d)),(.fn 106 [(.ptr 1 0)])] [(.arr 1 (List.map Zb m0_0)),(.cells [(.d (Zb m1_0)),(.d (Zb m1_1)),(.d (D.list t0 (List.map Z8 m1_2))),(.d (D.list t1 (List.map Zv m1_3))),(.d (D.list t2 (List.map Zr m1_4))),(.d (D.list t3 (List.map Zz m1_5)))])]=some ((Zcq t0 t1 t2 t3 b c d m0_0 m1_0 m1_1 m1_2 m1_3 m1_4 m1_5) r):=by
 show ZG _ (fun r rhs=>rhs=some ((Zcq t0 t1 t2 t3 b c d m0_0 m1_0 m1_1 m1_2 m1_3 m1_4 m1_5) r)) _
 unfold Zu
 rw[Zgw ctx 127 ZBw _ _ rfl rfl]
 conv=>arg 3;whnf
 refine Zl rfl rfl fun x0 hx0=>?_;conv=>arg 3;whnf
 refine Zg (ZD rfl hx0) ?_;conv=>arg 3;whnf
 refine Zl rfl rfl fun x1 hx1=>?_;conv=>arg 3;whnf
 refine Zg (ZD rfl hx1) ?_;conv=>arg 3;whnf
 refine Zg (Za7 rfl hx1) ?_;conv=>arg 3;whnf
 refine Zg (ZD rfl hx1) ?_;conv=>arg 3;whnf
 refine Zk (ZaE Zb m0_0 b.toNat x0) ?_;conv=>arg 3;whnf
 refine Zl rfl rfl fun x2 hx2=>?_;conv=>arg 3;whnf
 refine Zg (ZD rfl hx2) ?_;conv=>arg 3;whnf
 refine Zk (ZaE Zb (List.set m0_0 b.toNat x0) d.toNat x1) ?_;conv=>arg 3;whnf
 refine Ze _ (Zer _) fun r7 hr7=>?_;conv=>arg 3;whnf
 refine Ze _ (Zen _) fun r12 hr12=>?_;conv=>arg 3;whnf
 refine Zd rfl ?_ ?_<;>conv=>arg 3;whnf
 ·refine Zl rfl rfl fun x13 hx13=>?_;conv=>arg 3;whnf
  refine Zg (ZD rfl hx13) ?_;conv=>arg 3;whnf
  refine Zl rfl rfl fun x14 hx14=>?_;conv=>arg 3;whnf
  refine Zg (ZD rfl hx14) ?_;conv=>arg 3;whnf
  refine Zg (Za7 rfl hx14) ?_;conv=>arg 3;whnf
  refine Zg (ZD rfl hx14) ?_;conv=>arg 3;whnf
  refine Zk (ZaE Zb (List.set (List.set m0_0 b.toNat x0) d.toNat x1) r12.toNat x13) ?_;conv=>arg 3;whnf
  refine Zl rfl rfl fun x15 hx15=>?_;conv=>arg 3;whnf
  refine Zg (ZD rfl hx15) ?_;conv=>arg 3;whnf
  refine Zk (ZaE Zb (List.set (List.set (List.set m0_0 b.toNat x0) d.toNat x1) r12.toNat x13) b.toNat x14) ?_;conv=>arg 3;whnf
  exact Zc rfl
 ·refine Zl rfl rfl fun x16 hx16=>?_;conv=>arg 3;whnf
  refine Zg (ZD rfl hx16) ?_;conv=>arg 3;whnf
  refine Zl rfl rfl fun x17 hx17=>?_;conv=>arg 3;whnf
  refine Zg (ZD rfl hx17) ?_;conv=>arg 3;whnf
  refine Zg (Za7 rfl hx17) ?_;conv=>arg 3;whnf
  refine Zg (ZD rfl hx17) ?_;conv=>arg 3;whnf
  refine Zk (ZaE Zb (List.set (List.set m0_0 b.toNat x0) d.toNat x1) r7.toNat x16) ?_;conv=>arg 3;whnf
  refine Zl rfl rfl fun x18 hx18=>?_;conv=>arg 3;whnf
  refine Zg (ZD rfl hx18) ?_;conv=>arg 3;whnf
  refine Zk (ZaE Zb (List.set (List.set (List.set m0_0 b.toNat x0) d.toNat x1) r7.toNat x16) r12.toNat x17) ?_;conv=>arg 3;whnf
  refine Ze _ (Zew _) fun r33 hr33=>?_;conv=>arg 3;whnf
  refine Zl rfl rfl fun x34 hx34=>?_;conv=>arg 3;whnf
  refine Zg (ZD rfl hx34) ?_;conv=>arg 3;whnf
  refine Zl rfl rfl fun x35 hx35=>?_;conv=>arg 3;whnf
  refine Zg (ZD rfl hx35) ?_;conv=>arg 3;whnf
  refine Zg (Za7 rfl hx35) ?_;conv=>arg 3;whnf
  refine Zg (ZD rfl hx35) ?_;conv=>arg 3;whnf
  refine Zk (ZaE Zb r33.2 r33.1.toNat x34) ?_;conv=>arg 3;whnf
  refine Zl rfl rfl fun x36 hx36=>?_;conv=>arg 3;whnf
  refine Zg (ZD rfl hx36) ?_;conv=>arg 3;whnf
  refine Zk (ZaE Zb (List.set r33.2 r33.1.toNat x34) b.toNat x35) ?_;conv=>arg 3;whnf
  exact Zc rfl
def ZbN (t0:Bool) (t1:Bool) (t2:Bool) (t3:Bool) (b:Int) (c:Int) (d:Int) (m0_0:(List Int)) (m1_0:Int) (m1_1:Int) (m1_2:(List ZV)) (m1_3:(List Zn)) (m1_4:(List Zm)) (m1_5:(List Zs)):(Int×(List Int))→V×Zp
  | r=>((.d (Zb r.1)),[(.arr 1 (List.map Zb r.2)),(.cells [(.d (Zb m1_0)),(.d (Zb m1_1)),(.d (D.list t0 (List.map Z8 m1_2))),(.d (D.list t1 (List.map Zv m1_3))),(.d (D.list t2 (List.map Zr m1_4))),(.d (D.list t3 (List.map Zz m1_5)))])])
def Zbw (t0:Bool) (t1:Bool) (t2:Bool) (t3:Bool) (b:Int) (m1_0:Int) (m1_1:Int) (m1_2:(List ZV)) (m1_3:(List Zn)) (m1_4:(List Zm)) (m1_5:(List Zs)) (s3:Int×Int×(List Int)):Int→Ex×List V×Zp
  | r=>(.exit 2,[(.sl 0 1),(.d (Zb b)),(.fn 106 [(.ptr 1 0)]),(.d (Zb r)),(.d (Zb s3.2.1))],[(.arr 1 (List.map Zb s3.2.2)),(.cells [(.d (Zb m1_0)),(.d (Zb m1_1)),(.d (D.list t0 (List.map Z8 m1_2))),(.d (D.list t1 (List.map Zv m1_3))),(.d (D.list t2 (List.map Zr m1_4))),(.d (D.list t3 (List.map Zz m1_5)))])])
theorem Zdz {t0:Bool}{t1:Bool}{t2:Bool}{t3:Bool}{b:Int}{m1_0:Int}{m1_1:Int}{m1_2:(List ZV)}{m1_3:(List Zn)}{m1_4:(List Zm)}{m1_5:(List Zs)}{s3:Int×Int×(List Int)}:∀(s4:Int) (r:Int),lp (Zao b (fun z0 z1=>Zw z0 z1 m1_4) s3) s4=some r→lpW ctx 2 [0,1,4,11,12] [0,1,4,11,12] ZxW [(.sl 0 1),(.d (Zb b)),(.fn 106 [(.ptr 1 0)]),(.d (Zb s4)),(.d (Zb s3.2.1))] [(.arr 1 (List.map Zb s3.2.2)),(.cells [(.d (Zb m1_0)),(.d (Zb m1_1)),(.d (D.list t0 (List.map Z8 m1_2))),(.d (D.list t1 (List.map Zv m1_3))),(.d (D.list t2 (List.map Zr m1_4))),(.d (D.list t3 (List.map Zz m1_5)))])]=some ((Zbw t0 t1 t2 t3 b m1_0 m1_1 m1_2 m1_3 m1_4 m1_5 s3) r):=by
 refine Z1 (Zbw t0 t1 t2 t3 b m1_0 m1_1 m1_2 m1_3 m1_4 m1_5 s3) ?_
 intro s4 rcl ih
 show ZG _ _ (lpW _ _ _ _ _ _ _)
 unfold Zao
 rw[Z2]
 conv=>arg 3;whnf
 refine Zd rfl ?_ ?_<;>conv=>arg 3;whnf
 ·refine Zl rfl rfl fun x5 hx5=>?_;conv=>arg 3;whnf
  refine Zg (ZD rfl hx5) ?_;conv=>arg 3;whnf
  refine Zl rfl rfl fun x6 hx6=>?_;conv=>arg 3;whnf
  refine Zg (ZD rfl hx6) ?_;conv=>arg 3;whnf
  refine Zj _ ZJ rfl fun x7 hx7=>?_;conv=>arg 3;whnf
  refine Zd rfl ?_ ?_<;>conv=>arg 3;whnf
  ·exact Zc rfl
  ·exact Zf (ih _)
 ·exact Zc rfl
def Zbx (t0:Bool) (t1:Bool) (t2:Bool) (t3:Bool) (b:Int) (m1_0:Int) (m1_1:Int) (m1_2:(List ZV)) (m1_3:(List Zn)) (m1_4:(List Zm)) (m1_5:(List Zs)) (s3:Int×Int×(List Int)) (r8:Int):Int→Ex×List V×Zp
  | r=>(.exit 4,[(.sl 0 1),(.d (Zb b)),(.fn 106 [(.ptr 1 0)]),(.d (Zb r8)),(.d (Zb r))],[(.arr 1 (List.map Zb s3.2.2)),(.cells [(.d (Zb m1_0)),(.d (Zb m1_1)),(.d (D.list t0 (List.map Z8 m1_2))),(.d (D.list t1 (List.map Zv m1_3))),(.d (D.list t2 (List.map Zr m1_4))),(.d (D.list t3 (List.map Zz m1_5)))])])
theorem ZdD {t0:Bool}{t1:Bool}{t2:Bool}{t3:Bool}{b:Int}{m1_0:Int}{m1_1:Int}{m1_2:(List ZV)}{m1_3:(List Zn)}{m1_4:(List Zm)}{m1_5:(List Zs)}{s3:Int×Int×(List Int)}{r8:Int}:∀(s9:Int) (r:Int),lp (Zap b (fun z0 z1=>Zw z0 z1 m1_4) s3 r8) s9=some r→lpW ctx 2 [0,1,4,11,12] [0,1,4,11,12] ZxS [(.sl 0 1),(.d (Zb b)),(.fn 106 [(.ptr 1 0)]),(.d (Zb r8)),(.d (Zb s9))] [(.arr 1 (List.map Zb s3.2.2)),(.cells [(.d (Zb m1_0)),(.d (Zb m1_1)),(.d (D.list t0 (List.map Z8 m1_2))),(.d (D.list t1 (List.map Zv m1_3))),(.d (D.list t2 (List.map Zr m1_4))),(.d (D.list t3 (List.map Zz m1_5)))])]=some ((Zbx t0 t1 t2 t3 b m1_0 m1_1 m1_2 m1_3 m1_4 m1_5 s3 r8) r):=by
 refine Z1 (Zbx t0 t1 t2 t3 b m1_0 m1_1 m1_2 m1_3 m1_4 m1_5 s3 r8) ?_
 intro s9 rcl ih
 show ZG _ _ (lpW _ _ _ _ _ _ _)
 unfold Zap
 rw[Z2]
 conv=>arg 3;whnf
 refine Zd rfl ?_ ?_<;>conv=>arg 3;whnf
 ·refine Zl rfl rfl fun x10 hx10=>?_;conv=>arg 3;whnf
  refine Zg (ZD rfl hx10) ?_;conv=>arg 3;whnf
  refine Zl rfl rfl fun x11 hx11=>?_;conv=>arg 3;whnf
  refine Zg (ZD rfl hx11) ?_;conv=>arg 3;whnf
  refine Zj _ ZJ rfl fun x12 hx12=>?_;conv=>arg 3;whnf
  refine Zd rfl ?_ ?_<;>conv=>arg 3;whnf
  ·exact Zf (ih _)
  ·exact Zc rfl
 ·exact Zc rfl
def Zbv (t0:Bool) (t1:Bool) (t2:Bool) (t3:Bool) (b:Int) (m1_0:Int) (m1_1:Int) (m1_2:(List ZV)) (m1_3:(List Zn)) (m1_4:(List Zm)) (m1_5:(List Zs)):(Int×(List Int))→Ex×List V×Zp
  | r=>(.exit 0,[(.d (Zb r.1))],[(.arr 1 (List.map Zb r.2)),(.cells [(.d (Zb m1_0)),(.d (Zb m1_1)),(.d (D.list t0 (List.map Z8 m1_2))),(.d (D.list t1 (List.map Zv m1_3))),(.d (D.list t2 (List.map Zr m1_4))),(.d (D.list t3 (List.map Zz m1_5)))])])
theorem ZdA {t0:Bool}{t1:Bool}{t2:Bool}{t3:Bool}{b:Int}{m1_0:Int}{m1_1:Int}{m1_2:(List ZV)}{m1_3:(List Zn)}{m1_4:(List Zm)}{m1_5:(List Zs)}:∀(s3:Int×Int×(List Int)) (r:(Int×(List Int))),lp (ZaI b (fun z0 z1=>Zw z0 z1 m1_4)) s3=some r→lpW ctx 2 [0,1,4,11,12] [11] ZyK [(.sl 0 1),(.d (Zb b)),(.fn 106 [(.ptr 1 0)]),(.d (Zb s3.1)),(.d (Zb s3.2.1))] [(.arr 1 (List.map Zb s3.2.2)),(.cells [(.d (Zb m1_0)),(.d (Zb m1_1)),(.d (D.list t0 (List.map Z8 m1_2))),(.d (D.list t1 (List.map Zv m1_3))),(.d (D.list t2 (List.map Zr m1_4))),(.d (D.list t3 (List.map Zz m1_5)))])]=some ((Zbv t0 t1 t2 t3 b m1_0 m1_1 m1_2 m1_3 m1_4 m1_5) r):=by
 refine Z1 (Zbv t0 t1 t2 t3 b m1_0 m1_1 m1_2 m1_3 m1_4 m1_5) ?_
 intro s3 rcl ih
 show ZG _ _ (lpW _ _ _ _ _ _ _)
 unfold ZaI
 rw[Z2]
 conv=>arg 3;whnf
 refine Ze _ (Zdz _) fun r8 hr8=>?_;conv=>arg 3;whnf
 refine Ze _ (ZdD _) fun r13 hr13=>?_;conv=>arg 3;whnf
 refine Zd rfl ?_ ?_<;>conv=>arg 3;whnf
 ·exact Zc rfl
 ·refine Zl rfl rfl fun x14 hx14=>?_;conv=>arg 3;whnf
  refine Zg (ZD rfl hx14) ?_;conv=>arg 3;whnf
  refine Zl rfl rfl fun x15 hx15=>?_;conv=>arg 3;whnf
  refine Zg (ZD rfl hx15) ?_;conv=>arg 3;whnf
  refine Zg (Za7 rfl hx15) ?_;conv=>arg 3;whnf
  refine Zg (ZD rfl hx15) ?_;conv=>arg 3;whnf
  refine Zk (ZaE Zb s3.2.2 r8.toNat x14) ?_;conv=>arg 3;whnf
  refine Zl rfl rfl fun x16 hx16=>?_;conv=>arg 3;whnf
  refine Zg (ZD rfl hx16) ?_;conv=>arg 3;whnf
  refine Zk (ZaE Zb (List.set s3.2.2 r8.toNat x14) r13.toNat x15) ?_;conv=>arg 3;whnf
  exact Zf (ih _)
theorem ZF {t0:Bool}{t1:Bool}{t2:Bool}{t3:Bool}{b:Int}{c:Int}{d:Int}{m0_0:(List Int)}{m1_0:Int}{m1_1:Int}{m1_2:(List ZV)}{m1_3:(List Zn)}{m1_4:(List Zm)}{m1_5:(List Zs)}:∀r,(ZI b c d (fun z0 z1=>Zw z0 z1 m1_4) m0_0)=some r→evW ctx 126 [(.sl 0 1),(.d (Zb b)),(.d (Zb c)),(.d (Zb d)),(.fn 106 [(.ptr 1 0)])] [(.arr 1 (List.map Zb m0_0)),(.cells [(.d (Zb m1_0)),(.d (Zb m1_1)),(.d (D.list t0 (List.map Z8 m1_2))),(.d (D.list t1 (List.map Zv m1_3))),(.d (D.list t2 (List.map Zr m1_4))),(.d (D.list t3 (List.map Zz m1_5)))])]=some ((ZbN t0 t1 t2 t3 b c d m0_0 m1_0 m1_1 m1_2 m1_3 m1_4 m1_5) r):=by
 show ZG _ (fun r rhs=>rhs=some ((ZbN t0 t1 t2 t3 b c d m0_0 m1_0 m1_1 m1_2 m1_3 m1_4 m1_5) r)) _
 unfold ZI
 rw[Zgw ctx 126 ZBr _ _ rfl rfl]
 conv=>arg 3;whnf
 refine Zl rfl rfl fun x0 hx0=>?_;conv=>arg 3;whnf
 refine Zg (ZD rfl hx0) ?_;conv=>arg 3;whnf
 refine Zl rfl rfl fun x1 hx1=>?_;conv=>arg 3;whnf
 refine Zg (ZD rfl hx1) ?_;conv=>arg 3;whnf
 refine Zg (Za7 rfl hx1) ?_;conv=>arg 3;whnf
 refine Zg (ZD rfl hx1) ?_;conv=>arg 3;whnf
 refine Zk (ZaE Zb m0_0 b.toNat x0) ?_;conv=>arg 3;whnf
 refine Zl rfl rfl fun x2 hx2=>?_;conv=>arg 3;whnf
 refine Zg (ZD rfl hx2) ?_;conv=>arg 3;whnf
 refine Zk (ZaE Zb (List.set m0_0 b.toNat x0) d.toNat x1) ?_;conv=>arg 3;whnf
 refine Ze _ (ZdA _) fun r17 hr17=>?_;conv=>arg 3;whnf
 exact Zc rfl
def ZgY (r:Int):D:=(D.int .u64 r)
theorem Zjr {a:Int}:∀r,(ZcL a)=some r→evD ctx 140 [(.d (Zb a))]=some (ZgY r):=by
 show ZG _ (fun r rhs=>rhs=some (ZgY r)) _
 unfold ZcL
 rw[Z4 ctx 140 ZBz _ rfl rfl]
 conv=>arg 3;whnf
 refine Zj _ ZjY rfl fun x0 hx0=>?_;conv=>arg 3;whnf
 refine Zd rfl ?_ ?_
 ·exact ZQ
 ·conv=>arg 3;whnf
  exact Zc rfl
def Zg6 (m0_0:Int):Unit→V×Zp
  | r=>((.d (D.int .u64 (IntKind.u64.wrap (BitVec.ofInt IntKind.u64.bits (IntKind.u64.wrap (BitVec.ofInt IntKind.u64.bits (IntKind.u64.wrap (BitVec.ofInt IntKind.u64.bits m0_0 ^^^ BitVec.ofInt IntKind.u64.bits (IntKind.u64.wrap (m0_0*2 ^ 13))).toNat) ^^^ BitVec.ofInt IntKind.u64.bits (Int.fdiv (IntKind.u64.wrap (BitVec.ofInt IntKind.u64.bits m0_0 ^^^ BitVec.ofInt IntKind.u64.bits (IntKind.u64.wrap (m0_0*2 ^ 13))).toNat) (2 ^ 7))).toNat) ^^^ BitVec.ofInt IntKind.u64.bits (IntKind.u64.wrap ((IntKind.u64.wrap (BitVec.ofInt IntKind.u64.bits (IntKind.u64.wrap (BitVec.ofInt IntKind.u64.bits m0_0 ^^^ BitVec.ofInt IntKind.u64.bits (IntKind.u64.wrap (m0_0*2 ^ 13))).toNat) ^^^ BitVec.ofInt IntKind.u64.bits (Int.fdiv (IntKind.u64.wrap (BitVec.ofInt IntKind.u64.bits m0_0 ^^^ BitVec.ofInt IntKind.u64.bits (IntKind.u64.wrap (m0_0*2 ^ 13))).toNat) (2 ^ 7))).toNat)*2 ^ 17))).toNat))),[(.cells [(.d (D.int .u64 (IntKind.u64.wrap (BitVec.ofInt IntKind.u64.bits (IntKind.u64.wrap (BitVec.ofInt IntKind.u64.bits (IntKind.u64.wrap (BitVec.ofInt IntKind.u64.bits m0_0 ^^^ BitVec.ofInt IntKind.u64.bits (IntKind.u64.wrap (m0_0*2 ^ 13))).toNat) ^^^ BitVec.ofInt IntKind.u64.bits (Int.fdiv (IntKind.u64.wrap (BitVec.ofInt IntKind.u64.bits m0_0 ^^^ BitVec.ofInt IntKind.u64.bits (IntKind.u64.wrap (m0_0*2 ^ 13))).toNat) (2 ^ 7))).toNat) ^^^ BitVec.ofInt IntKind.u64.bits (IntKind.u64.wrap ((IntKind.u64.wrap (BitVec.ofInt IntKind.u64.bits (IntKind.u64.wrap (BitVec.ofInt IntKind.u64.bits m0_0 ^^^ BitVec.ofInt IntKind.u64.bits (IntKind.u64.wrap (m0_0*2 ^ 13))).toNat) ^^^ BitVec.ofInt IntKind.u64.bits (Int.fdiv (IntKind.u64.wrap (BitVec.ofInt IntKind.u64.bits m0_0 ^^^ BitVec.ofInt IntKind.u64.bits (IntKind.u64.wrap (m0_0*2 ^ 13))).toNat) (2 ^ 7))).toNat)*2 ^ 17))).toNat)))])])
theorem Zka {m0_0:Int}:∀r,Zd3=some r→evW ctx 141 [(.ptr 0 0)] [(.cells [(.d (D.int .u64 m0_0))])]=some ((Zg6 m0_0) r):=by
 show ZG _ (fun r rhs=>rhs=some ((Zg6 m0_0) r)) _
 unfold Zd3
 rw[Zgw ctx 141 ZBj _ _ rfl rfl]
 conv=>arg 3;whnf
 refine Z6 rfl ?_;conv=>arg 3;whnf
 refine Z6 rfl ?_;conv=>arg 3;whnf
 refine Z6 rfl ?_;conv=>arg 3;whnf
 exact Zc rfl
def ZbQ (t0:Bool) (t1:Bool) (t2:Bool) (t3:Bool) (b:Int) (c:Int) (m0_0:(List Int)) (m1_0:Int) (m1_1:Int) (m1_2:(List ZV)) (m1_3:(List Zn)) (m1_4:(List Zm)) (m1_5:(List Zs)):(List Int)→V×Zp
  | r=>((.d (D.tup [])),[(.arr 1 (List.map Zb r)),(.cells [(.d (Zb m1_0)),(.d (Zb m1_1)),(.d (D.list t0 (List.map Z8 m1_2))),(.d (D.list t1 (List.map Zv m1_3))),(.d (D.list t2 (List.map Zr m1_4))),(.d (D.list t3 (List.map Zz m1_5)))])])
def Zbz (t0:Bool) (t1:Bool) (t2:Bool) (t3:Bool) (b:Int) (c:Int) (m1_0:Int) (m1_1:Int) (m1_2:(List ZV)) (m1_3:(List Zn)) (m1_4:(List Zm)) (m1_5:(List Zs)) (x0:Int):(List Int)→Ex×List V×Zp
  | r=>(.exit 0,[],[(.arr 1 (List.map Zb r)),(.cells [(.d (Zb m1_0)),(.d (Zb m1_1)),(.d (D.list t0 (List.map Z8 m1_2))),(.d (D.list t1 (List.map Zv m1_3))),(.d (D.list t2 (List.map Zr m1_4))),(.d (D.list t3 (List.map Zz m1_5)))])])
theorem ZdH {t0:Bool}{t1:Bool}{t2:Bool}{t3:Bool}{b:Int}{c:Int}{m1_0:Int}{m1_1:Int}{m1_2:(List ZV)}{m1_3:(List Zn)}{m1_4:(List Zm)}{m1_5:(List Zs)}{x0:Int}:∀(s1:Int×(List Int)×Int) (r:(List Int)),lp (ZaQ b c x0) s1=some r→lpW ctx 2 [0,1,8,9,10,11] [] ZyB [(.sl 0 1),(.d (Zb b)),(.d (Zb (w64 (c-b)))),(.ptr 2 0),(.d (D.int .u64 x0)),(.d (Zb s1.1))] [(.arr 1 (List.map Zb s1.2.1)),(.cells [(.d (Zb m1_0)),(.d (Zb m1_1)),(.d (D.list t0 (List.map Z8 m1_2))),(.d (D.list t1 (List.map Zv m1_3))),(.d (D.list t2 (List.map Zr m1_4))),(.d (D.list t3 (List.map Zz m1_5)))]),(.cells [(.d (D.int .u64 s1.2.2))])]=some ((Zbz t0 t1 t2 t3 b c m1_0 m1_1 m1_2 m1_3 m1_4 m1_5 x0) r):=by
 refine Z1 (Zbz t0 t1 t2 t3 b c m1_0 m1_1 m1_2 m1_3 m1_4 m1_5 x0) ?_
 intro s1 rcl ih
 show ZG _ _ (lpW _ _ _ _ _ _ _)
 unfold ZaQ
 rw[Z2]
 conv=>arg 3;whnf
 refine Z6 rfl ?_;conv=>arg 3;whnf
 refine Zd rfl ?_ ?_<;>conv=>arg 3;whnf
 ·refine Ze _ Zka fun x2 hx2=>?_;conv=>arg 3;whnf
  refine Zd rfl ?_ ?_<;>conv=>arg 3;whnf
  ·refine Zl rfl rfl fun x3 hx3=>?_;conv=>arg 3;whnf
   refine Zg (ZD rfl hx3) ?_;conv=>arg 3;whnf
   refine Zl rfl rfl fun x4 hx4=>?_;conv=>arg 3;whnf
   refine Zg (ZD rfl hx4) ?_;conv=>arg 3;whnf
   refine Zg (Za7 rfl hx4) ?_;conv=>arg 3;whnf
   refine Zg (ZD rfl hx4) ?_;conv=>arg 3;whnf
   refine Zk (ZaE Zb s1.2.1 s1.1.toNat x3) ?_;conv=>arg 3;whnf
   refine Zl rfl rfl fun x5 hx5=>?_;conv=>arg 3;whnf
   refine Zg (ZD rfl hx5) ?_;conv=>arg 3;whnf
   refine Zk (ZaE Zb (List.set s1.2.1 s1.1.toNat x3) (w64 (b+(w64 ((w64 (IntKind.u64.wrap (BitVec.ofInt IntKind.u64.bits (IntKind.u64.wrap (BitVec.ofInt IntKind.u64.bits (IntKind.u64.wrap (BitVec.ofInt IntKind.u64.bits (IntKind.u64.wrap (BitVec.ofInt IntKind.u64.bits s1.2.2 ^^^ BitVec.ofInt IntKind.u64.bits (IntKind.u64.wrap (s1.2.2*2 ^ 13))).toNat) ^^^ BitVec.ofInt IntKind.u64.bits (Int.fdiv (IntKind.u64.wrap (BitVec.ofInt IntKind.u64.bits s1.2.2 ^^^ BitVec.ofInt IntKind.u64.bits (IntKind.u64.wrap (s1.2.2*2 ^ 13))).toNat) (2 ^ 7))).toNat) ^^^ BitVec.ofInt IntKind.u64.bits (IntKind.u64.wrap ((IntKind.u64.wrap (BitVec.ofInt IntKind.u64.bits (IntKind.u64.wrap (BitVec.ofInt IntKind.u64.bits s1.2.2 ^^^ BitVec.ofInt IntKind.u64.bits (IntKind.u64.wrap (s1.2.2*2 ^ 13))).toNat) ^^^ BitVec.ofInt IntKind.u64.bits (Int.fdiv (IntKind.u64.wrap (BitVec.ofInt IntKind.u64.bits s1.2.2 ^^^ BitVec.ofInt IntKind.u64.bits (IntKind.u64.wrap (s1.2.2*2 ^ 13))).toNat) (2 ^ 7))).toNat)*2 ^ 17))).toNat) &&& BitVec.ofInt IntKind.u64.bits (IntKind.u64.wrap (x0-1))).toNat))-(w64 (c-b)))))).toNat x4) ?_;conv=>arg 3;whnf
   exact Zf (ih _)
  ·refine Zl rfl rfl fun x6 hx6=>?_;conv=>arg 3;whnf
   refine Zg (ZD rfl hx6) ?_;conv=>arg 3;whnf
   refine Zl rfl rfl fun x7 hx7=>?_;conv=>arg 3;whnf
   refine Zg (ZD rfl hx7) ?_;conv=>arg 3;whnf
   refine Zg (Za7 rfl hx7) ?_;conv=>arg 3;whnf
   refine Zg (ZD rfl hx7) ?_;conv=>arg 3;whnf
   refine Zk (ZaE Zb s1.2.1 s1.1.toNat x6) ?_;conv=>arg 3;whnf
   refine Zl rfl rfl fun x8 hx8=>?_;conv=>arg 3;whnf
   refine Zg (ZD rfl hx8) ?_;conv=>arg 3;whnf
   refine Zk (ZaE Zb (List.set s1.2.1 s1.1.toNat x6) (w64 (b+(w64 (IntKind.u64.wrap (BitVec.ofInt IntKind.u64.bits (IntKind.u64.wrap (BitVec.ofInt IntKind.u64.bits (IntKind.u64.wrap (BitVec.ofInt IntKind.u64.bits (IntKind.u64.wrap (BitVec.ofInt IntKind.u64.bits s1.2.2 ^^^ BitVec.ofInt IntKind.u64.bits (IntKind.u64.wrap (s1.2.2*2 ^ 13))).toNat) ^^^ BitVec.ofInt IntKind.u64.bits (Int.fdiv (IntKind.u64.wrap (BitVec.ofInt IntKind.u64.bits s1.2.2 ^^^ BitVec.ofInt IntKind.u64.bits (IntKind.u64.wrap (s1.2.2*2 ^ 13))).toNat) (2 ^ 7))).toNat) ^^^ BitVec.ofInt IntKind.u64.bits (IntKind.u64.wrap ((IntKind.u64.wrap (BitVec.ofInt IntKind.u64.bits (IntKind.u64.wrap (BitVec.ofInt IntKind.u64.bits s1.2.2 ^^^ BitVec.ofInt IntKind.u64.bits (IntKind.u64.wrap (s1.2.2*2 ^ 13))).toNat) ^^^ BitVec.ofInt IntKind.u64.bits (Int.fdiv (IntKind.u64.wrap (BitVec.ofInt IntKind.u64.bits s1.2.2 ^^^ BitVec.ofInt IntKind.u64.bits (IntKind.u64.wrap (s1.2.2*2 ^ 13))).toNat) (2 ^ 7))).toNat)*2 ^ 17))).toNat) &&& BitVec.ofInt IntKind.u64.bits (IntKind.u64.wrap (x0-1))).toNat)))).toNat x7) ?_;conv=>arg 3;whnf
   exact Zf (ih _)
 ·exact Zc rfl
theorem ZbO {t0:Bool}{t1:Bool}{t2:Bool}{t3:Bool}{b:Int}{c:Int}{m0_0:(List Int)}{m1_0:Int}{m1_1:Int}{m1_2:(List ZV)}{m1_3:(List Zn)}{m1_4:(List Zm)}{m1_5:(List Zs)}:∀r,(Zal b c (fun z0 z1=>Zw z0 z1 m1_4) m0_0)=some r→evW ctx 122 [(.sl 0 1),(.d (Zb b)),(.d (Zb c)),(.fn 106 [(.ptr 1 0)])] [(.arr 1 (List.map Zb m0_0)),(.cells [(.d (Zb m1_0)),(.d (Zb m1_1)),(.d (D.list t0 (List.map Z8 m1_2))),(.d (D.list t1 (List.map Zv m1_3))),(.d (D.list t2 (List.map Zr m1_4))),(.d (D.list t3 (List.map Zz m1_5)))])]=some ((ZbQ t0 t1 t2 t3 b c m0_0 m1_0 m1_1 m1_2 m1_3 m1_4 m1_5) r):=by
 show ZG _ (fun r rhs=>rhs=some ((ZbQ t0 t1 t2 t3 b c m0_0 m1_0 m1_1 m1_2 m1_3 m1_4 m1_5) r)) _
 unfold Zal
 rw[Zgw ctx 122 ZzT _ _ rfl rfl]
 conv=>arg 3;whnf
 refine Zd rfl ?_ ?_<;>conv=>arg 3;whnf
 ·refine Zj _ Zjr rfl fun x0 hx0=>?_;conv=>arg 3;whnf
  refine Z6 rfl ?_;conv=>arg 3;whnf
  refine Ze _ (ZdH _) fun r9 hr9=>?_;conv=>arg 3;whnf
  exact Zc rfl
 ·exact Zc rfl
def Za (t0:Bool) (t1:Bool) (t2:Bool) (t3:Bool) (b:Int) (c:Int) (d:Int) (m0_0:(List Int)) (m1_0:Int) (m1_1:Int) (m1_2:(List ZV)) (m1_3:(List Zn)) (m1_4:(List Zm)) (m1_5:(List Zs)):(List Int)→V×Zp
  | r=>((.d (D.tup [])),[(.arr 1 (List.map Zb r)),(.cells [(.d (Zb m1_0)),(.d (Zb m1_1)),(.d (D.list t0 (List.map Z8 m1_2))),(.d (D.list t1 (List.map Zv m1_3))),(.d (D.list t2 (List.map Zr m1_4))),(.d (D.list t3 (List.map Zz m1_5)))])])
def Zcj (t0:Bool) (t1:Bool) (t2:Bool) (t3:Bool) (m1_0:Int) (m1_1:Int) (m1_2:(List ZV)) (m1_3:(List Zn)) (m1_4:(List Zm)) (m1_5:(List Zs)) (rc:Int→Int→Int→(Int→Int→Option Int)→(List Int)→Option (List Int)):(List Int)→Ex×List V×Zp
  | r=>(.ret,[],[(.arr 1 (List.map Zb r)),(.cells [(.d (Zb m1_0)),(.d (Zb m1_1)),(.d (D.list t0 (List.map Z8 m1_2))),(.d (D.list t1 (List.map Zv m1_3))),(.d (D.list t2 (List.map Zr m1_4))),(.d (D.list t3 (List.map Zz m1_5)))])])
theorem ZeS {t0:Bool}{t1:Bool}{t2:Bool}{t3:Bool}{m1_0:Int}{m1_1:Int}{m1_2:(List ZV)}{m1_3:(List Zn)}{m1_4:(List Zm)}{m1_5:(List Zs)}{rc:Int→Int→Int→(Int→Int→Option Int)→(List Int)→Option (List Int)} (hrc:∀(t0:Bool) (t1:Bool) (t2:Bool) (t3:Bool) (b:Int) (c:Int) (d:Int) (m0_0:(List Int)) (m1_0:Int) (m1_1:Int) (m1_2:(List ZV)) (m1_3:(List Zn)) (m1_4:(List Zm)) (m1_5:(List Zs)) (r:(List Int)),rc b c d (fun z0 z1=>Zw z0 z1 m1_4) m0_0=some r→evW ctx 117 [(.sl 0 1),(.d (Zb b)),(.d (Zb c)),(.d (Zb d)),(.fn 106 [(.ptr 1 0)])] [(.arr 1 (List.map Zb m0_0)),(.cells [(.d (Zb m1_0)),(.d (Zb m1_1)),(.d (D.list t0 (List.map Z8 m1_2))),(.d (D.list t1 (List.map Zv m1_3))),(.d (D.list t2 (List.map Zr m1_4))),(.d (D.list t3 (List.map Zz m1_5)))])]=some ((Za t0 t1 t2 t3 b c d m0_0 m1_0 m1_1 m1_2 m1_3 m1_4 m1_5) r)):∀(s0:Int×Int×Int×Bool×Bool×(List Int)) (r:(List Int)),lp (ZU (fun z0 z1=>Zw z0 z1 m1_4) rc) s0=some r→lpW ctx 2 [0,1,2,3,4,10,11] [] Zyk [(.sl 0 1),(.d (Zb s0.1)),(.d (Zb s0.2.1)),(.d (Zb s0.2.2.1)),(.fn 106 [(.ptr 1 0)]),(.d (D.bool s0.2.2.2.1)),(.d (D.bool s0.2.2.2.2.1))] [(.arr 1 (List.map Zb s0.2.2.2.2.2)),(.cells [(.d (Zb m1_0)),(.d (Zb m1_1)),(.d (D.list t0 (List.map Z8 m1_2))),(.d (D.list t1 (List.map Zv m1_3))),(.d (D.list t2 (List.map Zr m1_4))),(.d (D.list t3 (List.map Zz m1_5)))])]=some ((Zcj t0 t1 t2 t3 m1_0 m1_1 m1_2 m1_3 m1_4 m1_5 rc) r):=by
 refine Z1 (Zcj t0 t1 t2 t3 m1_0 m1_1 m1_2 m1_3 m1_4 m1_5 rc) ?_
 intro s0 rcl ih
 show ZG _ _ (lpW _ _ _ _ _ _ _)
 unfold ZU
 rw[Z2]
 rcases hb:s0.2.2.2.1 with _ | _
 ·refine Zxv ?_
  rcases hb:s0.2.2.2.2.1 with _ | _
  ·refine Zxv ?_;conv=>arg 3;whnf
   refine Zd rfl ?_ ?_<;>conv=>arg 3;whnf
   ·refine Ze _ Zai fun x170 hx170=>?_;conv=>arg 3;whnf
    exact Zc rfl
   ·refine Zd rfl ?_ ?_<;>conv=>arg 3;whnf
    ·refine Ze _ ZaC fun x171 hx171=>?_;conv=>arg 3;whnf
     exact Zc rfl
    ·refine Ze _ ZbO fun x172 hx172=>?_;conv=>arg 3;whnf
     refine Ze _ Zas fun x173 hx173=>?_;conv=>arg 3;whnf
     refine Zd rfl ?_ ?_<;>conv=>arg 3;whnf
     ·refine Ze _ Zaq fun x174 hx174=>?_;conv=>arg 3;whnf
      refine Zd rfl ?_ ?_<;>conv=>arg 3;whnf
      ·refine Zl rfl rfl fun x175 hx175=>?_;conv=>arg 3;whnf
       refine Zg (ZD rfl hx175) ?_;conv=>arg 3;whnf
       refine Zl rfl rfl fun x176 hx176=>?_;conv=>arg 3;whnf
       refine Zg (ZD rfl hx176) ?_;conv=>arg 3;whnf
       refine Zj _ ZJ rfl fun x177 hx177=>?_;conv=>arg 3;whnf
       refine Zd rfl ?_ ?_<;>conv=>arg 3;whnf
       ·refine Ze _ Zo fun x178 hx178=>?_
        clear hx178
        rcases x178 with x178 | x178
        ·conv=>arg 3;whnf
         refine Zah rfl ?_;conv=>arg 3;whnf
         refine Z6 rfl ?_;conv=>arg 3;whnf
         refine Zd rfl ?_ ?_<;>conv=>arg 3;whnf
         ·refine Zd rfl ?_ ?_<;>conv=>arg 3;whnf
          ·refine Ze (Za t0 t1 t2 t3 s0.1 x178.1 (w64 (s0.2.2.1-1)) x178.2 m1_0 m1_1 m1_2 m1_3 m1_4 m1_5) (hrc t0 t1 t2 t3 s0.1 x178.1 (w64 (s0.2.2.1-1)) x178.2 m1_0 m1_1 m1_2 m1_3 m1_4 m1_5) fun x179 hx179=>?_;conv=>arg 3;whnf
           exact Zf (ih _)
          ·refine Ze (Za t0 t1 t2 t3 s0.1 x178.1 (w64 (s0.2.2.1-1)) x178.2 m1_0 m1_1 m1_2 m1_3 m1_4 m1_5) (hrc t0 t1 t2 t3 s0.1 x178.1 (w64 (s0.2.2.1-1)) x178.2 m1_0 m1_1 m1_2 m1_3 m1_4 m1_5) fun x180 hx180=>?_;conv=>arg 3;whnf
           exact Zf (ih _)
         ·refine Zd rfl ?_ ?_<;>conv=>arg 3;whnf
          ·refine Ze (Za t0 t1 t2 t3 (w64 (x178.1+1)) s0.2.1 (w64 (s0.2.2.1-1)) x178.2 m1_0 m1_1 m1_2 m1_3 m1_4 m1_5) (hrc t0 t1 t2 t3 (w64 (x178.1+1)) s0.2.1 (w64 (s0.2.2.1-1)) x178.2 m1_0 m1_1 m1_2 m1_3 m1_4 m1_5) fun x181 hx181=>?_;conv=>arg 3;whnf
           exact Zf (ih _)
          ·refine Ze (Za t0 t1 t2 t3 (w64 (x178.1+1)) s0.2.1 (w64 (s0.2.2.1-1)) x178.2 m1_0 m1_1 m1_2 m1_3 m1_4 m1_5) (hrc t0 t1 t2 t3 (w64 (x178.1+1)) s0.2.1 (w64 (s0.2.2.1-1)) x178.2 m1_0 m1_1 m1_2 m1_3 m1_4 m1_5) fun x182 hx182=>?_;conv=>arg 3;whnf
           exact Zf (ih _)
        ·conv=>arg 3;whnf
         refine Z6 rfl ?_;conv=>arg 3;whnf
         refine Z6 rfl ?_;conv=>arg 3;whnf
         refine Zd rfl ?_ ?_<;>conv=>arg 3;whnf
         ·refine Zd rfl ?_ ?_<;>conv=>arg 3;whnf
          ·refine Ze (Za t0 t1 t2 t3 s0.1 x178.1 (w64 (s0.2.2.1-1)) x178.2 m1_0 m1_1 m1_2 m1_3 m1_4 m1_5) (hrc t0 t1 t2 t3 s0.1 x178.1 (w64 (s0.2.2.1-1)) x178.2 m1_0 m1_1 m1_2 m1_3 m1_4 m1_5) fun x183 hx183=>?_;conv=>arg 3;whnf
           exact Zf (ih _)
          ·refine Ze (Za t0 t1 t2 t3 s0.1 x178.1 (w64 (s0.2.2.1-1)) x178.2 m1_0 m1_1 m1_2 m1_3 m1_4 m1_5) (hrc t0 t1 t2 t3 s0.1 x178.1 (w64 (s0.2.2.1-1)) x178.2 m1_0 m1_1 m1_2 m1_3 m1_4 m1_5) fun x184 hx184=>?_;conv=>arg 3;whnf
           exact Zf (ih _)
         ·refine Zd rfl ?_ ?_<;>conv=>arg 3;whnf
          ·refine Ze (Za t0 t1 t2 t3 (w64 (x178.1+1)) s0.2.1 (w64 (s0.2.2.1-1)) x178.2 m1_0 m1_1 m1_2 m1_3 m1_4 m1_5) (hrc t0 t1 t2 t3 (w64 (x178.1+1)) s0.2.1 (w64 (s0.2.2.1-1)) x178.2 m1_0 m1_1 m1_2 m1_3 m1_4 m1_5) fun x185 hx185=>?_;conv=>arg 3;whnf
           exact Zf (ih _)
          ·refine Ze (Za t0 t1 t2 t3 (w64 (x178.1+1)) s0.2.1 (w64 (s0.2.2.1-1)) x178.2 m1_0 m1_1 m1_2 m1_3 m1_4 m1_5) (hrc t0 t1 t2 t3 (w64 (x178.1+1)) s0.2.1 (w64 (s0.2.2.1-1)) x178.2 m1_0 m1_1 m1_2 m1_3 m1_4 m1_5) fun x186 hx186=>?_;conv=>arg 3;whnf
           exact Zf (ih _)
       ·refine Ze _ ZF fun x187 hx187=>?_;conv=>arg 3;whnf
        exact Zf (ih _)
      ·refine Ze _ Zo fun x188 hx188=>?_
       clear hx188
       rcases x188 with x188 | x188
       ·conv=>arg 3;whnf
        refine Zah rfl ?_;conv=>arg 3;whnf
        refine Z6 rfl ?_;conv=>arg 3;whnf
        refine Zd rfl ?_ ?_<;>conv=>arg 3;whnf
        ·refine Zd rfl ?_ ?_<;>conv=>arg 3;whnf
         ·refine Ze (Za t0 t1 t2 t3 s0.1 x188.1 (w64 (s0.2.2.1-1)) x188.2 m1_0 m1_1 m1_2 m1_3 m1_4 m1_5) (hrc t0 t1 t2 t3 s0.1 x188.1 (w64 (s0.2.2.1-1)) x188.2 m1_0 m1_1 m1_2 m1_3 m1_4 m1_5) fun x189 hx189=>?_;conv=>arg 3;whnf
          exact Zf (ih _)
         ·refine Ze (Za t0 t1 t2 t3 s0.1 x188.1 (w64 (s0.2.2.1-1)) x188.2 m1_0 m1_1 m1_2 m1_3 m1_4 m1_5) (hrc t0 t1 t2 t3 s0.1 x188.1 (w64 (s0.2.2.1-1)) x188.2 m1_0 m1_1 m1_2 m1_3 m1_4 m1_5) fun x190 hx190=>?_;conv=>arg 3;whnf
          exact Zf (ih _)
        ·refine Zd rfl ?_ ?_<;>conv=>arg 3;whnf
         ·refine Ze (Za t0 t1 t2 t3 (w64 (x188.1+1)) s0.2.1 (w64 (s0.2.2.1-1)) x188.2 m1_0 m1_1 m1_2 m1_3 m1_4 m1_5) (hrc t0 t1 t2 t3 (w64 (x188.1+1)) s0.2.1 (w64 (s0.2.2.1-1)) x188.2 m1_0 m1_1 m1_2 m1_3 m1_4 m1_5) fun x191 hx191=>?_;conv=>arg 3;whnf
          exact Zf (ih _)
         ·refine Ze (Za t0 t1 t2 t3 (w64 (x188.1+1)) s0.2.1 (w64 (s0.2.2.1-1)) x188.2 m1_0 m1_1 m1_2 m1_3 m1_4 m1_5) (hrc t0 t1 t2 t3 (w64 (x188.1+1)) s0.2.1 (w64 (s0.2.2.1-1)) x188.2 m1_0 m1_1 m1_2 m1_3 m1_4 m1_5) fun x192 hx192=>?_;conv=>arg 3;whnf
          exact Zf (ih _)
       ·conv=>arg 3;whnf
        refine Z6 rfl ?_;conv=>arg 3;whnf
        refine Z6 rfl ?_;conv=>arg 3;whnf
        refine Zd rfl ?_ ?_<;>conv=>arg 3;whnf
        ·refine Zd rfl ?_ ?_<;>conv=>arg 3;whnf
         ·refine Ze (Za t0 t1 t2 t3 s0.1 x188.1 (w64 (s0.2.2.1-1)) x188.2 m1_0 m1_1 m1_2 m1_3 m1_4 m1_5) (hrc t0 t1 t2 t3 s0.1 x188.1 (w64 (s0.2.2.1-1)) x188.2 m1_0 m1_1 m1_2 m1_3 m1_4 m1_5) fun x193 hx193=>?_;conv=>arg 3;whnf
          exact Zf (ih _)
         ·refine Ze (Za t0 t1 t2 t3 s0.1 x188.1 (w64 (s0.2.2.1-1)) x188.2 m1_0 m1_1 m1_2 m1_3 m1_4 m1_5) (hrc t0 t1 t2 t3 s0.1 x188.1 (w64 (s0.2.2.1-1)) x188.2 m1_0 m1_1 m1_2 m1_3 m1_4 m1_5) fun x194 hx194=>?_;conv=>arg 3;whnf
          exact Zf (ih _)
        ·refine Zd rfl ?_ ?_<;>conv=>arg 3;whnf
         ·refine Ze (Za t0 t1 t2 t3 (w64 (x188.1+1)) s0.2.1 (w64 (s0.2.2.1-1)) x188.2 m1_0 m1_1 m1_2 m1_3 m1_4 m1_5) (hrc t0 t1 t2 t3 (w64 (x188.1+1)) s0.2.1 (w64 (s0.2.2.1-1)) x188.2 m1_0 m1_1 m1_2 m1_3 m1_4 m1_5) fun x195 hx195=>?_;conv=>arg 3;whnf
          exact Zf (ih _)
         ·refine Ze (Za t0 t1 t2 t3 (w64 (x188.1+1)) s0.2.1 (w64 (s0.2.2.1-1)) x188.2 m1_0 m1_1 m1_2 m1_3 m1_4 m1_5) (hrc t0 t1 t2 t3 (w64 (x188.1+1)) s0.2.1 (w64 (s0.2.2.1-1)) x188.2 m1_0 m1_1 m1_2 m1_3 m1_4 m1_5) fun x196 hx196=>?_;conv=>arg 3;whnf
          exact Zf (ih _)
     ·refine Zd rfl ?_ ?_<;>conv=>arg 3;whnf
      ·refine Zl rfl rfl fun x197 hx197=>?_;conv=>arg 3;whnf
       refine Zg (ZD rfl hx197) ?_;conv=>arg 3;whnf
       refine Zl rfl rfl fun x198 hx198=>?_;conv=>arg 3;whnf
       refine Zg (ZD rfl hx198) ?_;conv=>arg 3;whnf
       refine Zj _ ZJ rfl fun x199 hx199=>?_;conv=>arg 3;whnf
       refine Zd rfl ?_ ?_<;>conv=>arg 3;whnf
       ·refine Ze _ Zo fun x200 hx200=>?_
        clear hx200
        rcases x200 with x200 | x200
        ·conv=>arg 3;whnf
         refine Zah rfl ?_;conv=>arg 3;whnf
         refine Z6 rfl ?_;conv=>arg 3;whnf
         refine Zd rfl ?_ ?_<;>conv=>arg 3;whnf
         ·refine Zd rfl ?_ ?_<;>conv=>arg 3;whnf
          ·refine Ze (Za t0 t1 t2 t3 s0.1 x200.1 (w64 (s0.2.2.1-1)) x200.2 m1_0 m1_1 m1_2 m1_3 m1_4 m1_5) (hrc t0 t1 t2 t3 s0.1 x200.1 (w64 (s0.2.2.1-1)) x200.2 m1_0 m1_1 m1_2 m1_3 m1_4 m1_5) fun x201 hx201=>?_;conv=>arg 3;whnf
           exact Zf (ih _)
          ·refine Ze (Za t0 t1 t2 t3 s0.1 x200.1 (w64 (s0.2.2.1-1)) x200.2 m1_0 m1_1 m1_2 m1_3 m1_4 m1_5) (hrc t0 t1 t2 t3 s0.1 x200.1 (w64 (s0.2.2.1-1)) x200.2 m1_0 m1_1 m1_2 m1_3 m1_4 m1_5) fun x202 hx202=>?_;conv=>arg 3;whnf
           exact Zf (ih _)
         ·refine Zd rfl ?_ ?_<;>conv=>arg 3;whnf
          ·refine Ze (Za t0 t1 t2 t3 (w64 (x200.1+1)) s0.2.1 (w64 (s0.2.2.1-1)) x200.2 m1_0 m1_1 m1_2 m1_3 m1_4 m1_5) (hrc t0 t1 t2 t3 (w64 (x200.1+1)) s0.2.1 (w64 (s0.2.2.1-1)) x200.2 m1_0 m1_1 m1_2 m1_3 m1_4 m1_5) fun x203 hx203=>?_;conv=>arg 3;whnf
           exact Zf (ih _)
          ·refine Ze (Za t0 t1 t2 t3 (w64 (x200.1+1)) s0.2.1 (w64 (s0.2.2.1-1)) x200.2 m1_0 m1_1 m1_2 m1_3 m1_4 m1_5) (hrc t0 t1 t2 t3 (w64 (x200.1+1)) s0.2.1 (w64 (s0.2.2.1-1)) x200.2 m1_0 m1_1 m1_2 m1_3 m1_4 m1_5) fun x204 hx204=>?_;conv=>arg 3;whnf
           exact Zf (ih _)
        ·conv=>arg 3;whnf
         refine Z6 rfl ?_;conv=>arg 3;whnf
         refine Z6 rfl ?_;conv=>arg 3;whnf
         refine Zd rfl ?_ ?_<;>conv=>arg 3;whnf
         ·refine Zd rfl ?_ ?_<;>conv=>arg 3;whnf
          ·refine Ze (Za t0 t1 t2 t3 s0.1 x200.1 (w64 (s0.2.2.1-1)) x200.2 m1_0 m1_1 m1_2 m1_3 m1_4 m1_5) (hrc t0 t1 t2 t3 s0.1 x200.1 (w64 (s0.2.2.1-1)) x200.2 m1_0 m1_1 m1_2 m1_3 m1_4 m1_5) fun x205 hx205=>?_;conv=>arg 3;whnf
           exact Zf (ih _)
          ·refine Ze (Za t0 t1 t2 t3 s0.1 x200.1 (w64 (s0.2.2.1-1)) x200.2 m1_0 m1_1 m1_2 m1_3 m1_4 m1_5) (hrc t0 t1 t2 t3 s0.1 x200.1 (w64 (s0.2.2.1-1)) x200.2 m1_0 m1_1 m1_2 m1_3 m1_4 m1_5) fun x206 hx206=>?_;conv=>arg 3;whnf
           exact Zf (ih _)
         ·refine Zd rfl ?_ ?_<;>conv=>arg 3;whnf
          ·refine Ze (Za t0 t1 t2 t3 (w64 (x200.1+1)) s0.2.1 (w64 (s0.2.2.1-1)) x200.2 m1_0 m1_1 m1_2 m1_3 m1_4 m1_5) (hrc t0 t1 t2 t3 (w64 (x200.1+1)) s0.2.1 (w64 (s0.2.2.1-1)) x200.2 m1_0 m1_1 m1_2 m1_3 m1_4 m1_5) fun x207 hx207=>?_;conv=>arg 3;whnf
           exact Zf (ih _)
          ·refine Ze (Za t0 t1 t2 t3 (w64 (x200.1+1)) s0.2.1 (w64 (s0.2.2.1-1)) x200.2 m1_0 m1_1 m1_2 m1_3 m1_4 m1_5) (hrc t0 t1 t2 t3 (w64 (x200.1+1)) s0.2.1 (w64 (s0.2.2.1-1)) x200.2 m1_0 m1_1 m1_2 m1_3 m1_4 m1_5) fun x208 hx208=>?_;conv=>arg 3;whnf
           exact Zf (ih _)
       ·refine Ze _ ZF fun x209 hx209=>?_;conv=>arg 3;whnf
        exact Zf (ih _)
      ·refine Ze _ Zo fun x210 hx210=>?_
       clear hx210
       rcases x210 with x210 | x210
       ·conv=>arg 3;whnf
        refine Zah rfl ?_;conv=>arg 3;whnf
        refine Z6 rfl ?_;conv=>arg 3;whnf
        refine Zd rfl ?_ ?_<;>conv=>arg 3;whnf
        ·refine Zd rfl ?_ ?_<;>conv=>arg 3;whnf
         ·refine Ze (Za t0 t1 t2 t3 s0.1 x210.1 (w64 (s0.2.2.1-1)) x210.2 m1_0 m1_1 m1_2 m1_3 m1_4 m1_5) (hrc t0 t1 t2 t3 s0.1 x210.1 (w64 (s0.2.2.1-1)) x210.2 m1_0 m1_1 m1_2 m1_3 m1_4 m1_5) fun x211 hx211=>?_;conv=>arg 3;whnf
          exact Zf (ih _)
         ·refine Ze (Za t0 t1 t2 t3 s0.1 x210.1 (w64 (s0.2.2.1-1)) x210.2 m1_0 m1_1 m1_2 m1_3 m1_4 m1_5) (hrc t0 t1 t2 t3 s0.1 x210.1 (w64 (s0.2.2.1-1)) x210.2 m1_0 m1_1 m1_2 m1_3 m1_4 m1_5) fun x212 hx212=>?_;conv=>arg 3;whnf
          exact Zf (ih _)
        ·refine Zd rfl ?_ ?_<;>conv=>arg 3;whnf
         ·refine Ze (Za t0 t1 t2 t3 (w64 (x210.1+1)) s0.2.1 (w64 (s0.2.2.1-1)) x210.2 m1_0 m1_1 m1_2 m1_3 m1_4 m1_5) (hrc t0 t1 t2 t3 (w64 (x210.1+1)) s0.2.1 (w64 (s0.2.2.1-1)) x210.2 m1_0 m1_1 m1_2 m1_3 m1_4 m1_5) fun x213 hx213=>?_;conv=>arg 3;whnf
          exact Zf (ih _)
         ·refine Ze (Za t0 t1 t2 t3 (w64 (x210.1+1)) s0.2.1 (w64 (s0.2.2.1-1)) x210.2 m1_0 m1_1 m1_2 m1_3 m1_4 m1_5) (hrc t0 t1 t2 t3 (w64 (x210.1+1)) s0.2.1 (w64 (s0.2.2.1-1)) x210.2 m1_0 m1_1 m1_2 m1_3 m1_4 m1_5) fun x214 hx214=>?_;conv=>arg 3;whnf
          exact Zf (ih _)
       ·conv=>arg 3;whnf
        refine Z6 rfl ?_;conv=>arg 3;whnf
        refine Z6 rfl ?_;conv=>arg 3;whnf
        refine Zd rfl ?_ ?_<;>conv=>arg 3;whnf
        ·refine Zd rfl ?_ ?_<;>conv=>arg 3;whnf
         ·refine Ze (Za t0 t1 t2 t3 s0.1 x210.1 (w64 (s0.2.2.1-1)) x210.2 m1_0 m1_1 m1_2 m1_3 m1_4 m1_5) (hrc t0 t1 t2 t3 s0.1 x210.1 (w64 (s0.2.2.1-1)) x210.2 m1_0 m1_1 m1_2 m1_3 m1_4 m1_5) fun x215 hx215=>?_;conv=>arg 3;whnf
          exact Zf (ih _)
         ·refine Ze (Za t0 t1 t2 t3 s0.1 x210.1 (w64 (s0.2.2.1-1)) x210.2 m1_0 m1_1 m1_2 m1_3 m1_4 m1_5) (hrc t0 t1 t2 t3 s0.1 x210.1 (w64 (s0.2.2.1-1)) x210.2 m1_0 m1_1 m1_2 m1_3 m1_4 m1_5) fun x216 hx216=>?_;conv=>arg 3;whnf
          exact Zf (ih _)
        ·refine Zd rfl ?_ ?_<;>conv=>arg 3;whnf
         ·refine Ze (Za t0 t1 t2 t3 (w64 (x210.1+1)) s0.2.1 (w64 (s0.2.2.1-1)) x210.2 m1_0 m1_1 m1_2 m1_3 m1_4 m1_5) (hrc t0 t1 t2 t3 (w64 (x210.1+1)) s0.2.1 (w64 (s0.2.2.1-1)) x210.2 m1_0 m1_1 m1_2 m1_3 m1_4 m1_5) fun x217 hx217=>?_;conv=>arg 3;whnf
          exact Zf (ih _)
         ·refine Ze (Za t0 t1 t2 t3 (w64 (x210.1+1)) s0.2.1 (w64 (s0.2.2.1-1)) x210.2 m1_0 m1_1 m1_2 m1_3 m1_4 m1_5) (hrc t0 t1 t2 t3 (w64 (x210.1+1)) s0.2.1 (w64 (s0.2.2.1-1)) x210.2 m1_0 m1_1 m1_2 m1_3 m1_4 m1_5) fun x218 hx218=>?_;conv=>arg 3;whnf
          exact Zf (ih _)
  ·refine ZwI ?_;conv=>arg 3;whnf
   refine Zd rfl ?_ ?_<;>conv=>arg 3;whnf
   ·refine Ze _ Zai fun x121 hx121=>?_;conv=>arg 3;whnf
    exact Zc rfl
   ·refine Zd rfl ?_ ?_<;>conv=>arg 3;whnf
    ·refine Ze _ ZaC fun x122 hx122=>?_;conv=>arg 3;whnf
     exact Zc rfl
    ·refine Ze _ ZbO fun x123 hx123=>?_;conv=>arg 3;whnf
     refine Ze _ Zas fun x124 hx124=>?_;conv=>arg 3;whnf
     refine Zd rfl ?_ ?_<;>conv=>arg 3;whnf
     ·refine Ze _ Zaq fun x125 hx125=>?_;conv=>arg 3;whnf
      refine Zd rfl ?_ ?_<;>conv=>arg 3;whnf
      ·refine Zl rfl rfl fun x126 hx126=>?_;conv=>arg 3;whnf
       refine Zg (ZD rfl hx126) ?_;conv=>arg 3;whnf
       refine Zl rfl rfl fun x127 hx127=>?_;conv=>arg 3;whnf
       refine Zg (ZD rfl hx127) ?_;conv=>arg 3;whnf
       refine Zj _ ZJ rfl fun x128 hx128=>?_;conv=>arg 3;whnf
       refine Zd rfl ?_ ?_<;>conv=>arg 3;whnf
       ·refine Ze _ Zo fun x129 hx129=>?_
        clear hx129
        rcases x129 with x129 | x129
        ·conv=>arg 3;whnf
         refine Zah rfl ?_;conv=>arg 3;whnf
         refine Z6 rfl ?_;conv=>arg 3;whnf
         refine Zd rfl ?_ ?_<;>conv=>arg 3;whnf
         ·refine Zd rfl ?_ ?_<;>conv=>arg 3;whnf
          ·refine Ze (Za t0 t1 t2 t3 s0.1 x129.1 (w64 (s0.2.2.1-1)) x129.2 m1_0 m1_1 m1_2 m1_3 m1_4 m1_5) (hrc t0 t1 t2 t3 s0.1 x129.1 (w64 (s0.2.2.1-1)) x129.2 m1_0 m1_1 m1_2 m1_3 m1_4 m1_5) fun x130 hx130=>?_;conv=>arg 3;whnf
           exact Zf (ih _)
          ·refine Ze (Za t0 t1 t2 t3 s0.1 x129.1 (w64 (s0.2.2.1-1)) x129.2 m1_0 m1_1 m1_2 m1_3 m1_4 m1_5) (hrc t0 t1 t2 t3 s0.1 x129.1 (w64 (s0.2.2.1-1)) x129.2 m1_0 m1_1 m1_2 m1_3 m1_4 m1_5) fun x131 hx131=>?_;conv=>arg 3;whnf
           exact Zf (ih _)
         ·refine Zd rfl ?_ ?_<;>conv=>arg 3;whnf
          ·refine Ze (Za t0 t1 t2 t3 (w64 (x129.1+1)) s0.2.1 (w64 (s0.2.2.1-1)) x129.2 m1_0 m1_1 m1_2 m1_3 m1_4 m1_5) (hrc t0 t1 t2 t3 (w64 (x129.1+1)) s0.2.1 (w64 (s0.2.2.1-1)) x129.2 m1_0 m1_1 m1_2 m1_3 m1_4 m1_5) fun x132 hx132=>?_;conv=>arg 3;whnf
           exact Zf (ih _)
          ·refine Ze (Za t0 t1 t2 t3 (w64 (x129.1+1)) s0.2.1 (w64 (s0.2.2.1-1)) x129.2 m1_0 m1_1 m1_2 m1_3 m1_4 m1_5) (hrc t0 t1 t2 t3 (w64 (x129.1+1)) s0.2.1 (w64 (s0.2.2.1-1)) x129.2 m1_0 m1_1 m1_2 m1_3 m1_4 m1_5) fun x133 hx133=>?_;conv=>arg 3;whnf
           exact Zf (ih _)
        ·conv=>arg 3;whnf
         refine Z6 rfl ?_;conv=>arg 3;whnf
         refine Z6 rfl ?_;conv=>arg 3;whnf
         refine Zd rfl ?_ ?_<;>conv=>arg 3;whnf
         ·refine Zd rfl ?_ ?_<;>conv=>arg 3;whnf
          ·refine Ze (Za t0 t1 t2 t3 s0.1 x129.1 (w64 (s0.2.2.1-1)) x129.2 m1_0 m1_1 m1_2 m1_3 m1_4 m1_5) (hrc t0 t1 t2 t3 s0.1 x129.1 (w64 (s0.2.2.1-1)) x129.2 m1_0 m1_1 m1_2 m1_3 m1_4 m1_5) fun x134 hx134=>?_;conv=>arg 3;whnf
           exact Zf (ih _)
          ·refine Ze (Za t0 t1 t2 t3 s0.1 x129.1 (w64 (s0.2.2.1-1)) x129.2 m1_0 m1_1 m1_2 m1_3 m1_4 m1_5) (hrc t0 t1 t2 t3 s0.1 x129.1 (w64 (s0.2.2.1-1)) x129.2 m1_0 m1_1 m1_2 m1_3 m1_4 m1_5) fun x135 hx135=>?_;conv=>arg 3;whnf
           exact Zf (ih _)
         ·refine Zd rfl ?_ ?_<;>conv=>arg 3;whnf
          ·refine Ze (Za t0 t1 t2 t3 (w64 (x129.1+1)) s0.2.1 (w64 (s0.2.2.1-1)) x129.2 m1_0 m1_1 m1_2 m1_3 m1_4 m1_5) (hrc t0 t1 t2 t3 (w64 (x129.1+1)) s0.2.1 (w64 (s0.2.2.1-1)) x129.2 m1_0 m1_1 m1_2 m1_3 m1_4 m1_5) fun x136 hx136=>?_;conv=>arg 3;whnf
           exact Zf (ih _)
          ·refine Ze (Za t0 t1 t2 t3 (w64 (x129.1+1)) s0.2.1 (w64 (s0.2.2.1-1)) x129.2 m1_0 m1_1 m1_2 m1_3 m1_4 m1_5) (hrc t0 t1 t2 t3 (w64 (x129.1+1)) s0.2.1 (w64 (s0.2.2.1-1)) x129.2 m1_0 m1_1 m1_2 m1_3 m1_4 m1_5) fun x137 hx137=>?_;conv=>arg 3;whnf
           exact Zf (ih _)
       ·refine Ze _ ZF fun x138 hx138=>?_;conv=>arg 3;whnf
        exact Zf (ih _)
      ·refine Ze _ Zo fun x139 hx139=>?_
       clear hx139
       rcases x139 with x139 | x139
       ·conv=>arg 3;whnf
        refine Zah rfl ?_;conv=>arg 3;whnf
        refine Z6 rfl ?_;conv=>arg 3;whnf
        refine Zd rfl ?_ ?_<;>conv=>arg 3;whnf
        ·refine Zd rfl ?_ ?_<;>conv=>arg 3;whnf
         ·refine Ze (Za t0 t1 t2 t3 s0.1 x139.1 (w64 (s0.2.2.1-1)) x139.2 m1_0 m1_1 m1_2 m1_3 m1_4 m1_5) (hrc t0 t1 t2 t3 s0.1 x139.1 (w64 (s0.2.2.1-1)) x139.2 m1_0 m1_1 m1_2 m1_3 m1_4 m1_5) fun x140 hx140=>?_;conv=>arg 3;whnf
          exact Zf (ih _)
         ·refine Ze (Za t0 t1 t2 t3 s0.1 x139.1 (w64 (s0.2.2.1-1)) x139.2 m1_0 m1_1 m1_2 m1_3 m1_4 m1_5) (hrc t0 t1 t2 t3 s0.1 x139.1 (w64 (s0.2.2.1-1)) x139.2 m1_0 m1_1 m1_2 m1_3 m1_4 m1_5) fun x141 hx141=>?_;conv=>arg 3;whnf
          exact Zf (ih _)
        ·refine Zd rfl ?_ ?_<;>conv=>arg 3;whnf
         ·refine Ze (Za t0 t1 t2 t3 (w64 (x139.1+1)) s0.2.1 (w64 (s0.2.2.1-1)) x139.2 m1_0 m1_1 m1_2 m1_3 m1_4 m1_5) (hrc t0 t1 t2 t3 (w64 (x139.1+1)) s0.2.1 (w64 (s0.2.2.1-1)) x139.2 m1_0 m1_1 m1_2 m1_3 m1_4 m1_5) fun x142 hx142=>?_;conv=>arg 3;whnf
          exact Zf (ih _)
         ·refine Ze (Za t0 t1 t2 t3 (w64 (x139.1+1)) s0.2.1 (w64 (s0.2.2.1-1)) x139.2 m1_0 m1_1 m1_2 m1_3 m1_4 m1_5) (hrc t0 t1 t2 t3 (w64 (x139.1+1)) s0.2.1 (w64 (s0.2.2.1-1)) x139.2 m1_0 m1_1 m1_2 m1_3 m1_4 m1_5) fun x143 hx143=>?_;conv=>arg 3;whnf
          exact Zf (ih _)
       ·conv=>arg 3;whnf
        refine Z6 rfl ?_;conv=>arg 3;whnf
        refine Z6 rfl ?_;conv=>arg 3;whnf
        refine Zd rfl ?_ ?_<;>conv=>arg 3;whnf
        ·refine Zd rfl ?_ ?_<;>conv=>arg 3;whnf
         ·refine Ze (Za t0 t1 t2 t3 s0.1 x139.1 (w64 (s0.2.2.1-1)) x139.2 m1_0 m1_1 m1_2 m1_3 m1_4 m1_5) (hrc t0 t1 t2 t3 s0.1 x139.1 (w64 (s0.2.2.1-1)) x139.2 m1_0 m1_1 m1_2 m1_3 m1_4 m1_5) fun x144 hx144=>?_;conv=>arg 3;whnf
          exact Zf (ih _)
         ·refine Ze (Za t0 t1 t2 t3 s0.1 x139.1 (w64 (s0.2.2.1-1)) x139.2 m1_0 m1_1 m1_2 m1_3 m1_4 m1_5) (hrc t0 t1 t2 t3 s0.1 x139.1 (w64 (s0.2.2.1-1)) x139.2 m1_0 m1_1 m1_2 m1_3 m1_4 m1_5) fun x145 hx145=>?_;conv=>arg 3;whnf
          exact Zf (ih _)
        ·refine Zd rfl ?_ ?_<;>conv=>arg 3;whnf
         ·refine Ze (Za t0 t1 t2 t3 (w64 (x139.1+1)) s0.2.1 (w64 (s0.2.2.1-1)) x139.2 m1_0 m1_1 m1_2 m1_3 m1_4 m1_5) (hrc t0 t1 t2 t3 (w64 (x139.1+1)) s0.2.1 (w64 (s0.2.2.1-1)) x139.2 m1_0 m1_1 m1_2 m1_3 m1_4 m1_5) fun x146 hx146=>?_;conv=>arg 3;whnf
          exact Zf (ih _)
         ·refine Ze (Za t0 t1 t2 t3 (w64 (x139.1+1)) s0.2.1 (w64 (s0.2.2.1-1)) x139.2 m1_0 m1_1 m1_2 m1_3 m1_4 m1_5) (hrc t0 t1 t2 t3 (w64 (x139.1+1)) s0.2.1 (w64 (s0.2.2.1-1)) x139.2 m1_0 m1_1 m1_2 m1_3 m1_4 m1_5) fun x147 hx147=>?_;conv=>arg 3;whnf
          exact Zf (ih _)
     ·refine Zd rfl ?_ ?_<;>conv=>arg 3;whnf
      ·refine Zl rfl rfl fun x148 hx148=>?_;conv=>arg 3;whnf
       refine Zg (ZD rfl hx148) ?_;conv=>arg 3;whnf
       refine Zl rfl rfl fun x149 hx149=>?_;conv=>arg 3;whnf
       refine Zg (ZD rfl hx149) ?_;conv=>arg 3;whnf
       refine Zj _ ZJ rfl fun x150 hx150=>?_;conv=>arg 3;whnf
       refine Zd rfl ?_ ?_<;>conv=>arg 3;whnf
       ·refine Ze _ Zo fun x151 hx151=>?_
        clear hx151
        rcases x151 with x151 | x151
        ·conv=>arg 3;whnf
         refine Zah rfl ?_;conv=>arg 3;whnf
         refine Z6 rfl ?_;conv=>arg 3;whnf
         refine Zd rfl ?_ ?_<;>conv=>arg 3;whnf
         ·refine Zd rfl ?_ ?_<;>conv=>arg 3;whnf
          ·refine Ze (Za t0 t1 t2 t3 s0.1 x151.1 (w64 (s0.2.2.1-1)) x151.2 m1_0 m1_1 m1_2 m1_3 m1_4 m1_5) (hrc t0 t1 t2 t3 s0.1 x151.1 (w64 (s0.2.2.1-1)) x151.2 m1_0 m1_1 m1_2 m1_3 m1_4 m1_5) fun x152 hx152=>?_;conv=>arg 3;whnf
           exact Zf (ih _)
          ·refine Ze (Za t0 t1 t2 t3 s0.1 x151.1 (w64 (s0.2.2.1-1)) x151.2 m1_0 m1_1 m1_2 m1_3 m1_4 m1_5) (hrc t0 t1 t2 t3 s0.1 x151.1 (w64 (s0.2.2.1-1)) x151.2 m1_0 m1_1 m1_2 m1_3 m1_4 m1_5) fun x153 hx153=>?_;conv=>arg 3;whnf
           exact Zf (ih _)
         ·refine Zd rfl ?_ ?_<;>conv=>arg 3;whnf
          ·refine Ze (Za t0 t1 t2 t3 (w64 (x151.1+1)) s0.2.1 (w64 (s0.2.2.1-1)) x151.2 m1_0 m1_1 m1_2 m1_3 m1_4 m1_5) (hrc t0 t1 t2 t3 (w64 (x151.1+1)) s0.2.1 (w64 (s0.2.2.1-1)) x151.2 m1_0 m1_1 m1_2 m1_3 m1_4 m1_5) fun x154 hx154=>?_;conv=>arg 3;whnf
           exact Zf (ih _)
          ·refine Ze (Za t0 t1 t2 t3 (w64 (x151.1+1)) s0.2.1 (w64 (s0.2.2.1-1)) x151.2 m1_0 m1_1 m1_2 m1_3 m1_4 m1_5) (hrc t0 t1 t2 t3 (w64 (x151.1+1)) s0.2.1 (w64 (s0.2.2.1-1)) x151.2 m1_0 m1_1 m1_2 m1_3 m1_4 m1_5) fun x155 hx155=>?_;conv=>arg 3;whnf
           exact Zf (ih _)
        ·conv=>arg 3;whnf
         refine Z6 rfl ?_;conv=>arg 3;whnf
         refine Z6 rfl ?_;conv=>arg 3;whnf
         refine Zd rfl ?_ ?_<;>conv=>arg 3;whnf
         ·refine Zd rfl ?_ ?_<;>conv=>arg 3;whnf
          ·refine Ze (Za t0 t1 t2 t3 s0.1 x151.1 (w64 (s0.2.2.1-1)) x151.2 m1_0 m1_1 m1_2 m1_3 m1_4 m1_5) (hrc t0 t1 t2 t3 s0.1 x151.1 (w64 (s0.2.2.1-1)) x151.2 m1_0 m1_1 m1_2 m1_3 m1_4 m1_5) fun x156 hx156=>?_;conv=>arg 3;whnf
           exact Zf (ih _)
          ·refine Ze (Za t0 t1 t2 t3 s0.1 x151.1 (w64 (s0.2.2.1-1)) x151.2 m1_0 m1_1 m1_2 m1_3 m1_4 m1_5) (hrc t0 t1 t2 t3 s0.1 x151.1 (w64 (s0.2.2.1-1)) x151.2 m1_0 m1_1 m1_2 m1_3 m1_4 m1_5) fun x157 hx157=>?_;conv=>arg 3;whnf
           exact Zf (ih _)
         ·refine Zd rfl ?_ ?_<;>conv=>arg 3;whnf
          ·refine Ze (Za t0 t1 t2 t3 (w64 (x151.1+1)) s0.2.1 (w64 (s0.2.2.1-1)) x151.2 m1_0 m1_1 m1_2 m1_3 m1_4 m1_5) (hrc t0 t1 t2 t3 (w64 (x151.1+1)) s0.2.1 (w64 (s0.2.2.1-1)) x151.2 m1_0 m1_1 m1_2 m1_3 m1_4 m1_5) fun x158 hx158=>?_;conv=>arg 3;whnf
           exact Zf (ih _)
          ·refine Ze (Za t0 t1 t2 t3 (w64 (x151.1+1)) s0.2.1 (w64 (s0.2.2.1-1)) x151.2 m1_0 m1_1 m1_2 m1_3 m1_4 m1_5) (hrc t0 t1 t2 t3 (w64 (x151.1+1)) s0.2.1 (w64 (s0.2.2.1-1)) x151.2 m1_0 m1_1 m1_2 m1_3 m1_4 m1_5) fun x159 hx159=>?_;conv=>arg 3;whnf
           exact Zf (ih _)
       ·refine Ze _ ZF fun x160 hx160=>?_;conv=>arg 3;whnf
        exact Zf (ih _)
      ·refine Ze _ Zo fun x161 hx161=>?_
       clear hx161
       rcases x161 with x161 | x161
       ·conv=>arg 3;whnf
        refine Zah rfl ?_;conv=>arg 3;whnf
        refine Z6 rfl ?_;conv=>arg 3;whnf
        refine Zd rfl ?_ ?_<;>conv=>arg 3;whnf
        ·refine Zd rfl ?_ ?_<;>conv=>arg 3;whnf
         ·refine Ze (Za t0 t1 t2 t3 s0.1 x161.1 (w64 (s0.2.2.1-1)) x161.2 m1_0 m1_1 m1_2 m1_3 m1_4 m1_5) (hrc t0 t1 t2 t3 s0.1 x161.1 (w64 (s0.2.2.1-1)) x161.2 m1_0 m1_1 m1_2 m1_3 m1_4 m1_5) fun x162 hx162=>?_;conv=>arg 3;whnf
          exact Zf (ih _)
         ·refine Ze (Za t0 t1 t2 t3 s0.1 x161.1 (w64 (s0.2.2.1-1)) x161.2 m1_0 m1_1 m1_2 m1_3 m1_4 m1_5) (hrc t0 t1 t2 t3 s0.1 x161.1 (w64 (s0.2.2.1-1)) x161.2 m1_0 m1_1 m1_2 m1_3 m1_4 m1_5) fun x163 hx163=>?_;conv=>arg 3;whnf
          exact Zf (ih _)
        ·refine Zd rfl ?_ ?_<;>conv=>arg 3;whnf
         ·refine Ze (Za t0 t1 t2 t3 (w64 (x161.1+1)) s0.2.1 (w64 (s0.2.2.1-1)) x161.2 m1_0 m1_1 m1_2 m1_3 m1_4 m1_5) (hrc t0 t1 t2 t3 (w64 (x161.1+1)) s0.2.1 (w64 (s0.2.2.1-1)) x161.2 m1_0 m1_1 m1_2 m1_3 m1_4 m1_5) fun x164 hx164=>?_;conv=>arg 3;whnf
          exact Zf (ih _)
         ·refine Ze (Za t0 t1 t2 t3 (w64 (x161.1+1)) s0.2.1 (w64 (s0.2.2.1-1)) x161.2 m1_0 m1_1 m1_2 m1_3 m1_4 m1_5) (hrc t0 t1 t2 t3 (w64 (x161.1+1)) s0.2.1 (w64 (s0.2.2.1-1)) x161.2 m1_0 m1_1 m1_2 m1_3 m1_4 m1_5) fun x165 hx165=>?_;conv=>arg 3;whnf
          exact Zf (ih _)
       ·conv=>arg 3;whnf
        refine Z6 rfl ?_;conv=>arg 3;whnf
        refine Z6 rfl ?_;conv=>arg 3;whnf
        refine Zd rfl ?_ ?_<;>conv=>arg 3;whnf
        ·refine Zd rfl ?_ ?_<;>conv=>arg 3;whnf
         ·refine Ze (Za t0 t1 t2 t3 s0.1 x161.1 (w64 (s0.2.2.1-1)) x161.2 m1_0 m1_1 m1_2 m1_3 m1_4 m1_5) (hrc t0 t1 t2 t3 s0.1 x161.1 (w64 (s0.2.2.1-1)) x161.2 m1_0 m1_1 m1_2 m1_3 m1_4 m1_5) fun x166 hx166=>?_;conv=>arg 3;whnf
          exact Zf (ih _)
         ·refine Ze (Za t0 t1 t2 t3 s0.1 x161.1 (w64 (s0.2.2.1-1)) x161.2 m1_0 m1_1 m1_2 m1_3 m1_4 m1_5) (hrc t0 t1 t2 t3 s0.1 x161.1 (w64 (s0.2.2.1-1)) x161.2 m1_0 m1_1 m1_2 m1_3 m1_4 m1_5) fun x167 hx167=>?_;conv=>arg 3;whnf
          exact Zf (ih _)
        ·refine Zd rfl ?_ ?_<;>conv=>arg 3;whnf
         ·refine Ze (Za t0 t1 t2 t3 (w64 (x161.1+1)) s0.2.1 (w64 (s0.2.2.1-1)) x161.2 m1_0 m1_1 m1_2 m1_3 m1_4 m1_5) (hrc t0 t1 t2 t3 (w64 (x161.1+1)) s0.2.1 (w64 (s0.2.2.1-1)) x161.2 m1_0 m1_1 m1_2 m1_3 m1_4 m1_5) fun x168 hx168=>?_;conv=>arg 3;whnf
          exact Zf (ih _)
         ·refine Ze (Za t0 t1 t2 t3 (w64 (x161.1+1)) s0.2.1 (w64 (s0.2.2.1-1)) x161.2 m1_0 m1_1 m1_2 m1_3 m1_4 m1_5) (hrc t0 t1 t2 t3 (w64 (x161.1+1)) s0.2.1 (w64 (s0.2.2.1-1)) x161.2 m1_0 m1_1 m1_2 m1_3 m1_4 m1_5) fun x169 hx169=>?_;conv=>arg 3;whnf
          exact Zf (ih _)
 ·refine ZwI ?_
  rcases hb:s0.2.2.2.2.1 with _ | _
  ·refine Zxv ?_;conv=>arg 3;whnf
   refine Zd rfl ?_ ?_<;>conv=>arg 3;whnf
   ·refine Ze _ Zai fun x73 hx73=>?_;conv=>arg 3;whnf
    exact Zc rfl
   ·refine Zd rfl ?_ ?_<;>conv=>arg 3;whnf
    ·refine Ze _ ZaC fun x74 hx74=>?_;conv=>arg 3;whnf
     exact Zc rfl
    ·refine Ze _ Zas fun x75 hx75=>?_;conv=>arg 3;whnf
     refine Zd rfl ?_ ?_<;>conv=>arg 3;whnf
     ·refine Ze _ Zaq fun x76 hx76=>?_;conv=>arg 3;whnf
      refine Zd rfl ?_ ?_<;>conv=>arg 3;whnf
      ·refine Zl rfl rfl fun x77 hx77=>?_;conv=>arg 3;whnf
       refine Zg (ZD rfl hx77) ?_;conv=>arg 3;whnf
       refine Zl rfl rfl fun x78 hx78=>?_;conv=>arg 3;whnf
       refine Zg (ZD rfl hx78) ?_;conv=>arg 3;whnf
       refine Zj _ ZJ rfl fun x79 hx79=>?_;conv=>arg 3;whnf
       refine Zd rfl ?_ ?_<;>conv=>arg 3;whnf
       ·refine Ze _ Zo fun x80 hx80=>?_
        clear hx80
        rcases x80 with x80 | x80
        ·conv=>arg 3;whnf
         refine Zah rfl ?_;conv=>arg 3;whnf
         refine Z6 rfl ?_;conv=>arg 3;whnf
         refine Zd rfl ?_ ?_<;>conv=>arg 3;whnf
         ·refine Zd rfl ?_ ?_<;>conv=>arg 3;whnf
          ·refine Ze (Za t0 t1 t2 t3 s0.1 x80.1 s0.2.2.1 x80.2 m1_0 m1_1 m1_2 m1_3 m1_4 m1_5) (hrc t0 t1 t2 t3 s0.1 x80.1 s0.2.2.1 x80.2 m1_0 m1_1 m1_2 m1_3 m1_4 m1_5) fun x81 hx81=>?_;conv=>arg 3;whnf
           exact Zf (ih _)
          ·refine Ze (Za t0 t1 t2 t3 s0.1 x80.1 s0.2.2.1 x80.2 m1_0 m1_1 m1_2 m1_3 m1_4 m1_5) (hrc t0 t1 t2 t3 s0.1 x80.1 s0.2.2.1 x80.2 m1_0 m1_1 m1_2 m1_3 m1_4 m1_5) fun x82 hx82=>?_;conv=>arg 3;whnf
           exact Zf (ih _)
         ·refine Zd rfl ?_ ?_<;>conv=>arg 3;whnf
          ·refine Ze (Za t0 t1 t2 t3 (w64 (x80.1+1)) s0.2.1 s0.2.2.1 x80.2 m1_0 m1_1 m1_2 m1_3 m1_4 m1_5) (hrc t0 t1 t2 t3 (w64 (x80.1+1)) s0.2.1 s0.2.2.1 x80.2 m1_0 m1_1 m1_2 m1_3 m1_4 m1_5) fun x83 hx83=>?_;conv=>arg 3;whnf
           exact Zf (ih _)
          ·refine Ze (Za t0 t1 t2 t3 (w64 (x80.1+1)) s0.2.1 s0.2.2.1 x80.2 m1_0 m1_1 m1_2 m1_3 m1_4 m1_5) (hrc t0 t1 t2 t3 (w64 (x80.1+1)) s0.2.1 s0.2.2.1 x80.2 m1_0 m1_1 m1_2 m1_3 m1_4 m1_5) fun x84 hx84=>?_;conv=>arg 3;whnf
           exact Zf (ih _)
        ·conv=>arg 3;whnf
         refine Z6 rfl ?_;conv=>arg 3;whnf
         refine Z6 rfl ?_;conv=>arg 3;whnf
         refine Zd rfl ?_ ?_<;>conv=>arg 3;whnf
         ·refine Zd rfl ?_ ?_<;>conv=>arg 3;whnf
          ·refine Ze (Za t0 t1 t2 t3 s0.1 x80.1 s0.2.2.1 x80.2 m1_0 m1_1 m1_2 m1_3 m1_4 m1_5) (hrc t0 t1 t2 t3 s0.1 x80.1 s0.2.2.1 x80.2 m1_0 m1_1 m1_2 m1_3 m1_4 m1_5) fun x85 hx85=>?_;conv=>arg 3;whnf
           exact Zf (ih _)
          ·refine Ze (Za t0 t1 t2 t3 s0.1 x80.1 s0.2.2.1 x80.2 m1_0 m1_1 m1_2 m1_3 m1_4 m1_5) (hrc t0 t1 t2 t3 s0.1 x80.1 s0.2.2.1 x80.2 m1_0 m1_1 m1_2 m1_3 m1_4 m1_5) fun x86 hx86=>?_;conv=>arg 3;whnf
           exact Zf (ih _)
         ·refine Zd rfl ?_ ?_<;>conv=>arg 3;whnf
          ·refine Ze (Za t0 t1 t2 t3 (w64 (x80.1+1)) s0.2.1 s0.2.2.1 x80.2 m1_0 m1_1 m1_2 m1_3 m1_4 m1_5) (hrc t0 t1 t2 t3 (w64 (x80.1+1)) s0.2.1 s0.2.2.1 x80.2 m1_0 m1_1 m1_2 m1_3 m1_4 m1_5) fun x87 hx87=>?_;conv=>arg 3;whnf
           exact Zf (ih _)
          ·refine Ze (Za t0 t1 t2 t3 (w64 (x80.1+1)) s0.2.1 s0.2.2.1 x80.2 m1_0 m1_1 m1_2 m1_3 m1_4 m1_5) (hrc t0 t1 t2 t3 (w64 (x80.1+1)) s0.2.1 s0.2.2.1 x80.2 m1_0 m1_1 m1_2 m1_3 m1_4 m1_5) fun x88 hx88=>?_;conv=>arg 3;whnf
           exact Zf (ih _)
       ·refine Ze _ ZF fun x89 hx89=>?_;conv=>arg 3;whnf
        exact Zf (ih _)
      ·refine Ze _ Zo fun x90 hx90=>?_
       clear hx90
       rcases x90 with x90 | x90
       ·conv=>arg 3;whnf
        refine Zah rfl ?_;conv=>arg 3;whnf
        refine Z6 rfl ?_;conv=>arg 3;whnf
        refine Zd rfl ?_ ?_<;>conv=>arg 3;whnf
        ·refine Zd rfl ?_ ?_<;>conv=>arg 3;whnf
         ·refine Ze (Za t0 t1 t2 t3 s0.1 x90.1 s0.2.2.1 x90.2 m1_0 m1_1 m1_2 m1_3 m1_4 m1_5) (hrc t0 t1 t2 t3 s0.1 x90.1 s0.2.2.1 x90.2 m1_0 m1_1 m1_2 m1_3 m1_4 m1_5) fun x91 hx91=>?_;conv=>arg 3;whnf
          exact Zf (ih _)
         ·refine Ze (Za t0 t1 t2 t3 s0.1 x90.1 s0.2.2.1 x90.2 m1_0 m1_1 m1_2 m1_3 m1_4 m1_5) (hrc t0 t1 t2 t3 s0.1 x90.1 s0.2.2.1 x90.2 m1_0 m1_1 m1_2 m1_3 m1_4 m1_5) fun x92 hx92=>?_;conv=>arg 3;whnf
          exact Zf (ih _)
        ·refine Zd rfl ?_ ?_<;>conv=>arg 3;whnf
         ·refine Ze (Za t0 t1 t2 t3 (w64 (x90.1+1)) s0.2.1 s0.2.2.1 x90.2 m1_0 m1_1 m1_2 m1_3 m1_4 m1_5) (hrc t0 t1 t2 t3 (w64 (x90.1+1)) s0.2.1 s0.2.2.1 x90.2 m1_0 m1_1 m1_2 m1_3 m1_4 m1_5) fun x93 hx93=>?_;conv=>arg 3;whnf
          exact Zf (ih _)
         ·refine Ze (Za t0 t1 t2 t3 (w64 (x90.1+1)) s0.2.1 s0.2.2.1 x90.2 m1_0 m1_1 m1_2 m1_3 m1_4 m1_5) (hrc t0 t1 t2 t3 (w64 (x90.1+1)) s0.2.1 s0.2.2.1 x90.2 m1_0 m1_1 m1_2 m1_3 m1_4 m1_5) fun x94 hx94=>?_;conv=>arg 3;whnf
          exact Zf (ih _)
       ·conv=>arg 3;whnf
        refine Z6 rfl ?_;conv=>arg 3;whnf
        refine Z6 rfl ?_;conv=>arg 3;whnf
        refine Zd rfl ?_ ?_<;>conv=>arg 3;whnf
        ·refine Zd rfl ?_ ?_<;>conv=>arg 3;whnf
         ·refine Ze (Za t0 t1 t2 t3 s0.1 x90.1 s0.2.2.1 x90.2 m1_0 m1_1 m1_2 m1_3 m1_4 m1_5) (hrc t0 t1 t2 t3 s0.1 x90.1 s0.2.2.1 x90.2 m1_0 m1_1 m1_2 m1_3 m1_4 m1_5) fun x95 hx95=>?_;conv=>arg 3;whnf
          exact Zf (ih _)
         ·refine Ze (Za t0 t1 t2 t3 s0.1 x90.1 s0.2.2.1 x90.2 m1_0 m1_1 m1_2 m1_3 m1_4 m1_5) (hrc t0 t1 t2 t3 s0.1 x90.1 s0.2.2.1 x90.2 m1_0 m1_1 m1_2 m1_3 m1_4 m1_5) fun x96 hx96=>?_;conv=>arg 3;whnf
          exact Zf (ih _)
        ·refine Zd rfl ?_ ?_<;>conv=>arg 3;whnf
         ·refine Ze (Za t0 t1 t2 t3 (w64 (x90.1+1)) s0.2.1 s0.2.2.1 x90.2 m1_0 m1_1 m1_2 m1_3 m1_4 m1_5) (hrc t0 t1 t2 t3 (w64 (x90.1+1)) s0.2.1 s0.2.2.1 x90.2 m1_0 m1_1 m1_2 m1_3 m1_4 m1_5) fun x97 hx97=>?_;conv=>arg 3;whnf
          exact Zf (ih _)
         ·refine Ze (Za t0 t1 t2 t3 (w64 (x90.1+1)) s0.2.1 s0.2.2.1 x90.2 m1_0 m1_1 m1_2 m1_3 m1_4 m1_5) (hrc t0 t1 t2 t3 (w64 (x90.1+1)) s0.2.1 s0.2.2.1 x90.2 m1_0 m1_1 m1_2 m1_3 m1_4 m1_5) fun x98 hx98=>?_;conv=>arg 3;whnf
          exact Zf (ih _)
     ·refine Zd rfl ?_ ?_<;>conv=>arg 3;whnf
      ·refine Zl rfl rfl fun x99 hx99=>?_;conv=>arg 3;whnf
       refine Zg (ZD rfl hx99) ?_;conv=>arg 3;whnf
       refine Zl rfl rfl fun x100 hx100=>?_;conv=>arg 3;whnf
       refine Zg (ZD rfl hx100) ?_;conv=>arg 3;whnf
       refine Zj _ ZJ rfl fun x101 hx101=>?_;conv=>arg 3;whnf
       refine Zd rfl ?_ ?_<;>conv=>arg 3;whnf
       ·refine Ze _ Zo fun x102 hx102=>?_
        clear hx102
        rcases x102 with x102 | x102
        ·conv=>arg 3;whnf
         refine Zah rfl ?_;conv=>arg 3;whnf
         refine Z6 rfl ?_;conv=>arg 3;whnf
         refine Zd rfl ?_ ?_<;>conv=>arg 3;whnf
         ·refine Zd rfl ?_ ?_<;>conv=>arg 3;whnf
          ·refine Ze (Za t0 t1 t2 t3 s0.1 x102.1 s0.2.2.1 x102.2 m1_0 m1_1 m1_2 m1_3 m1_4 m1_5) (hrc t0 t1 t2 t3 s0.1 x102.1 s0.2.2.1 x102.2 m1_0 m1_1 m1_2 m1_3 m1_4 m1_5) fun x103 hx103=>?_;conv=>arg 3;whnf
           exact Zf (ih _)
          ·refine Ze (Za t0 t1 t2 t3 s0.1 x102.1 s0.2.2.1 x102.2 m1_0 m1_1 m1_2 m1_3 m1_4 m1_5) (hrc t0 t1 t2 t3 s0.1 x102.1 s0.2.2.1 x102.2 m1_0 m1_1 m1_2 m1_3 m1_4 m1_5) fun x104 hx104=>?_;conv=>arg 3;whnf
           exact Zf (ih _)
         ·refine Zd rfl ?_ ?_<;>conv=>arg 3;whnf
          ·refine Ze (Za t0 t1 t2 t3 (w64 (x102.1+1)) s0.2.1 s0.2.2.1 x102.2 m1_0 m1_1 m1_2 m1_3 m1_4 m1_5) (hrc t0 t1 t2 t3 (w64 (x102.1+1)) s0.2.1 s0.2.2.1 x102.2 m1_0 m1_1 m1_2 m1_3 m1_4 m1_5) fun x105 hx105=>?_;conv=>arg 3;whnf
           exact Zf (ih _)
          ·refine Ze (Za t0 t1 t2 t3 (w64 (x102.1+1)) s0.2.1 s0.2.2.1 x102.2 m1_0 m1_1 m1_2 m1_3 m1_4 m1_5) (hrc t0 t1 t2 t3 (w64 (x102.1+1)) s0.2.1 s0.2.2.1 x102.2 m1_0 m1_1 m1_2 m1_3 m1_4 m1_5) fun x106 hx106=>?_;conv=>arg 3;whnf
           exact Zf (ih _)
        ·conv=>arg 3;whnf
         refine Z6 rfl ?_;conv=>arg 3;whnf
         refine Z6 rfl ?_;conv=>arg 3;whnf
         refine Zd rfl ?_ ?_<;>conv=>arg 3;whnf
         ·refine Zd rfl ?_ ?_<;>conv=>arg 3;whnf
          ·refine Ze (Za t0 t1 t2 t3 s0.1 x102.1 s0.2.2.1 x102.2 m1_0 m1_1 m1_2 m1_3 m1_4 m1_5) (hrc t0 t1 t2 t3 s0.1 x102.1 s0.2.2.1 x102.2 m1_0 m1_1 m1_2 m1_3 m1_4 m1_5) fun x107 hx107=>?_;conv=>arg 3;whnf
           exact Zf (ih _)
          ·refine Ze (Za t0 t1 t2 t3 s0.1 x102.1 s0.2.2.1 x102.2 m1_0 m1_1 m1_2 m1_3 m1_4 m1_5) (hrc t0 t1 t2 t3 s0.1 x102.1 s0.2.2.1 x102.2 m1_0 m1_1 m1_2 m1_3 m1_4 m1_5) fun x108 hx108=>?_;conv=>arg 3;whnf
           exact Zf (ih _)
         ·refine Zd rfl ?_ ?_<;>conv=>arg 3;whnf
          ·refine Ze (Za t0 t1 t2 t3 (w64 (x102.1+1)) s0.2.1 s0.2.2.1 x102.2 m1_0 m1_1 m1_2 m1_3 m1_4 m1_5) (hrc t0 t1 t2 t3 (w64 (x102.1+1)) s0.2.1 s0.2.2.1 x102.2 m1_0 m1_1 m1_2 m1_3 m1_4 m1_5) fun x109 hx109=>?_;conv=>arg 3;whnf
           exact Zf (ih _)
          ·refine Ze (Za t0 t1 t2 t3 (w64 (x102.1+1)) s0.2.1 s0.2.2.1 x102.2 m1_0 m1_1 m1_2 m1_3 m1_4 m1_5) (hrc t0 t1 t2 t3 (w64 (x102.1+1)) s0.2.1 s0.2.2.1 x102.2 m1_0 m1_1 m1_2 m1_3 m1_4 m1_5) fun x110 hx110=>?_;conv=>arg 3;whnf
           exact Zf (ih _)
       ·refine Ze _ ZF fun x111 hx111=>?_;conv=>arg 3;whnf
        exact Zf (ih _)
      ·refine Ze _ Zo fun x112 hx112=>?_
       clear hx112
       rcases x112 with x112 | x112
       ·conv=>arg 3;whnf
        refine Zah rfl ?_;conv=>arg 3;whnf
        refine Z6 rfl ?_;conv=>arg 3;whnf
        refine Zd rfl ?_ ?_<;>conv=>arg 3;whnf
        ·refine Zd rfl ?_ ?_<;>conv=>arg 3;whnf
         ·refine Ze (Za t0 t1 t2 t3 s0.1 x112.1 s0.2.2.1 x112.2 m1_0 m1_1 m1_2 m1_3 m1_4 m1_5) (hrc t0 t1 t2 t3 s0.1 x112.1 s0.2.2.1 x112.2 m1_0 m1_1 m1_2 m1_3 m1_4 m1_5) fun x113 hx113=>?_;conv=>arg 3;whnf
          exact Zf (ih _)
         ·refine Ze (Za t0 t1 t2 t3 s0.1 x112.1 s0.2.2.1 x112.2 m1_0 m1_1 m1_2 m1_3 m1_4 m1_5) (hrc t0 t1 t2 t3 s0.1 x112.1 s0.2.2.1 x112.2 m1_0 m1_1 m1_2 m1_3 m1_4 m1_5) fun x114 hx114=>?_;conv=>arg 3;whnf
          exact Zf (ih _)
        ·refine Zd rfl ?_ ?_<;>conv=>arg 3;whnf
         ·refine Ze (Za t0 t1 t2 t3 (w64 (x112.1+1)) s0.2.1 s0.2.2.1 x112.2 m1_0 m1_1 m1_2 m1_3 m1_4 m1_5) (hrc t0 t1 t2 t3 (w64 (x112.1+1)) s0.2.1 s0.2.2.1 x112.2 m1_0 m1_1 m1_2 m1_3 m1_4 m1_5) fun x115 hx115=>?_;conv=>arg 3;whnf
          exact Zf (ih _)
         ·refine Ze (Za t0 t1 t2 t3 (w64 (x112.1+1)) s0.2.1 s0.2.2.1 x112.2 m1_0 m1_1 m1_2 m1_3 m1_4 m1_5) (hrc t0 t1 t2 t3 (w64 (x112.1+1)) s0.2.1 s0.2.2.1 x112.2 m1_0 m1_1 m1_2 m1_3 m1_4 m1_5) fun x116 hx116=>?_;conv=>arg 3;whnf
          exact Zf (ih _)
       ·conv=>arg 3;whnf
        refine Z6 rfl ?_;conv=>arg 3;whnf
        refine Z6 rfl ?_;conv=>arg 3;whnf
        refine Zd rfl ?_ ?_<;>conv=>arg 3;whnf
        ·refine Zd rfl ?_ ?_<;>conv=>arg 3;whnf
         ·refine Ze (Za t0 t1 t2 t3 s0.1 x112.1 s0.2.2.1 x112.2 m1_0 m1_1 m1_2 m1_3 m1_4 m1_5) (hrc t0 t1 t2 t3 s0.1 x112.1 s0.2.2.1 x112.2 m1_0 m1_1 m1_2 m1_3 m1_4 m1_5) fun x117 hx117=>?_;conv=>arg 3;whnf
          exact Zf (ih _)
         ·refine Ze (Za t0 t1 t2 t3 s0.1 x112.1 s0.2.2.1 x112.2 m1_0 m1_1 m1_2 m1_3 m1_4 m1_5) (hrc t0 t1 t2 t3 s0.1 x112.1 s0.2.2.1 x112.2 m1_0 m1_1 m1_2 m1_3 m1_4 m1_5) fun x118 hx118=>?_;conv=>arg 3;whnf
          exact Zf (ih _)
        ·refine Zd rfl ?_ ?_<;>conv=>arg 3;whnf
         ·refine Ze (Za t0 t1 t2 t3 (w64 (x112.1+1)) s0.2.1 s0.2.2.1 x112.2 m1_0 m1_1 m1_2 m1_3 m1_4 m1_5) (hrc t0 t1 t2 t3 (w64 (x112.1+1)) s0.2.1 s0.2.2.1 x112.2 m1_0 m1_1 m1_2 m1_3 m1_4 m1_5) fun x119 hx119=>?_;conv=>arg 3;whnf
          exact Zf (ih _)
         ·refine Ze (Za t0 t1 t2 t3 (w64 (x112.1+1)) s0.2.1 s0.2.2.1 x112.2 m1_0 m1_1 m1_2 m1_3 m1_4 m1_5) (hrc t0 t1 t2 t3 (w64 (x112.1+1)) s0.2.1 s0.2.2.1 x112.2 m1_0 m1_1 m1_2 m1_3 m1_4 m1_5) fun x120 hx120=>?_;conv=>arg 3;whnf
          exact Zf (ih _)
  ·refine ZwI ?_;conv=>arg 3;whnf
   refine Zd rfl ?_ ?_<;>conv=>arg 3;whnf
   ·refine Ze _ Zai fun x1 hx1=>?_;conv=>arg 3;whnf
    exact Zc rfl
   ·refine Zd rfl ?_ ?_<;>conv=>arg 3;whnf
    ·refine Ze _ ZaC fun x2 hx2=>?_;conv=>arg 3;whnf
     exact Zc rfl
    ·refine Ze _ Zas fun x3 hx3=>?_;conv=>arg 3;whnf
     refine Zd rfl ?_ ?_<;>conv=>arg 3;whnf
     ·refine Ze _ Zaq fun x4 hx4=>?_;conv=>arg 3;whnf
      refine Zah rfl ?_;conv=>arg 3;whnf
      refine Ze _ Zbn fun x5 hx5=>?_
      clear hx5
      rcases x5 with x5 | x5
      ·conv=>arg 3;whnf
       exact Zc rfl
      ·conv=>arg 3;whnf
       refine Zd rfl ?_ ?_<;>conv=>arg 3;whnf
       ·refine Zl rfl rfl fun x6 hx6=>?_;conv=>arg 3;whnf
        refine Zg (ZD rfl hx6) ?_;conv=>arg 3;whnf
        refine Zl rfl rfl fun x7 hx7=>?_;conv=>arg 3;whnf
        refine Zg (ZD rfl hx7) ?_;conv=>arg 3;whnf
        refine Zj _ ZJ rfl fun x8 hx8=>?_;conv=>arg 3;whnf
        refine Zd rfl ?_ ?_<;>conv=>arg 3;whnf
        ·refine Ze _ Zo fun x9 hx9=>?_
         clear hx9
         rcases x9 with x9 | x9
         ·conv=>arg 3;whnf
          refine Zah rfl ?_;conv=>arg 3;whnf
          refine Z6 rfl ?_;conv=>arg 3;whnf
          refine Zd rfl ?_ ?_<;>conv=>arg 3;whnf
          ·refine Zd rfl ?_ ?_<;>conv=>arg 3;whnf
           ·refine Ze (Za t0 t1 t2 t3 s0.1 x9.1 s0.2.2.1 x9.2 m1_0 m1_1 m1_2 m1_3 m1_4 m1_5) (hrc t0 t1 t2 t3 s0.1 x9.1 s0.2.2.1 x9.2 m1_0 m1_1 m1_2 m1_3 m1_4 m1_5) fun x10 hx10=>?_;conv=>arg 3;whnf
            exact Zf (ih _)
           ·refine Ze (Za t0 t1 t2 t3 s0.1 x9.1 s0.2.2.1 x9.2 m1_0 m1_1 m1_2 m1_3 m1_4 m1_5) (hrc t0 t1 t2 t3 s0.1 x9.1 s0.2.2.1 x9.2 m1_0 m1_1 m1_2 m1_3 m1_4 m1_5) fun x11 hx11=>?_;conv=>arg 3;whnf
            exact Zf (ih _)
          ·refine Zd rfl ?_ ?_<;>conv=>arg 3;whnf
           ·refine Ze (Za t0 t1 t2 t3 (w64 (x9.1+1)) s0.2.1 s0.2.2.1 x9.2 m1_0 m1_1 m1_2 m1_3 m1_4 m1_5) (hrc t0 t1 t2 t3 (w64 (x9.1+1)) s0.2.1 s0.2.2.1 x9.2 m1_0 m1_1 m1_2 m1_3 m1_4 m1_5) fun x12 hx12=>?_;conv=>arg 3;whnf
            exact Zf (ih _)
           ·refine Ze (Za t0 t1 t2 t3 (w64 (x9.1+1)) s0.2.1 s0.2.2.1 x9.2 m1_0 m1_1 m1_2 m1_3 m1_4 m1_5) (hrc t0 t1 t2 t3 (w64 (x9.1+1)) s0.2.1 s0.2.2.1 x9.2 m1_0 m1_1 m1_2 m1_3 m1_4 m1_5) fun x13 hx13=>?_;conv=>arg 3;whnf
            exact Zf (ih _)
         ·conv=>arg 3;whnf
          refine Z6 rfl ?_;conv=>arg 3;whnf
          refine Z6 rfl ?_;conv=>arg 3;whnf
          refine Zd rfl ?_ ?_<;>conv=>arg 3;whnf
          ·refine Zd rfl ?_ ?_<;>conv=>arg 3;whnf
           ·refine Ze (Za t0 t1 t2 t3 s0.1 x9.1 s0.2.2.1 x9.2 m1_0 m1_1 m1_2 m1_3 m1_4 m1_5) (hrc t0 t1 t2 t3 s0.1 x9.1 s0.2.2.1 x9.2 m1_0 m1_1 m1_2 m1_3 m1_4 m1_5) fun x14 hx14=>?_;conv=>arg 3;whnf
            exact Zf (ih _)
           ·refine Ze (Za t0 t1 t2 t3 s0.1 x9.1 s0.2.2.1 x9.2 m1_0 m1_1 m1_2 m1_3 m1_4 m1_5) (hrc t0 t1 t2 t3 s0.1 x9.1 s0.2.2.1 x9.2 m1_0 m1_1 m1_2 m1_3 m1_4 m1_5) fun x15 hx15=>?_;conv=>arg 3;whnf
            exact Zf (ih _)
          ·refine Zd rfl ?_ ?_<;>conv=>arg 3;whnf
           ·refine Ze (Za t0 t1 t2 t3 (w64 (x9.1+1)) s0.2.1 s0.2.2.1 x9.2 m1_0 m1_1 m1_2 m1_3 m1_4 m1_5) (hrc t0 t1 t2 t3 (w64 (x9.1+1)) s0.2.1 s0.2.2.1 x9.2 m1_0 m1_1 m1_2 m1_3 m1_4 m1_5) fun x16 hx16=>?_;conv=>arg 3;whnf
            exact Zf (ih _)
           ·refine Ze (Za t0 t1 t2 t3 (w64 (x9.1+1)) s0.2.1 s0.2.2.1 x9.2 m1_0 m1_1 m1_2 m1_3 m1_4 m1_5) (hrc t0 t1 t2 t3 (w64 (x9.1+1)) s0.2.1 s0.2.2.1 x9.2 m1_0 m1_1 m1_2 m1_3 m1_4 m1_5) fun x17 hx17=>?_;conv=>arg 3;whnf
            exact Zf (ih _)
        ·refine Ze _ ZF fun x18 hx18=>?_;conv=>arg 3;whnf
         exact Zf (ih _)
       ·refine Ze _ Zo fun x19 hx19=>?_
        clear hx19
        rcases x19 with x19 | x19
        ·conv=>arg 3;whnf
         refine Zah rfl ?_;conv=>arg 3;whnf
         refine Z6 rfl ?_;conv=>arg 3;whnf
         refine Zd rfl ?_ ?_<;>conv=>arg 3;whnf
         ·refine Zd rfl ?_ ?_<;>conv=>arg 3;whnf
          ·refine Ze (Za t0 t1 t2 t3 s0.1 x19.1 s0.2.2.1 x19.2 m1_0 m1_1 m1_2 m1_3 m1_4 m1_5) (hrc t0 t1 t2 t3 s0.1 x19.1 s0.2.2.1 x19.2 m1_0 m1_1 m1_2 m1_3 m1_4 m1_5) fun x20 hx20=>?_;conv=>arg 3;whnf
           exact Zf (ih _)
          ·refine Ze (Za t0 t1 t2 t3 s0.1 x19.1 s0.2.2.1 x19.2 m1_0 m1_1 m1_2 m1_3 m1_4 m1_5) (hrc t0 t1 t2 t3 s0.1 x19.1 s0.2.2.1 x19.2 m1_0 m1_1 m1_2 m1_3 m1_4 m1_5) fun x21 hx21=>?_;conv=>arg 3;whnf
           exact Zf (ih _)
         ·refine Zd rfl ?_ ?_<;>conv=>arg 3;whnf
          ·refine Ze (Za t0 t1 t2 t3 (w64 (x19.1+1)) s0.2.1 s0.2.2.1 x19.2 m1_0 m1_1 m1_2 m1_3 m1_4 m1_5) (hrc t0 t1 t2 t3 (w64 (x19.1+1)) s0.2.1 s0.2.2.1 x19.2 m1_0 m1_1 m1_2 m1_3 m1_4 m1_5) fun x22 hx22=>?_;conv=>arg 3;whnf
           exact Zf (ih _)
          ·refine Ze (Za t0 t1 t2 t3 (w64 (x19.1+1)) s0.2.1 s0.2.2.1 x19.2 m1_0 m1_1 m1_2 m1_3 m1_4 m1_5) (hrc t0 t1 t2 t3 (w64 (x19.1+1)) s0.2.1 s0.2.2.1 x19.2 m1_0 m1_1 m1_2 m1_3 m1_4 m1_5) fun x23 hx23=>?_;conv=>arg 3;whnf
           exact Zf (ih _)
        ·conv=>arg 3;whnf
         refine Z6 rfl ?_;conv=>arg 3;whnf
         refine Z6 rfl ?_;conv=>arg 3;whnf
         refine Zd rfl ?_ ?_<;>conv=>arg 3;whnf
         ·refine Zd rfl ?_ ?_<;>conv=>arg 3;whnf
          ·refine Ze (Za t0 t1 t2 t3 s0.1 x19.1 s0.2.2.1 x19.2 m1_0 m1_1 m1_2 m1_3 m1_4 m1_5) (hrc t0 t1 t2 t3 s0.1 x19.1 s0.2.2.1 x19.2 m1_0 m1_1 m1_2 m1_3 m1_4 m1_5) fun x24 hx24=>?_;conv=>arg 3;whnf
           exact Zf (ih _)
          ·refine Ze (Za t0 t1 t2 t3 s0.1 x19.1 s0.2.2.1 x19.2 m1_0 m1_1 m1_2 m1_3 m1_4 m1_5) (hrc t0 t1 t2 t3 s0.1 x19.1 s0.2.2.1 x19.2 m1_0 m1_1 m1_2 m1_3 m1_4 m1_5) fun x25 hx25=>?_;conv=>arg 3;whnf
           exact Zf (ih _)
         ·refine Zd rfl ?_ ?_<;>conv=>arg 3;whnf
          ·refine Ze (Za t0 t1 t2 t3 (w64 (x19.1+1)) s0.2.1 s0.2.2.1 x19.2 m1_0 m1_1 m1_2 m1_3 m1_4 m1_5) (hrc t0 t1 t2 t3 (w64 (x19.1+1)) s0.2.1 s0.2.2.1 x19.2 m1_0 m1_1 m1_2 m1_3 m1_4 m1_5) fun x26 hx26=>?_;conv=>arg 3;whnf
           exact Zf (ih _)
          ·refine Ze (Za t0 t1 t2 t3 (w64 (x19.1+1)) s0.2.1 s0.2.2.1 x19.2 m1_0 m1_1 m1_2 m1_3 m1_4 m1_5) (hrc t0 t1 t2 t3 (w64 (x19.1+1)) s0.2.1 s0.2.2.1 x19.2 m1_0 m1_1 m1_2 m1_3 m1_4 m1_5) fun x27 hx27=>?_;conv=>arg 3;whnf
           exact Zf (ih _)
     ·refine Zd rfl ?_ ?_<;>conv=>arg 3;whnf
      ·refine Ze _ Zbn fun x28 hx28=>?_
       clear hx28
       rcases x28 with x28 | x28
       ·conv=>arg 3;whnf
        exact Zc rfl
       ·conv=>arg 3;whnf
        refine Zd rfl ?_ ?_<;>conv=>arg 3;whnf
        ·refine Zl rfl rfl fun x29 hx29=>?_;conv=>arg 3;whnf
         refine Zg (ZD rfl hx29) ?_;conv=>arg 3;whnf
         refine Zl rfl rfl fun x30 hx30=>?_;conv=>arg 3;whnf
         refine Zg (ZD rfl hx30) ?_;conv=>arg 3;whnf
         refine Zj _ ZJ rfl fun x31 hx31=>?_;conv=>arg 3;whnf
         refine Zd rfl ?_ ?_<;>conv=>arg 3;whnf
         ·refine Ze _ Zo fun x32 hx32=>?_
          clear hx32
          rcases x32 with x32 | x32
          ·conv=>arg 3;whnf
           refine Zah rfl ?_;conv=>arg 3;whnf
           refine Z6 rfl ?_;conv=>arg 3;whnf
           refine Zd rfl ?_ ?_<;>conv=>arg 3;whnf
           ·refine Zd rfl ?_ ?_<;>conv=>arg 3;whnf
            ·refine Ze (Za t0 t1 t2 t3 s0.1 x32.1 s0.2.2.1 x32.2 m1_0 m1_1 m1_2 m1_3 m1_4 m1_5) (hrc t0 t1 t2 t3 s0.1 x32.1 s0.2.2.1 x32.2 m1_0 m1_1 m1_2 m1_3 m1_4 m1_5) fun x33 hx33=>?_;conv=>arg 3;whnf
             exact Zf (ih _)
            ·refine Ze (Za t0 t1 t2 t3 s0.1 x32.1 s0.2.2.1 x32.2 m1_0 m1_1 m1_2 m1_3 m1_4 m1_5) (hrc t0 t1 t2 t3 s0.1 x32.1 s0.2.2.1 x32.2 m1_0 m1_1 m1_2 m1_3 m1_4 m1_5) fun x34 hx34=>?_;conv=>arg 3;whnf
             exact Zf (ih _)
           ·refine Zd rfl ?_ ?_<;>conv=>arg 3;whnf
            ·refine Ze (Za t0 t1 t2 t3 (w64 (x32.1+1)) s0.2.1 s0.2.2.1 x32.2 m1_0 m1_1 m1_2 m1_3 m1_4 m1_5) (hrc t0 t1 t2 t3 (w64 (x32.1+1)) s0.2.1 s0.2.2.1 x32.2 m1_0 m1_1 m1_2 m1_3 m1_4 m1_5) fun x35 hx35=>?_;conv=>arg 3;whnf
             exact Zf (ih _)
            ·refine Ze (Za t0 t1 t2 t3 (w64 (x32.1+1)) s0.2.1 s0.2.2.1 x32.2 m1_0 m1_1 m1_2 m1_3 m1_4 m1_5) (hrc t0 t1 t2 t3 (w64 (x32.1+1)) s0.2.1 s0.2.2.1 x32.2 m1_0 m1_1 m1_2 m1_3 m1_4 m1_5) fun x36 hx36=>?_;conv=>arg 3;whnf
             exact Zf (ih _)
          ·conv=>arg 3;whnf
           refine Z6 rfl ?_;conv=>arg 3;whnf
           refine Z6 rfl ?_;conv=>arg 3;whnf
           refine Zd rfl ?_ ?_<;>conv=>arg 3;whnf
           ·refine Zd rfl ?_ ?_<;>conv=>arg 3;whnf
            ·refine Ze (Za t0 t1 t2 t3 s0.1 x32.1 s0.2.2.1 x32.2 m1_0 m1_1 m1_2 m1_3 m1_4 m1_5) (hrc t0 t1 t2 t3 s0.1 x32.1 s0.2.2.1 x32.2 m1_0 m1_1 m1_2 m1_3 m1_4 m1_5) fun x37 hx37=>?_;conv=>arg 3;whnf
             exact Zf (ih _)
            ·refine Ze (Za t0 t1 t2 t3 s0.1 x32.1 s0.2.2.1 x32.2 m1_0 m1_1 m1_2 m1_3 m1_4 m1_5) (hrc t0 t1 t2 t3 s0.1 x32.1 s0.2.2.1 x32.2 m1_0 m1_1 m1_2 m1_3 m1_4 m1_5) fun x38 hx38=>?_;conv=>arg 3;whnf
             exact Zf (ih _)
           ·refine Zd rfl ?_ ?_<;>conv=>arg 3;whnf
            ·refine Ze (Za t0 t1 t2 t3 (w64 (x32.1+1)) s0.2.1 s0.2.2.1 x32.2 m1_0 m1_1 m1_2 m1_3 m1_4 m1_5) (hrc t0 t1 t2 t3 (w64 (x32.1+1)) s0.2.1 s0.2.2.1 x32.2 m1_0 m1_1 m1_2 m1_3 m1_4 m1_5) fun x39 hx39=>?_;conv=>arg 3;whnf
             exact Zf (ih _)
            ·refine Ze (Za t0 t1 t2 t3 (w64 (x32.1+1)) s0.2.1 s0.2.2.1 x32.2 m1_0 m1_1 m1_2 m1_3 m1_4 m1_5) (hrc t0 t1 t2 t3 (w64 (x32.1+1)) s0.2.1 s0.2.2.1 x32.2 m1_0 m1_1 m1_2 m1_3 m1_4 m1_5) fun x40 hx40=>?_;conv=>arg 3;whnf
             exact Zf (ih _)
         ·refine Ze _ ZF fun x41 hx41=>?_;conv=>arg 3;whnf
          exact Zf (ih _)
        ·refine Ze _ Zo fun x42 hx42=>?_
         clear hx42
         rcases x42 with x42 | x42
         ·conv=>arg 3;whnf
          refine Zah rfl ?_;conv=>arg 3;whnf
          refine Z6 rfl ?_;conv=>arg 3;whnf
          refine Zd rfl ?_ ?_<;>conv=>arg 3;whnf
          ·refine Zd rfl ?_ ?_<;>conv=>arg 3;whnf
           ·refine Ze (Za t0 t1 t2 t3 s0.1 x42.1 s0.2.2.1 x42.2 m1_0 m1_1 m1_2 m1_3 m1_4 m1_5) (hrc t0 t1 t2 t3 s0.1 x42.1 s0.2.2.1 x42.2 m1_0 m1_1 m1_2 m1_3 m1_4 m1_5) fun x43 hx43=>?_;conv=>arg 3;whnf
            exact Zf (ih _)
           ·refine Ze (Za t0 t1 t2 t3 s0.1 x42.1 s0.2.2.1 x42.2 m1_0 m1_1 m1_2 m1_3 m1_4 m1_5) (hrc t0 t1 t2 t3 s0.1 x42.1 s0.2.2.1 x42.2 m1_0 m1_1 m1_2 m1_3 m1_4 m1_5) fun x44 hx44=>?_;conv=>arg 3;whnf
            exact Zf (ih _)
          ·refine Zd rfl ?_ ?_<;>conv=>arg 3;whnf
           ·refine Ze (Za t0 t1 t2 t3 (w64 (x42.1+1)) s0.2.1 s0.2.2.1 x42.2 m1_0 m1_1 m1_2 m1_3 m1_4 m1_5) (hrc t0 t1 t2 t3 (w64 (x42.1+1)) s0.2.1 s0.2.2.1 x42.2 m1_0 m1_1 m1_2 m1_3 m1_4 m1_5) fun x45 hx45=>?_;conv=>arg 3;whnf
            exact Zf (ih _)
           ·refine Ze (Za t0 t1 t2 t3 (w64 (x42.1+1)) s0.2.1 s0.2.2.1 x42.2 m1_0 m1_1 m1_2 m1_3 m1_4 m1_5) (hrc t0 t1 t2 t3 (w64 (x42.1+1)) s0.2.1 s0.2.2.1 x42.2 m1_0 m1_1 m1_2 m1_3 m1_4 m1_5) fun x46 hx46=>?_;conv=>arg 3;whnf
            exact Zf (ih _)
         ·conv=>arg 3;whnf
          refine Z6 rfl ?_;conv=>arg 3;whnf
          refine Z6 rfl ?_;conv=>arg 3;whnf
          refine Zd rfl ?_ ?_<;>conv=>arg 3;whnf
          ·refine Zd rfl ?_ ?_<;>conv=>arg 3;whnf
           ·refine Ze (Za t0 t1 t2 t3 s0.1 x42.1 s0.2.2.1 x42.2 m1_0 m1_1 m1_2 m1_3 m1_4 m1_5) (hrc t0 t1 t2 t3 s0.1 x42.1 s0.2.2.1 x42.2 m1_0 m1_1 m1_2 m1_3 m1_4 m1_5) fun x47 hx47=>?_;conv=>arg 3;whnf
            exact Zf (ih _)
           ·refine Ze (Za t0 t1 t2 t3 s0.1 x42.1 s0.2.2.1 x42.2 m1_0 m1_1 m1_2 m1_3 m1_4 m1_5) (hrc t0 t1 t2 t3 s0.1 x42.1 s0.2.2.1 x42.2 m1_0 m1_1 m1_2 m1_3 m1_4 m1_5) fun x48 hx48=>?_;conv=>arg 3;whnf
            exact Zf (ih _)
          ·refine Zd rfl ?_ ?_<;>conv=>arg 3;whnf
           ·refine Ze (Za t0 t1 t2 t3 (w64 (x42.1+1)) s0.2.1 s0.2.2.1 x42.2 m1_0 m1_1 m1_2 m1_3 m1_4 m1_5) (hrc t0 t1 t2 t3 (w64 (x42.1+1)) s0.2.1 s0.2.2.1 x42.2 m1_0 m1_1 m1_2 m1_3 m1_4 m1_5) fun x49 hx49=>?_;conv=>arg 3;whnf
            exact Zf (ih _)
           ·refine Ze (Za t0 t1 t2 t3 (w64 (x42.1+1)) s0.2.1 s0.2.2.1 x42.2 m1_0 m1_1 m1_2 m1_3 m1_4 m1_5) (hrc t0 t1 t2 t3 (w64 (x42.1+1)) s0.2.1 s0.2.2.1 x42.2 m1_0 m1_1 m1_2 m1_3 m1_4 m1_5) fun x50 hx50=>?_;conv=>arg 3;whnf
            exact Zf (ih _)
      ·refine Zd rfl ?_ ?_<;>conv=>arg 3;whnf
       ·refine Zl rfl rfl fun x51 hx51=>?_;conv=>arg 3;whnf
        refine Zg (ZD rfl hx51) ?_;conv=>arg 3;whnf
        refine Zl rfl rfl fun x52 hx52=>?_;conv=>arg 3;whnf
        refine Zg (ZD rfl hx52) ?_;conv=>arg 3;whnf
        refine Zj _ ZJ rfl fun x53 hx53=>?_;conv=>arg 3;whnf
        refine Zd rfl ?_ ?_<;>conv=>arg 3;whnf
        ·refine Ze _ Zo fun x54 hx54=>?_
         clear hx54
         rcases x54 with x54 | x54
         ·conv=>arg 3;whnf
          refine Zah rfl ?_;conv=>arg 3;whnf
          refine Z6 rfl ?_;conv=>arg 3;whnf
          refine Zd rfl ?_ ?_<;>conv=>arg 3;whnf
          ·refine Zd rfl ?_ ?_<;>conv=>arg 3;whnf
           ·refine Ze (Za t0 t1 t2 t3 s0.1 x54.1 s0.2.2.1 x54.2 m1_0 m1_1 m1_2 m1_3 m1_4 m1_5) (hrc t0 t1 t2 t3 s0.1 x54.1 s0.2.2.1 x54.2 m1_0 m1_1 m1_2 m1_3 m1_4 m1_5) fun x55 hx55=>?_;conv=>arg 3;whnf
            exact Zf (ih _)
           ·refine Ze (Za t0 t1 t2 t3 s0.1 x54.1 s0.2.2.1 x54.2 m1_0 m1_1 m1_2 m1_3 m1_4 m1_5) (hrc t0 t1 t2 t3 s0.1 x54.1 s0.2.2.1 x54.2 m1_0 m1_1 m1_2 m1_3 m1_4 m1_5) fun x56 hx56=>?_;conv=>arg 3;whnf
            exact Zf (ih _)
          ·refine Zd rfl ?_ ?_<;>conv=>arg 3;whnf
           ·refine Ze (Za t0 t1 t2 t3 (w64 (x54.1+1)) s0.2.1 s0.2.2.1 x54.2 m1_0 m1_1 m1_2 m1_3 m1_4 m1_5) (hrc t0 t1 t2 t3 (w64 (x54.1+1)) s0.2.1 s0.2.2.1 x54.2 m1_0 m1_1 m1_2 m1_3 m1_4 m1_5) fun x57 hx57=>?_;conv=>arg 3;whnf
            exact Zf (ih _)
           ·refine Ze (Za t0 t1 t2 t3 (w64 (x54.1+1)) s0.2.1 s0.2.2.1 x54.2 m1_0 m1_1 m1_2 m1_3 m1_4 m1_5) (hrc t0 t1 t2 t3 (w64 (x54.1+1)) s0.2.1 s0.2.2.1 x54.2 m1_0 m1_1 m1_2 m1_3 m1_4 m1_5) fun x58 hx58=>?_;conv=>arg 3;whnf
            exact Zf (ih _)
         ·conv=>arg 3;whnf
          refine Z6 rfl ?_;conv=>arg 3;whnf
          refine Z6 rfl ?_;conv=>arg 3;whnf
          refine Zd rfl ?_ ?_<;>conv=>arg 3;whnf
          ·refine Zd rfl ?_ ?_<;>conv=>arg 3;whnf
           ·refine Ze (Za t0 t1 t2 t3 s0.1 x54.1 s0.2.2.1 x54.2 m1_0 m1_1 m1_2 m1_3 m1_4 m1_5) (hrc t0 t1 t2 t3 s0.1 x54.1 s0.2.2.1 x54.2 m1_0 m1_1 m1_2 m1_3 m1_4 m1_5) fun x59 hx59=>?_;conv=>arg 3;whnf
            exact Zf (ih _)
           ·refine Ze (Za t0 t1 t2 t3 s0.1 x54.1 s0.2.2.1 x54.2 m1_0 m1_1 m1_2 m1_3 m1_4 m1_5) (hrc t0 t1 t2 t3 s0.1 x54.1 s0.2.2.1 x54.2 m1_0 m1_1 m1_2 m1_3 m1_4 m1_5) fun x60 hx60=>?_;conv=>arg 3;whnf
            exact Zf (ih _)
          ·refine Zd rfl ?_ ?_<;>conv=>arg 3;whnf
           ·refine Ze (Za t0 t1 t2 t3 (w64 (x54.1+1)) s0.2.1 s0.2.2.1 x54.2 m1_0 m1_1 m1_2 m1_3 m1_4 m1_5) (hrc t0 t1 t2 t3 (w64 (x54.1+1)) s0.2.1 s0.2.2.1 x54.2 m1_0 m1_1 m1_2 m1_3 m1_4 m1_5) fun x61 hx61=>?_;conv=>arg 3;whnf
            exact Zf (ih _)
           ·refine Ze (Za t0 t1 t2 t3 (w64 (x54.1+1)) s0.2.1 s0.2.2.1 x54.2 m1_0 m1_1 m1_2 m1_3 m1_4 m1_5) (hrc t0 t1 t2 t3 (w64 (x54.1+1)) s0.2.1 s0.2.2.1 x54.2 m1_0 m1_1 m1_2 m1_3 m1_4 m1_5) fun x62 hx62=>?_;conv=>arg 3;whnf
            exact Zf (ih _)
        ·refine Ze _ ZF fun x63 hx63=>?_;conv=>arg 3;whnf
         exact Zf (ih _)
       ·refine Ze _ Zo fun x64 hx64=>?_
        clear hx64
        rcases x64 with x64 | x64
        ·conv=>arg 3;whnf
         refine Zah rfl ?_;conv=>arg 3;whnf
         refine Z6 rfl ?_;conv=>arg 3;whnf
         refine Zd rfl ?_ ?_<;>conv=>arg 3;whnf
         ·refine Zd rfl ?_ ?_<;>conv=>arg 3;whnf
          ·refine Ze (Za t0 t1 t2 t3 s0.1 x64.1 s0.2.2.1 x64.2 m1_0 m1_1 m1_2 m1_3 m1_4 m1_5) (hrc t0 t1 t2 t3 s0.1 x64.1 s0.2.2.1 x64.2 m1_0 m1_1 m1_2 m1_3 m1_4 m1_5) fun x65 hx65=>?_;conv=>arg 3;whnf
           exact Zf (ih _)
          ·refine Ze (Za t0 t1 t2 t3 s0.1 x64.1 s0.2.2.1 x64.2 m1_0 m1_1 m1_2 m1_3 m1_4 m1_5) (hrc t0 t1 t2 t3 s0.1 x64.1 s0.2.2.1 x64.2 m1_0 m1_1 m1_2 m1_3 m1_4 m1_5) fun x66 hx66=>?_;conv=>arg 3;whnf
           exact Zf (ih _)
         ·refine Zd rfl ?_ ?_<;>conv=>arg 3;whnf
          ·refine Ze (Za t0 t1 t2 t3 (w64 (x64.1+1)) s0.2.1 s0.2.2.1 x64.2 m1_0 m1_1 m1_2 m1_3 m1_4 m1_5) (hrc t0 t1 t2 t3 (w64 (x64.1+1)) s0.2.1 s0.2.2.1 x64.2 m1_0 m1_1 m1_2 m1_3 m1_4 m1_5) fun x67 hx67=>?_;conv=>arg 3;whnf
           exact Zf (ih _)
          ·refine Ze (Za t0 t1 t2 t3 (w64 (x64.1+1)) s0.2.1 s0.2.2.1 x64.2 m1_0 m1_1 m1_2 m1_3 m1_4 m1_5) (hrc t0 t1 t2 t3 (w64 (x64.1+1)) s0.2.1 s0.2.2.1 x64.2 m1_0 m1_1 m1_2 m1_3 m1_4 m1_5) fun x68 hx68=>?_;conv=>arg 3;whnf
           exact Zf (ih _)
        ·conv=>arg 3;whnf
         refine Z6 rfl ?_;conv=>arg 3;whnf
         refine Z6 rfl ?_;conv=>arg 3;whnf
         refine Zd rfl ?_ ?_<;>conv=>arg 3;whnf
         ·refine Zd rfl ?_ ?_<;>conv=>arg 3;whnf
          ·refine Ze (Za t0 t1 t2 t3 s0.1 x64.1 s0.2.2.1 x64.2 m1_0 m1_1 m1_2 m1_3 m1_4 m1_5) (hrc t0 t1 t2 t3 s0.1 x64.1 s0.2.2.1 x64.2 m1_0 m1_1 m1_2 m1_3 m1_4 m1_5) fun x69 hx69=>?_;conv=>arg 3;whnf
           exact Zf (ih _)
          ·refine Ze (Za t0 t1 t2 t3 s0.1 x64.1 s0.2.2.1 x64.2 m1_0 m1_1 m1_2 m1_3 m1_4 m1_5) (hrc t0 t1 t2 t3 s0.1 x64.1 s0.2.2.1 x64.2 m1_0 m1_1 m1_2 m1_3 m1_4 m1_5) fun x70 hx70=>?_;conv=>arg 3;whnf
           exact Zf (ih _)
         ·refine Zd rfl ?_ ?_<;>conv=>arg 3;whnf
          ·refine Ze (Za t0 t1 t2 t3 (w64 (x64.1+1)) s0.2.1 s0.2.2.1 x64.2 m1_0 m1_1 m1_2 m1_3 m1_4 m1_5) (hrc t0 t1 t2 t3 (w64 (x64.1+1)) s0.2.1 s0.2.2.1 x64.2 m1_0 m1_1 m1_2 m1_3 m1_4 m1_5) fun x71 hx71=>?_;conv=>arg 3;whnf
           exact Zf (ih _)
          ·refine Ze (Za t0 t1 t2 t3 (w64 (x64.1+1)) s0.2.1 s0.2.2.1 x64.2 m1_0 m1_1 m1_2 m1_3 m1_4 m1_5) (hrc t0 t1 t2 t3 (w64 (x64.1+1)) s0.2.1 s0.2.2.1 x64.2 m1_0 m1_1 m1_2 m1_3 m1_4 m1_5) fun x72 hx72=>?_;conv=>arg 3;whnf
           exact Zf (ih _)
theorem ZeW (rc:Int→Int→Int→(Int→Int→Option Int)→(List Int)→Option (List Int)) (hrc:∀(t0:Bool) (t1:Bool) (t2:Bool) (t3:Bool) (b:Int) (c:Int) (d:Int) (m0_0:(List Int)) (m1_0:Int) (m1_1:Int) (m1_2:(List ZV)) (m1_3:(List Zn)) (m1_4:(List Zm)) (m1_5:(List Zs)) (r:(List Int)),rc b c d (fun z0 z1=>Zw z0 z1 m1_4) m0_0=some r→evW ctx 117 [(.sl 0 1),(.d (Zb b)),(.d (Zb c)),(.d (Zb d)),(.fn 106 [(.ptr 1 0)])] [(.arr 1 (List.map Zb m0_0)),(.cells [(.d (Zb m1_0)),(.d (Zb m1_1)),(.d (D.list t0 (List.map Z8 m1_2))),(.d (D.list t1 (List.map Zv m1_3))),(.d (D.list t2 (List.map Zr m1_4))),(.d (D.list t3 (List.map Zz m1_5)))])]=some ((Za t0 t1 t2 t3 b c d m0_0 m1_0 m1_1 m1_2 m1_3 m1_4 m1_5) r)) (t0:Bool) (t1:Bool) (t2:Bool) (t3:Bool) (b:Int) (c:Int) (d:Int) (m0_0:(List Int)) (m1_0:Int) (m1_1:Int) (m1_2:(List ZV)) (m1_3:(List Zn)) (m1_4:(List Zm)) (m1_5:(List Zs)):∀r,(ZaF rc b c d (fun z0 z1=>Zw z0 z1 m1_4) m0_0)=some r→evW ctx 117 [(.sl 0 1),(.d (Zb b)),(.d (Zb c)),(.d (Zb d)),(.fn 106 [(.ptr 1 0)])] [(.arr 1 (List.map Zb m0_0)),(.cells [(.d (Zb m1_0)),(.d (Zb m1_1)),(.d (D.list t0 (List.map Z8 m1_2))),(.d (D.list t1 (List.map Zv m1_3))),(.d (D.list t2 (List.map Zr m1_4))),(.d (D.list t3 (List.map Zz m1_5)))])]=some ((Za t0 t1 t2 t3 b c d m0_0 m1_0 m1_1 m1_2 m1_3 m1_4 m1_5) r):=by
 show ZG _ (fun r rhs=>rhs=some ((Za t0 t1 t2 t3 b c d m0_0 m1_0 m1_1 m1_2 m1_3 m1_4 m1_5) r)) _
 unfold ZaF
 rw[Zgw ctx 117 ZzI _ _ rfl rfl]
 conv=>arg 3;whnf
 refine Ze _ (ZeS hrc _) fun r219 hr219=>?_;conv=>arg 3;whnf
 exact Zc rfl
theorem Zci:∀(n:Nat) (t0:Bool) (t1:Bool) (t2:Bool) (t3:Bool) (b:Int) (c:Int) (d:Int) (m0_0:(List Int)) (m1_0:Int) (m1_1:Int) (m1_2:(List ZV)) (m1_3:(List Zn)) (m1_4:(List Zm)) (m1_5:(List Zs)) (r:(List Int)),Z3 n b c d (fun z0 z1=>Zw z0 z1 m1_4) m0_0=some r→evW ctx 117 [(.sl 0 1),(.d (Zb b)),(.d (Zb c)),(.d (Zb d)),(.fn 106 [(.ptr 1 0)])] [(.arr 1 (List.map Zb m0_0)),(.cells [(.d (Zb m1_0)),(.d (Zb m1_1)),(.d (D.list t0 (List.map Z8 m1_2))),(.d (D.list t1 (List.map Zv m1_3))),(.d (D.list t2 (List.map Zr m1_4))),(.d (D.list t3 (List.map Zz m1_5)))])]=some ((Za t0 t1 t2 t3 b c d m0_0 m1_0 m1_1 m1_2 m1_3 m1_4 m1_5) r)
  | 0,t0,t1,t2,t3,b,c,d,m0_0,m1_0,m1_1,m1_2,m1_3,m1_4,m1_5,r,h=>by cases h
  | n+1,t0,t1,t2,t3,b,c,d,m0_0,m1_0,m1_1,m1_2,m1_3,m1_4,m1_5,r,h=>ZeW (Z3 n) (Zci n) t0 t1 t2 t3 b c d m0_0 m1_0 m1_1 m1_2 m1_3 m1_4 m1_5 r h
theorem Zfm {t0:Bool}{t1:Bool}{t2:Bool}{t3:Bool}{b:Int}{c:Int}{d:Int}{m0_0:(List Int)}{m1_0:Int}{m1_1:Int}{m1_2:(List ZV)}{m1_3:(List Zn)}{m1_4:(List Zm)}{m1_5:(List Zs)}:∀r,Zd1 b c d (fun z0 z1=>Zw z0 z1 m1_4) m0_0=some r→evW ctx 117 [(.sl 0 1),(.d (Zb b)),(.d (Zb c)),(.d (Zb d)),(.fn 106 [(.ptr 1 0)])] [(.arr 1 (List.map Zb m0_0)),(.cells [(.d (Zb m1_0)),(.d (Zb m1_1)),(.d (D.list t0 (List.map Z8 m1_2))),(.d (D.list t1 (List.map Zv m1_3))),(.d (D.list t2 (List.map Zr m1_4))),(.d (D.list t3 (List.map Zz m1_5)))])]=some ((Za t0 t1 t2 t3 b c d m0_0 m1_0 m1_1 m1_2 m1_3 m1_4 m1_5) r):=fun r h=>by
  obtain⟨n,hn⟩:=ZDu h
  exact Zci n t0 t1 t2 t3 b c d m0_0 m1_0 m1_1 m1_2 m1_3 m1_4 m1_5 r hn
def ZcH (t0:Bool) (t1:Bool) (t2:Bool) (t3:Bool) (m0_0:(List Int)) (m1_0:Int) (m1_1:Int) (m1_2:(List ZV)) (m1_3:(List Zn)) (m1_4:(List Zm)) (m1_5:(List Zs)):(List Int)→V×Zp
  | r=>((.d (D.tup [])),[(.arr 1 (List.map Zb r)),(.cells [(.d (Zb m1_0)),(.d (Zb m1_1)),(.d (D.list t0 (List.map Z8 m1_2))),(.d (D.list t1 (List.map Zv m1_3))),(.d (D.list t2 (List.map Zr m1_4))),(.d (D.list t3 (List.map Zz m1_5)))])])
theorem Zfl {t0:Bool}{t1:Bool}{t2:Bool}{t3:Bool}{m0_0:(List Int)}{m1_0:Int}{m1_1:Int}{m1_2:(List ZV)}{m1_3:(List Zn)}{m1_4:(List Zm)}{m1_5:(List Zs)}:∀r,(ZaU (fun z0 z1=>Zw z0 z1 m1_4) m0_0)=some r→evW ctx 105 [(.sl 0 1),(.fn 106 [(.ptr 1 0)])] [(.arr 1 (List.map Zb m0_0)),(.cells [(.d (Zb m1_0)),(.d (Zb m1_1)),(.d (D.list t0 (List.map Z8 m1_2))),(.d (D.list t1 (List.map Zv m1_3))),(.d (D.list t2 (List.map Zr m1_4))),(.d (D.list t3 (List.map Zz m1_5)))])]=some ((ZcH t0 t1 t2 t3 m0_0 m1_0 m1_1 m1_2 m1_3 m1_4 m1_5) r):=by
 show ZG _ (fun r rhs=>rhs=some ((ZcH t0 t1 t2 t3 m0_0 m1_0 m1_1 m1_2 m1_3 m1_4 m1_5) r)) _
 unfold ZaU
 rw[Zgw ctx 105 ZBJ _ _ rfl rfl]
 conv=>arg 3;whnf
 refine Zk (Zt _ _) ?_;conv=>arg 3;whnf
 refine Zj _ ZjY rfl fun x0 hx0=>?_;conv=>arg 3;whnf
 refine Ze _ Zfm fun x1 hx1=>?_;conv=>arg 3;whnf
 exact Zc rfl
def ZkV (r:(List Int)):D:=(D.list true (List.map Zb r))
def ZiX (t0:Bool) (t1:Bool) (t2:Bool) (t3:Bool) (a:Zi) (b:Int):(List Int)→Ex×List V×Zp
  | r=>(.exit 0,[(.ptr 0 0),(.sl 1 1)],[(.cells (dV t0 t1 t2 t3 a)),(.arr 1 (List.map Zb r))])
theorem Zne {t0:Bool}{t1:Bool}{t2:Bool}{t3:Bool}{a:Zi}{b:Int}:∀(s1:Int×(List Int)) (r:(List Int)),lp (ZdJ a b) s1=some r→lpW ctx 0 [1,2,5,12,13,14] [2,5] ZzS [(.d (Zb b)),(.ptr 0 0),(.sl 1 1),(.d (D.list t2 (List.map Zr a.futures))),(.d (Zb (a.futures.length:Int))),(.d (Zb s1.1))] [(.cells (dV t0 t1 t2 t3 a)),(.arr 1 (List.map Zb s1.2))]=some ((ZiX t0 t1 t2 t3 a b) r):=by
 refine Z1 (ZiX t0 t1 t2 t3 a b) ?_
 intro s1 rcl ih
 show ZG _ _ (lpW _ _ _ _ _ _ _)
 unfold ZdJ
 rw[Z2]
 conv=>arg 3;whnf
 refine Zd rfl ?_ ?_<;>conv=>arg 3;whnf
 ·refine Zl rfl rfl fun x2 hx2=>?_;conv=>arg 3;whnf
  refine Zd rfl ?_ ?_<;>conv=>arg 3;whnf
  ·refine Zah rfl ?_;conv=>arg 3;whnf
   refine Zd (Zcg Zb s1.2 1) ?_ ?_
   ·conv=>arg 3;whnf
    refine Zk (Zcf Zb s1.2 [s1.1]) ?_;conv=>arg 3;whnf
    exact Zf (ih _)
   ·exact ZQ
  ·exact Zf (ih _)
 ·exact Zc rfl
theorem Zkq {t0:Bool}{t1:Bool}{t2:Bool}{t3:Bool}{a:Zi}{b:Int}:∀r,(ZcZ a b)=some r→evD ctx 78 [(.d (D.agg (dA t0 t1 t2 t3 a))),(.d (Zb b))]=some (ZkV r):=by
 show ZG _ (fun r rhs=>rhs=some (ZkV r)) _
 unfold ZcZ
 rw[Z4 ctx 78 ZFB _ rfl rfl]
 conv=>arg 3;whnf
 refine Zj _ ZiN rfl fun x0 hx0=>?_;conv=>arg 3;whnf
 refine Zd rfl ?_ ?_<;>conv=>arg 3;whnf
 ·exact Zc rfl
 ·refine Zk (Zt _ _) ?_;conv=>arg 3;whnf
  refine Ze _ (Zne _) fun r3 hr3=>?_;conv=>arg 3;whnf
  refine Ze _ Zfl fun x4 hx4=>?_;conv=>arg 3;whnf
  exact Zc rfl
end Go.Proofs.YtnmbdjkbaihicaaGreatDoor
