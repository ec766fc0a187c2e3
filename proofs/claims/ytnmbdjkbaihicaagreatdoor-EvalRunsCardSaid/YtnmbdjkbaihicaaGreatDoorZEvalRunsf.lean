/- EvalRuns: part 6 of 7 of the proof. -/
import Derived.Test.YtnmbdjkbaihicaaGreatDoorZEvalRunse
import Derived.KernelRfl
set_option maxRecDepth 100000
set_option maxHeartbeats 40000000
namespace Go.Proofs.YtnmbdjkbaihicaaGreatDoor
open Go Go.Proofs.YtnmbdjkbaihicaaGreatDoorE
set_option linter.unusedVariables false
set_option linter.unusedSimpArgs false
theorem ZhG:∀r,ZgA=some r→evD ctx 6 []=some (D.bool r):=fun r h=>by
  cases h
  exact ZEV 100 (by kernel_rfl)
def Zoe (r:Bool):D:=(D.bool r)
def Zkn (t0:Bool) (t1:Bool) (t2:Bool) (t3:Bool) (a:Zi):(Unit⊕Unit)→Ex×List V×Zp
  | (.inl r)=>(.ret,[(.ptr 0 0),(.d (D.bool false))],[(.cells (dV t0 t1 t2 t3 a))])
  | (.inr r)=>(.exit 0,[(.ptr 0 0),.bad],[(.cells (dV t0 t1 t2 t3 a))])
theorem Zo9 {t0:Bool}{t1:Bool}{t2:Bool}{t3:Bool}{a:Zi}:∀(s0:Int) (r:(Unit⊕Unit)),lp (Ze5 a) s0=some r→lpW ctx 0 [1,3] [1,2] ZAU [(.ptr 0 0),(.d (Zb s0))] [(.cells (dV t0 t1 t2 t3 a))]=some ((Zkn t0 t1 t2 t3 a) r):=by
 refine Z2 (Zkn t0 t1 t2 t3 a) ?_
 intro s0 rcl ih
 show ZH _ _ (lpW _ _ _ _ _ _ _)
 unfold Ze5
 rw[Z3]
 conv=>arg 3;whnf
 refine Zk (Zu _ _) ?_;conv=>arg 3;whnf
 refine Zd rfl ?_ ?_<;>conv=>arg 3;whnf
 ·refine Zd rfl ?_ ?_<;>conv=>arg 3;whnf
  ·refine Zl rfl rfl fun x1 hx1=>?_;conv=>arg 3;whnf
   refine Zk (Zu _ _) ?_;conv=>arg 3;whnf
   refine Zd rfl ?_ ?_<;>conv=>arg 3;whnf
   ·exact Zc rfl
   ·refine Zg (Za3 rfl hx1) ?_;conv=>arg 3;whnf
    refine Zk (Zu _ _) ?_;conv=>arg 3;whnf
    refine Zd rfl ?_ ?_<;>conv=>arg 3;whnf
    ·exact Zc rfl
    ·exact Zf (ih _)
  ·exact Zc rfl
 ·exact Zc rfl
theorem ZsB {t0:Bool}{t1:Bool}{t2:Bool}{t3:Bool}{a:Zi}:∀r,(Zh0 a)=some r→evD ctx 27 [(.d (D.agg (dA t0 t1 t2 t3 a)))]=some (Zoe r):=by
 show ZH _ (fun r rhs=>rhs=some (Zoe r)) _
 unfold Zh0
 rw[Z8 ctx 27 ZDM _ rfl rfl]
 conv=>arg 3;whnf
 refine Ze _ (Zo9 _) fun r2 hr2=>?_
 clear hr2
 rcases r2 with r2 | r2
 ·conv=>arg 3;whnf
  exact Zc rfl
 ·conv=>arg 3;whnf
  refine Zk (Zu _ _) ?_;conv=>arg 3;whnf
  refine Zd rfl ?_ ?_<;>conv=>arg 3;whnf
  ·refine Zk (Zu _ _) ?_;conv=>arg 3;whnf
   refine Zd rfl ?_ ?_<;>conv=>arg 3;whnf
   ·refine Zk (Zu _ _) ?_;conv=>arg 3;whnf
    refine Zd rfl ?_ ?_<;>conv=>arg 3;whnf
    ·refine Zk (Zu _ _) ?_;conv=>arg 3;whnf
     refine Zd rfl ?_ ?_<;>conv=>arg 3;whnf
     ·exact Zc rfl
     ·exact Zc rfl
    ·exact Zc rfl
   ·exact Zc rfl
  ·exact Zc rfl
def Zn1 (r:Bool):D:=(D.bool r)
theorem Zss {t0:Bool}{t1:Bool}{t2:Bool}{t3:Bool}{t4:Bool}{t5:Bool}{t6:Bool}{a:Zi}{b:(List Int)}{c:ZF}:∀r,(Zia a b c)=some r→evD ctx 7 [(.d (D.agg (dA t0 t1 t2 t3 a))),(.d (D.list t4 (List.map Zb b))),(.d (D.agg [(D.list t5 (List.map D.bool c.done)),(D.list t6 (List.map Zb c.vals))]))]=some (Zn1 r):=by
 show ZH _ (fun r rhs=>rhs=some (Zn1 r)) _
 unfold Zia
 rw[Z8 ctx 7 fn7 _ rfl rfl]
 conv=>arg 3;whnf
 refine Zm _ ZsB rfl fun x0 hx0=>?_;conv=>arg 3;whnf
 refine Zd rfl ?_ ?_<;>conv=>arg 3;whnf
 ·refine Zk (Zu _ _) ?_;conv=>arg 3;whnf
  refine Zd rfl ?_ ?_<;>conv=>arg 3;whnf
  ·refine Zk (Zu _ _) ?_;conv=>arg 3;whnf
   refine Zd rfl ?_ ?_<;>conv=>arg 3;whnf
   ·refine Zk (Zu _ _) ?_;conv=>arg 3;whnf
    refine Zd rfl ?_ ?_<;>conv=>arg 3;whnf
    ·exact Zc rfl
    ·exact Zc rfl
   ·exact Zc rfl
  ·exact Zc rfl
 ·exact Zc rfl
def Zoh (t0:Bool) (t1:Bool) (t2:Bool) (t3:Bool) (a:Zi):(List Zs)→V×Zp
  | r=>((.agg [(.d (Zb a.period)),(.d (Zb a.deadline)),(.sl 0 3),(.sl 1 2),(.sl 2 3),(.sl 3 2)]),[(.arr 3 (List.map Z5 a.parts)),(.arr 2 (List.map Zx a.edges)),(.arr 3 (List.map Zr a.futures)),(.arr 2 (List.map Zy r))])
def Zki (t0:Bool) (t1:Bool) (t2:Bool) (t3:Bool) (a:Zi):(List Zs)→Ex×List V×Zp
  | r=>(.exit 0,[(.ptr 0 0),(.ptr 1 0)],[(.cells [(.d (Zb 0)),(.d (Zb 0)),(.sl 2 3),(.sl 3 2),(.sl 4 3),(.sl 5 2)]),(.cells [(.d (Zb a.period)),(.d (Zb a.deadline)),(.sl 6 3),(.sl 7 2),(.sl 8 3),(.sl 9 2)]),(.arr 3 []),(.arr 2 []),(.arr 3 []),(.arr 2 []),(.arr 3 (List.map Z5 a.parts)),(.arr 2 (List.map Zx a.edges)),(.arr 3 (List.map Zr a.futures)),(.arr 2 (List.map Zy r))])
theorem Zo0 {t0:Bool}{t1:Bool}{t2:Bool}{t3:Bool}{a:Zi}:∀(s0:Int×(List Zs)) (r:(List Zs)),lp (Zem a) s0=some r→lpW ctx 0 [1,2,3,4] [2,3] ZDm [(.ptr 0 0),(.ptr 1 0),(.ptr 2 0),(.d (Zb s0.1))] [(.cells (dV t0 t1 t2 t3 a)),(.cells [(.d (Zb 0)),(.d (Zb 0)),(.sl 3 3),(.sl 4 2),(.sl 5 3),(.sl 6 2)]),(.cells [(.d (Zb a.period)),(.d (Zb a.deadline)),(.sl 7 3),(.sl 8 2),(.sl 9 3),(.sl 10 2)]),(.arr 3 []),(.arr 2 []),(.arr 3 []),(.arr 2 []),(.arr 3 (List.map Z5 a.parts)),(.arr 2 (List.map Zx a.edges)),(.arr 3 (List.map Zr a.futures)),(.arr 2 (List.map Zy s0.2))]=some ((Zki t0 t1 t2 t3 a) r):=by
 refine Z2 (Zki t0 t1 t2 t3 a) ?_
 intro s0 rcl ih
 show ZH _ _ (lpW _ _ _ _ _ _ _)
 unfold Zem
 rw[Z3]
 conv=>arg 3;whnf
 refine Zk (Zu _ _) ?_;conv=>arg 3;whnf
 refine Zd rfl ?_ ?_<;>conv=>arg 3;whnf
 ·refine Zl rfl rfl fun x1 hx1=>?_;conv=>arg 3;whnf
  refine ZaU (ZgK (f:=Zb) (fun _=>⟨rfl,rfl⟩) x1.ins 0) ?_;conv=>arg 3;whnf
  refine Zd (ZgI Zb x1.ins) ?_ ?_
  ·conv=>arg 3;whnf
   refine Zk (rfl:_=List.map Zb x1.ins) ?_;conv=>arg 3;whnf
   refine Zg (Za3 rfl hx1) ?_;conv=>arg 3;whnf
   refine ZaU (ZgK (f:=Zb) (fun _=>⟨rfl,rfl⟩) x1.outs 0) ?_;conv=>arg 3;whnf
   refine Zd (ZgI Zb x1.outs) ?_ ?_
   ·conv=>arg 3;whnf
    refine Zk (rfl:_=List.map Zb x1.outs) ?_;conv=>arg 3;whnf
    refine ZaU rfl ?_;conv=>arg 3;whnf
    refine Zd (Zcd Zy s0.2 1) ?_ ?_
    ·conv=>arg 3;whnf
     refine Zk (Zca Zy s0.2 [x1]) ?_;conv=>arg 3;whnf
     exact Zf (ih _)
    ·exact ZO
   ·exact ZO
  ·exact ZO
 ·exact Zc rfl
theorem Zmq {t0:Bool}{t1:Bool}{t2:Bool}{t3:Bool}{a:Zi}:∀r,(Zg5 a)=some r→evW ctx 9 [(.d (D.agg (dA t0 t1 t2 t3 a)))] []=some ((Zoh t0 t1 t2 t3 a) r):=by
 show ZH _ (fun r rhs=>rhs=some ((Zoh t0 t1 t2 t3 a) r)) _
 unfold Zg5
 rw[Zgp ctx 9 fn9 _ _ rfl rfl]
 conv=>arg 3;whnf
 refine ZaU (ZgK (f:=Z5) (fun _=>⟨rfl,rfl⟩) a.parts 0) ?_;conv=>arg 3;whnf
 refine Zd (ZgI Z5 a.parts) ?_ ?_
 ·conv=>arg 3;whnf
  refine Zk (rfl:_=List.map Z5 a.parts) ?_;conv=>arg 3;whnf
  refine ZaU (ZgK (f:=Zx) (fun _=>⟨rfl,rfl⟩) a.edges 0) ?_;conv=>arg 3;whnf
  refine Zd (ZgI Zx a.edges) ?_ ?_
  ·conv=>arg 3;whnf
   refine Zk (rfl:_=List.map Zx a.edges) ?_;conv=>arg 3;whnf
   refine ZaU (ZgK (f:=Zr) (fun _=>⟨rfl,rfl⟩) a.futures 0) ?_;conv=>arg 3;whnf
   refine Zd (ZgI Zr a.futures) ?_ ?_
   ·conv=>arg 3;whnf
    refine Zk (rfl:_=List.map Zr a.futures) ?_;conv=>arg 3;whnf
    refine Ze _ (Zo0 _) fun r2 hr2=>?_;conv=>arg 3;whnf
    exact Zc rfl
   ·exact ZO
  ·exact ZO
 ·exact ZO
def ZlH (r:Bool):D:=(D.bool r)
theorem ZbZ {a:Int}{b:Int}{c:Int}:∀r,(Zbu a b c)=some r→evD ctx 67 [(.d (Zb a)),(.d (Zb b)),(.d (Zb c))]=some (ZlH r):=by
 show ZH _ (fun r rhs=>rhs=some (ZlH r)) _
 unfold Zbu
 rw[Z8 ctx 67 ZEe _ rfl rfl]
 conv=>arg 3;whnf
 refine Zd rfl ?_ ?_<;>conv=>arg 3;whnf
 ·refine Zd rfl ?_ ?_<;>conv=>arg 3;whnf
  ·exact Zc rfl
  ·exact Zc rfl
 ·exact Zc rfl
def Zod (r:Int):D:=(Zb r)
theorem ZrP {a:Int}:∀r,(ZhV a)=some r→evD ctx 98 [(.d (Zb a))]=some (Zod r):=by
 show ZH _ (fun r rhs=>rhs=some (Zod r)) _
 unfold ZhV
 rw[Z8 ctx 98 ZEZ _ rfl rfl]
 conv=>arg 3;whnf
 refine Zd rfl ?_ ?_<;>conv=>arg 3;whnf
 ·exact Zc rfl
 ·refine Zd rfl ?_ ?_<;>conv=>arg 3;whnf
  ·exact Zc rfl
  ·exact Zc rfl
def Zgn (r:Int):D:=(Zb r)
theorem ZiP {a:Int}:∀r,(Zcx a)=some r→evD ctx 114 [(.d (D.int .u64 a))]=some (Zgn r):=by
 show ZH _ (fun r rhs=>rhs=some (Zgn r)) _
 unfold Zcx
 rw[Z8 ctx 114 ZAe _ rfl rfl]
 conv=>arg 3;whnf
 refine Zaf rfl ?_;conv=>arg 3;whnf
 refine Zaf rfl ?_;conv=>arg 3;whnf
 refine Zaf rfl ?_;conv=>arg 3;whnf
 refine Zaf rfl ?_;conv=>arg 3;whnf
 refine Zaf rfl ?_;conv=>arg 3;whnf
 refine Zaf rfl ?_;conv=>arg 3;whnf
 exact Zc rfl
def Zg8 (r:Int):D:=(Zb r)
theorem Zke {a:Int}:∀r,(ZcT a)=some r→evD ctx 99 [(.d (D.int .u64 a))]=some (Zg8 r):=by
 show ZH _ (fun r rhs=>rhs=some (Zg8 r)) _
 unfold ZcT
 rw[Z8 ctx 99 ZDO _ rfl rfl]
 conv=>arg 3;whnf
 refine Zm _ ZiP rfl fun x0 hx0=>?_;conv=>arg 3;whnf
 exact Zc rfl
theorem ZFS (n:Int):0≤IntKind.u64.wrap n∧IntKind.u64.wrap n<18446744073709551616:=by
  have:IntKind.u64.wrap n=n % 18446744073709551616:=by
    show(if (false&&decide (n % 18446744073709551616 ≥ 9223372036854775808))=true then n % 18446744073709551616-18446744073709551616 else n % 18446744073709551616)=_
    simp
  rw[this]
  omega
theorem ZGJ (n:Int):∃j:Nat,j<64∧(IntKind.u64.wrap n).fdiv (2 ^ (min (Int.toNat 58) IntKind.u64.bits))=(j:Int):=by
  obtain⟨h1,h2⟩:=ZFS n
  have e:(2:Int) ^ (min (Int.toNat 58) IntKind.u64.bits)=288230376151711744:=by decide
  rw[e,Int.fdiv_eq_ediv_of_nonneg _ (by omega)]
  refine⟨((IntKind.u64.wrap n) / 288230376151711744).toNat,?_,?_⟩<;>omega
theorem ZGT:∀j:Nat,j<64→ZdK [] 1 false (.d (.rptr (ZAE.drop (j*1))))=some (.d (.int .u8 (ZuP.getD j 0))):=by
  have key:((List.range 64).all fun j=>match ZdK [] 1 false (.d (.rptr (ZAE.drop (j*1)))) with | some (.d (.int .u8 z))=>z==ZuP.getD j 0 | _=>false)=true:=by rfl
  intro j hj
  have:=List.all_eq_true.1 key j (by simpa using hj)
  split at this
  · rename_i z hz
    rw[hz,eq_of_beq this]
  · cases this
def Zic (r:Int):D:=Zb r
theorem Zhx (a:Int):∀r,ZdR a=some r→evD ctx 116 [.d (.int .u64 a)]=some (Zic r):=by
  intro r hr
  unfold ZdR at hr
  have hr:=Option.some.inj hr
  subst hr
  rw[Z8 ctx 116 ZBS _ rfl rfl]
  by_cases h:(a==0)=true
  · conv=>lhs;whnf
    rw[h,ZCO]
    rfl
  · replace h:(a==0)=false:=by simpa using h
    obtain⟨j,hj,e⟩:=ZGJ (IntKind.u64.wrap ((BitVec.ofInt IntKind.u64.bits a &&& BitVec.ofInt IntKind.u64.bits (IntKind.u64.wrap (0-a))).toNat:Int)*285870213051353865)
    conv=>lhs;whnf
    rw[h,ZDc]
    conv=>lhs;whnf
    refine(ZGL (by rfl)).trans ?_
    conv=>lhs;whnf
    rw[e]
    refine(ZFB (by simp;omega)).trans ?_
    conv=>lhs;whnf
    erw [ZGT j hj]
    rfl
def ZfU (r:Int):D:=(Zb r)
theorem Zim {a:Int}:∀r,(ZcS a)=some r→evD ctx 100 [(.d (D.int .u64 a))]=some (ZfU r):=by
 show ZH _ (fun r rhs=>rhs=some (ZfU r)) _
 unfold ZcS
 rw[Z8 ctx 100 ZBx _ rfl rfl]
 conv=>arg 3;whnf
 refine Zm _ (Zhx _) rfl fun x0 hx0=>?_;conv=>arg 3;whnf
 exact Zc rfl
def ZqI (r:(Int×Bool)):D:=(D.tup [(Zb r.1),(D.bool r.2)])
theorem Zum {a:Int}:∀r,(Zkp a)=some r→evD ctx 68 [(.d (Zb a))]=some (ZqI r):=by
 show ZH _ (fun r rhs=>rhs=some (ZqI r)) _
 unfold Zkp
 rw[Z8 ctx 68 ZDN _ rfl rfl]
 conv=>arg 3;whnf
 refine Zm _ ZrP rfl fun x0 hx0=>?_;conv=>arg 3;whnf
 refine Zd rfl ?_ ?_<;>conv=>arg 3;whnf
 ·exact Zc rfl
 ·refine Zm _ Zke rfl fun x1 hx1=>?_;conv=>arg 3;whnf
  refine Zd rfl ?_ ?_<;>conv=>arg 3;whnf
  ·exact Zc rfl
  ·refine Zm _ Zim rfl fun x2 hx2=>?_;conv=>arg 3;whnf
   exact Zc rfl
def Zn2 (r:Bool):D:=(D.bool r)
theorem ZrR {a:ZU}:∀r,(Zfo a)=some r→evD ctx 70 [(.d (D.agg [(Zb a.op),(Zb a.arg),(Zb a.work)]))]=some (Zn2 r):=by
 show ZH _ (fun r rhs=>rhs=some (Zn2 r)) _
 unfold Zfo
 rw[Z8 ctx 70 ZES _ rfl rfl]
 conv=>arg 3;whnf
 refine Zm _ ZbZ rfl fun x0 hx0=>?_;conv=>arg 3;whnf
 refine Zd rfl ?_ ?_<;>conv=>arg 3;whnf
 ·refine Zm _ ZbZ rfl fun x1 hx1=>?_;conv=>arg 3;whnf
  refine Zd rfl ?_ ?_<;>conv=>arg 3;whnf
  ·refine Zm _ ZbZ rfl fun x2 hx2=>?_;conv=>arg 3;whnf
   refine Zd rfl ?_ ?_<;>conv=>arg 3;whnf
   ·exact Zc rfl
   ·exact Zc rfl
  ·exact Zc rfl
 ·exact Zc rfl
def ZcC (r:Int):D:=(Zb r)
def Zcf (t0:Bool) (a:(List ZU)):(Int⊕Unit)→Ex×List V×Zp
  | (.inl r)=>(.ret,[(.d (Zb r))],[])
  | (.inr r)=>(.exit 0,[.bad],[])
theorem ZeQ {t0:Bool}{a:(List ZU)}:∀(s0:Int) (r:(Int⊕Unit)),lp (ZaZ a (fun z0=>Zfo z0)) s0=some r→lpW ctx 0 [0,1,7,8] [4] Zyk [(.d (D.list t0 (List.map Z5 a))),(.d (D.fn 70 [])),(.d (Zb (a.length:Int))),(.d (Zb s0))] []=some ((Zcf t0 a) r):=by
 refine Z2 (Zcf t0 a) ?_
 intro s0 rcl ih
 show ZH _ _ (lpW _ _ _ _ _ _ _)
 unfold ZaZ
 rw[Z3]
 conv=>arg 3;whnf
 refine Zd rfl ?_ ?_<;>conv=>arg 3;whnf
 ·refine Zl rfl rfl fun x1 hx1=>?_;conv=>arg 3;whnf
  refine Zm _ ZrR rfl fun x2 hx2=>?_;conv=>arg 3;whnf
  refine Zd rfl ?_ ?_<;>conv=>arg 3;whnf
  ·exact Zc rfl
  ·exact Zf (ih _)
 ·exact Zc rfl
theorem Zfb {t0:Bool}{a:(List ZU)}:∀r,(ZbY a (fun z0=>Zfo z0))=some r→evD ctx 101 [(.d (D.list t0 (List.map Z5 a))),(.d (D.fn 70 []))]=some (ZcC r):=by
 show ZH _ (fun r rhs=>rhs=some (ZcC r)) _
 unfold ZbY
 rw[Z8 ctx 101 ZzV _ rfl rfl]
 conv=>arg 3;whnf
 refine Zk (Zu _ _) ?_;conv=>arg 3;whnf
 refine Ze _ (ZeQ _) fun r3 hr3=>?_
 clear hr3
 rcases r3 with r3 | r3
 ·conv=>arg 3;whnf
  exact Zc rfl
 ·conv=>arg 3;whnf
  exact Zc rfl
def Zcj (r:Bool):D:=(D.bool r)
theorem ZeS {t0:Bool}{a:(List ZU)}:∀r,(Za0 a (fun z0=>Zfo z0))=some r→evD ctx 69 [(.d (D.list t0 (List.map Z5 a))),(.d (D.fn 70 []))]=some (Zcj r):=by
 show ZH _ (fun r rhs=>rhs=some (Zcj r)) _
 unfold Za0
 rw[Z8 ctx 69 ZE0 _ rfl rfl]
 conv=>arg 3;whnf
 refine Zm _ Zfb rfl fun x0 hx0=>?_;conv=>arg 3;whnf
 refine Zd rfl ?_ ?_<;>conv=>arg 3;whnf
 ·exact Zc rfl
 ·exact Zc rfl
def ZpI (r:Bool):D:=(D.bool r)
theorem Zn9 {t0:Bool}{t1:Bool}{t2:Bool}{t3:Bool}{a:Zi}{b:Int}{c:Int}:∀r,(ZhE a b c)=some r→evD ctx 71 [(.d (D.agg (dA t0 t1 t2 t3 a))),(.d (Zb b)),(.d (Zb c))]=some (ZpI r):=by
 show ZH _ (fun r rhs=>rhs=some (ZpI r)) _
 unfold ZhE
 rw[Z8 ctx 71 ZEC _ rfl rfl]
 conv=>arg 3;whnf
 refine Zd rfl ?_ ?_<;>conv=>arg 3;whnf
 ·refine Zk (Zu _ _) ?_;conv=>arg 3;whnf
  refine Zm _ ZbZ rfl fun x0 hx0=>?_;conv=>arg 3;whnf
  refine Zd rfl ?_ ?_<;>conv=>arg 3;whnf
  ·refine Zk (Zu _ _) ?_;conv=>arg 3;whnf
   refine Zm _ ZbZ rfl fun x1 hx1=>?_;conv=>arg 3;whnf
   refine Zd rfl ?_ ?_<;>conv=>arg 3;whnf
   ·exact Zc rfl
   ·exact Zc rfl
  ·exact Zc rfl
 ·exact Zc rfl
def Zfy (r:Int):D:=(Zb r)
def Ze1 (t0:Bool) (a:(List Zn)) (b:Zn):(Int⊕Unit)→Ex×List V×Zp
  | (.inl r)=>(.ret,[(.d (Zb r))],[])
  | (.inr r)=>(.exit 0,[.bad],[])
theorem Zhh {t0:Bool}{a:(List Zn)}{b:Zn}:∀(s0:Int) (r:(Int⊕Unit)),lp (Zbj a b) s0=some r→lpW ctx 0 [0,3,7,8] [4] ZxN [(.d (D.list t0 (List.map Zx a))),(.ptr 0 0),(.d (Zb (a.length:Int))),(.d (Zb s0))] [(.cells [(.d (Zb b.src)),(.d (Zb b.dst))])]=some ((Ze1 t0 a b) r):=by
 refine Z2 (Ze1 t0 a b) ?_
 intro s0 rcl ih
 show ZH _ _ (lpW _ _ _ _ _ _ _)
 unfold Zbj
 rw[Z3]
 conv=>arg 3;whnf
 refine Zd rfl ?_ ?_<;>conv=>arg 3;whnf
 ·refine Zl rfl rfl fun x1 hx1=>?_;conv=>arg 3;whnf
  refine Zd rfl ?_ ?_<;>conv=>arg 3;whnf
  ·exact Zc rfl
  ·exact Zf (ih _)
 ·exact Zc rfl
theorem Zie {t0:Bool}{a:(List Zn)}{b:Zn}:∀r,(ZcF a b)=some r→evD ctx 102 [(.d (D.list t0 (List.map Zx a))),(.d (D.agg [(Zb b.src),(Zb b.dst)]))]=some (Zfy r):=by
 show ZH _ (fun r rhs=>rhs=some (Zfy r)) _
 unfold ZcF
 rw[Z8 ctx 102 ZAd _ rfl rfl]
 conv=>arg 3;whnf
 refine Zk (Zu _ _) ?_;conv=>arg 3;whnf
 refine Ze _ (Zhh _) fun r2 hr2=>?_
 clear hr2
 rcases r2 with r2 | r2
 ·conv=>arg 3;whnf
  exact Zc rfl
 ·conv=>arg 3;whnf
  exact Zc rfl
def Ze2 (r:Bool):D:=(D.bool r)
theorem ZeO {t0:Bool}{a:(List Zn)}{b:Zn}:∀r,(ZaY a b)=some r→evD ctx 72 [(.d (D.list t0 (List.map Zx a))),(.d (D.agg [(Zb b.src),(Zb b.dst)]))]=some (Ze2 r):=by
 show ZH _ (fun r rhs=>rhs=some (Ze2 r)) _
 unfold ZaY
 rw[Z8 ctx 72 ZDE _ rfl rfl]
 conv=>arg 3;whnf
 refine Zm _ Zie rfl fun x0 hx0=>?_;conv=>arg 3;whnf
 refine Zd rfl ?_ ?_<;>conv=>arg 3;whnf
 ·exact Zc rfl
 ·exact Zc rfl
def ZkL (r:Bool):D:=(D.bool r)
theorem Zps {a:Zj}{b0:Int}{b1:Int}{b2:Int}:∀r,(Zdn a b1 b2)=some r→evD ctx 73 [(.d (D.agg [(Zb a.maker),(Zb a.user),(Zb a.pos)])),(.d (D.rptr [(Zb b0),(Zb b1),(Zb b2)]))]=some (ZkL r):=by
 show ZH _ (fun r rhs=>rhs=some (ZkL r)) _
 unfold Zdn
 rw[Z8 ctx 73 ZDZ _ rfl rfl]
 conv=>arg 3;whnf
 refine Zd rfl ?_ ?_<;>conv=>arg 3;whnf
 ·refine Zd rfl ?_ ?_<;>conv=>arg 3;whnf
  ·exact Zc rfl
  ·exact Zc rfl
 ·exact Zc rfl
def ZbQ (r:Int):D:=(Zb r)
def Zbz (t0:Bool) (a:(List Zj)) (b0:Int) (b1:Int) (b2:Int):(Int⊕Unit)→Ex×List V×Zp
  | (.inl r)=>(.ret,[(.d (Zb r))],[])
  | (.inr r)=>(.exit 0,[.bad],[])
theorem ZdD {t0:Bool}{a:(List Zj)}{b0:Int}{b1:Int}{b2:Int}:∀(s0:Int) (r:(Int⊕Unit)),lp (ZaJ a (fun z0=>Zdn z0 b1 b2)) s0=some r→lpW ctx 0 [0,1,7,8] [4] ZxJ [(.d (D.list t0 (List.map Zr a))),(.d (D.fn 73 [(D.rptr [(Zb b0),(Zb b1),(Zb b2)])])),(.d (Zb (a.length:Int))),(.d (Zb s0))] []=some ((Zbz t0 a b0 b1 b2) r):=by
 refine Z2 (Zbz t0 a b0 b1 b2) ?_
 intro s0 rcl ih
 show ZH _ _ (lpW _ _ _ _ _ _ _)
 unfold ZaJ
 rw[Z3]
 conv=>arg 3;whnf
 refine Zd rfl ?_ ?_<;>conv=>arg 3;whnf
 ·refine Zl rfl rfl fun x1 hx1=>?_;conv=>arg 3;whnf
  refine Zm _ Zps rfl fun x2 hx2=>?_;conv=>arg 3;whnf
  refine Zd rfl ?_ ?_<;>conv=>arg 3;whnf
  ·exact Zc rfl
  ·exact Zf (ih _)
 ·exact Zc rfl
theorem ZdX {t0:Bool}{a:(List Zj)}{b0:Int}{b1:Int}{b2:Int}:∀r,(Zbk a (fun z0=>Zdn z0 b1 b2))=some r→evD ctx 103 [(.d (D.list t0 (List.map Zr a))),(.d (D.fn 73 [(D.rptr [(Zb b0),(Zb b1),(Zb b2)])]))]=some (ZbQ r):=by
 show ZH _ (fun r rhs=>rhs=some (ZbQ r)) _
 unfold Zbk
 rw[Z8 ctx 103 ZAo _ rfl rfl]
 conv=>arg 3;whnf
 refine Zk (Zu _ _) ?_;conv=>arg 3;whnf
 refine Ze _ (ZdD _) fun r3 hr3=>?_
 clear hr3
 rcases r3 with r3 | r3
 ·conv=>arg 3;whnf
  exact Zc rfl
 ·conv=>arg 3;whnf
  exact Zc rfl
def Zbx (r:Bool):D:=(D.bool r)
theorem ZdB {t0:Bool}{a:(List Zj)}{b0:Int}{b1:Int}{b2:Int}:∀r,(ZaK a (fun z0=>Zdn z0 b1 b2))=some r→evD ctx 74 [(.d (D.list t0 (List.map Zr a))),(.d (D.fn 73 [(D.rptr [(Zb b0),(Zb b1),(Zb b2)])]))]=some (Zbx r):=by
 show ZH _ (fun r rhs=>rhs=some (Zbx r)) _
 unfold ZaK
 rw[Z8 ctx 74 ZEG _ rfl rfl]
 conv=>arg 3;whnf
 refine Zm _ ZdX rfl fun x0 hx0=>?_;conv=>arg 3;whnf
 refine Zd rfl ?_ ?_<;>conv=>arg 3;whnf
 ·exact Zc rfl
 ·exact Zc rfl
def Zpo (r:Bool):D:=(D.bool r)
def ZlA (t0:Bool) (t1:Bool) (t2:Bool) (t3:Bool) (t4:Bool) (a:Zi) (b:(List Int)):(Unit⊕Unit)→Ex×List V×Zp
  | (.inl r)=>(.ret,[(.d (D.list t4 (List.map Zb b))),(.d (D.bool false))],[])
  | (.inr r)=>(.exit 0,[(.d (D.list t4 (List.map Zb b))),.bad],[])
theorem Zqz {t0:Bool}{t1:Bool}{t2:Bool}{t3:Bool}{t4:Bool}{a:Zi}{b:(List Int)}:∀(s0:Int) (r:(Unit⊕Unit)),lp (ZfK a b) s0=some r→lpW ctx 0 [1,2,7,8,9] [1,4] ZAI [(.d (D.list t4 (List.map Zb b))),(.ptr 0 0),(.d (D.list t4 (List.map Zb b))),(.d (Zb (b.length:Int))),(.d (Zb s0))] [(.cells (dV t0 t1 t2 t3 a))]=some ((ZlA t0 t1 t2 t3 t4 a b) r):=by
 refine Z2 (ZlA t0 t1 t2 t3 t4 a b) ?_
 intro s0 rcl ih
 show ZH _ _ (lpW _ _ _ _ _ _ _)
 unfold ZfK
 rw[Z3]
 conv=>arg 3;whnf
 refine Zd rfl ?_ ?_<;>conv=>arg 3;whnf
 ·refine Zl rfl rfl fun x1 hx1=>?_;conv=>arg 3;whnf
  refine Zk (Zu _ _) ?_;conv=>arg 3;whnf
  refine Zm _ ZbZ rfl fun x2 hx2=>?_;conv=>arg 3;whnf
  refine Zd rfl ?_ ?_<;>conv=>arg 3;whnf
  ·refine Zd rfl ?_ ?_<;>conv=>arg 3;whnf
   ·refine Zl rfl rfl fun x3 hx3=>?_;conv=>arg 3;whnf
    refine Zd rfl ?_ ?_<;>conv=>arg 3;whnf
    ·exact Zc rfl
    ·exact Zf (ih _)
   ·exact Zf (ih _)
  ·exact Zc rfl
 ·exact Zc rfl
theorem Zog {t0:Bool}{t1:Bool}{t2:Bool}{t3:Bool}{t4:Bool}{a:Zi}{b:(List Int)}:∀r,(ZhF a b)=some r→evD ctx 76 [(.d (D.agg (dA t0 t1 t2 t3 a))),(.d (D.list t4 (List.map Zb b)))]=some (Zpo r):=by
 show ZH _ (fun r rhs=>rhs=some (Zpo r)) _
 unfold ZhF
 rw[Z8 ctx 76 ZEg _ rfl rfl]
 conv=>arg 3;whnf
 refine Zk (Zu _ _) ?_;conv=>arg 3;whnf
 refine Ze _ (Zqz _) fun r4 hr4=>?_
 clear hr4
 rcases r4 with r4 | r4
 ·conv=>arg 3;whnf
  exact Zc rfl
 ·conv=>arg 3;whnf
  refine Zk (Zu _ _) ?_;conv=>arg 3;whnf
  refine Zd rfl ?_ ?_<;>conv=>arg 3;whnf
  ·exact Zc rfl
  ·exact Zc rfl
def Zf6 (r:Int):D:=(Zb r)
def Zfp (t0:Bool) (a:(List Int)) (b:Int):(Int⊕Unit)→Ex×List V×Zp
  | (.inl r)=>(.ret,[(.d (Zb r))],[])
  | (.inr r)=>(.exit 0,[.bad],[])
theorem ZhB {t0:Bool}{a:(List Int)}{b:Int}:∀(s0:Int) (r:(Int⊕Unit)),lp (ZbB a b) s0=some r→lpW ctx 0 [0,1,7,8] [4] Zz8 [(.d (D.list t0 (List.map Zb a))),(.d (Zb b)),(.d (Zb (a.length:Int))),(.d (Zb s0))] []=some ((Zfp t0 a b) r):=by
 refine Z2 (Zfp t0 a b) ?_
 intro s0 rcl ih
 show ZH _ _ (lpW _ _ _ _ _ _ _)
 unfold ZbB
 rw[Z3]
 conv=>arg 3;whnf
 refine Zd rfl ?_ ?_<;>conv=>arg 3;whnf
 ·refine Zl rfl rfl fun x1 hx1=>?_;conv=>arg 3;whnf
  refine Zd rfl ?_ ?_<;>conv=>arg 3;whnf
  ·exact Zc rfl
  ·exact Zf (ih _)
 ·exact Zc rfl
theorem ZiJ {t0:Bool}{a:(List Int)}{b:Int}:∀r,(Zdj a b)=some r→evD ctx 83 [(.d (D.list t0 (List.map Zb a))),(.d (Zb b))]=some (Zf6 r):=by
 show ZH _ (fun r rhs=>rhs=some (Zf6 r)) _
 unfold Zdj
 rw[Z8 ctx 83 ZD0 _ rfl rfl]
 conv=>arg 3;whnf
 refine Zk (Zu _ _) ?_;conv=>arg 3;whnf
 refine Ze _ (ZhB _) fun r2 hr2=>?_
 clear hr2
 rcases r2 with r2 | r2
 ·conv=>arg 3;whnf
  exact Zc rfl
 ·conv=>arg 3;whnf
  exact Zc rfl
def Zfm (r:Bool):D:=(D.bool r)
theorem ZhH {t0:Bool}{a:(List Int)}{b:Int}:∀r,(ZbA a b)=some r→evD ctx 47 [(.d (D.list t0 (List.map Zb a))),(.d (Zb b))]=some (Zfm r):=by
 show ZH _ (fun r rhs=>rhs=some (Zfm r)) _
 unfold ZbA
 rw[Z8 ctx 47 ZDP _ rfl rfl]
 conv=>arg 3;whnf
 refine Zm _ ZiJ rfl fun x0 hx0=>?_;conv=>arg 3;whnf
 refine Zd rfl ?_ ?_<;>conv=>arg 3;whnf
 ·exact Zc rfl
 ·exact Zc rfl
def ZkU (r:Bool):D:=(D.bool r)
theorem Zpm {t0:Bool}{t1:Bool}{a:Int}{b0:(List Int)}{b1:(List Int)}:∀r,(Zdp a b1)=some r→evD ctx 75 [(.d (Zb a)),(.d (D.rptr [(D.list t0 (List.map Zb b0)),(D.list t1 (List.map Zb b1))]))]=some (ZkU r):=by
 show ZH _ (fun r rhs=>rhs=some (ZkU r)) _
 unfold Zdp
 rw[Z8 ctx 75 ZEh _ rfl rfl]
 conv=>arg 3;whnf
 refine Zm _ ZhH rfl fun x0 hx0=>?_;conv=>arg 3;whnf
 refine Zd rfl ?_ ?_<;>conv=>arg 3;whnf
 ·exact Zc rfl
 ·exact Zc rfl
def Zcw (r:Int):D:=(Zb r)
def Zb9 (t0:Bool) (t1:Bool) (t2:Bool) (a:(List Int)) (b0:(List Int)) (b1:(List Int)):(Int⊕Unit)→Ex×List V×Zp
  | (.inl r)=>(.ret,[(.d (Zb r))],[])
  | (.inr r)=>(.exit 0,[.bad],[])
theorem ZeA {t0:Bool}{t1:Bool}{t2:Bool}{a:(List Int)}{b0:(List Int)}{b1:(List Int)}:∀(s0:Int) (r:(Int⊕Unit)),lp (Zaw a (fun z0=>Zdp z0 b1)) s0=some r→lpW ctx 0 [0,1,7,8] [4] ZuK [(.d (D.list t0 (List.map Zb a))),(.d (D.fn 75 [(D.rptr [(D.list t1 (List.map Zb b0)),(D.list t2 (List.map Zb b1))])])),(.d (Zb (a.length:Int))),(.d (Zb s0))] []=some ((Zb9 t0 t1 t2 a b0 b1) r):=by
 refine Z2 (Zb9 t0 t1 t2 a b0 b1) ?_
 intro s0 rcl ih
 show ZH _ _ (lpW _ _ _ _ _ _ _)
 unfold Zaw
 rw[Z3]
 conv=>arg 3;whnf
 refine Zd rfl ?_ ?_<;>conv=>arg 3;whnf
 ·refine Zl rfl rfl fun x1 hx1=>?_;conv=>arg 3;whnf
  refine Zm _ Zpm rfl fun x2 hx2=>?_;conv=>arg 3;whnf
  refine Zd rfl ?_ ?_<;>conv=>arg 3;whnf
  ·exact Zc rfl
  ·exact Zf (ih _)
 ·exact Zc rfl
theorem Ze3 {t0:Bool}{t1:Bool}{t2:Bool}{a:(List Int)}{b0:(List Int)}{b1:(List Int)}:∀r,(Za4 a (fun z0=>Zdp z0 b1))=some r→evD ctx 104 [(.d (D.list t0 (List.map Zb a))),(.d (D.fn 75 [(D.rptr [(D.list t1 (List.map Zb b0)),(D.list t2 (List.map Zb b1))])]))]=some (Zcw r):=by
 show ZH _ (fun r rhs=>rhs=some (Zcw r)) _
 unfold Za4
 rw[Z8 ctx 104 ZxC _ rfl rfl]
 conv=>arg 3;whnf
 refine Zk (Zu _ _) ?_;conv=>arg 3;whnf
 refine Ze _ (ZeA _) fun r3 hr3=>?_
 clear hr3
 rcases r3 with r3 | r3
 ·conv=>arg 3;whnf
  exact Zc rfl
 ·conv=>arg 3;whnf
  exact Zc rfl
def Zcb (r:Bool):D:=(D.bool r)
theorem ZeC {t0:Bool}{t1:Bool}{t2:Bool}{a:(List Int)}{b0:(List Int)}{b1:(List Int)}:∀r,(Zaa a (fun z0=>Zdp z0 b1))=some r→evD ctx 77 [(.d (D.list t0 (List.map Zb a))),(.d (D.fn 75 [(D.rptr [(D.list t1 (List.map Zb b0)),(D.list t2 (List.map Zb b1))])]))]=some (Zcb r):=by
 show ZH _ (fun r rhs=>rhs=some (Zcb r)) _
 unfold Zaa
 rw[Z8 ctx 77 ZCc _ rfl rfl]
 conv=>arg 3;whnf
 refine Zm _ Ze3 rfl fun x0 hx0=>?_;conv=>arg 3;whnf
 refine Zd rfl ?_ ?_<;>conv=>arg 3;whnf
 ·exact Zc rfl
 ·exact Zc rfl
def ZmU (r:Int):D:=(Zb r)
def ZjS (t0:Bool) (t1:Bool) (t2:Bool) (t3:Bool) (a:Zi):(Unit⊕Unit)→Ex×List V×Zp
  | (.inl r)=>(.ret,[(.ptr 0 0),(.d (Zb 53))],[(.cells (dV t0 t1 t2 t3 a))])
  | (.inr r)=>(.exit 0,[(.ptr 0 0),.bad],[(.cells (dV t0 t1 t2 t3 a))])
theorem Zou {t0:Bool}{t1:Bool}{t2:Bool}{t3:Bool}{a:Zi}:∀(s4:Int) (r:(Unit⊕Unit)),lp (ZdC a) s4=some r→lpW ctx 0 [1,61,62,63] [1,2] ZAr [(.ptr 0 0),(.d (D.list t1 (List.map Zx a.edges))),(.d (Zb (a.edges.length:Int))),(.d (Zb s4))] [(.cells (dV t0 t1 t2 t3 a))]=some ((ZjS t0 t1 t2 t3 a) r):=by
 refine Z2 (ZjS t0 t1 t2 t3 a) ?_
 intro s4 rcl ih
 show ZH _ _ (lpW _ _ _ _ _ _ _)
 unfold ZdC
 rw[Z3]
 conv=>arg 3;whnf
 refine Zd rfl ?_ ?_<;>conv=>arg 3;whnf
 ·refine Zl rfl rfl fun x5 hx5=>?_;conv=>arg 3;whnf
  refine Zm _ Zn9 rfl fun x6 hx6=>?_;conv=>arg 3;whnf
  refine Zd rfl ?_ ?_<;>conv=>arg 3;whnf
  ·refine Zd rfl ?_ ?_
   ·conv=>arg 3;whnf
    refine Zd (ZAl Zx a.edges s4.toNat) ?_ ?_
    ·conv=>arg 3;whnf
     refine ZaU rfl ?_;conv=>arg 3;whnf
     refine Zk (ZuG Zx a.edges s4.toNat) ?_;conv=>arg 3;whnf
     refine Zm _ ZeO rfl fun x7 hx7=>?_;conv=>arg 3;whnf
     refine Zd rfl ?_ ?_<;>conv=>arg 3;whnf
     ·exact Zc rfl
     ·exact Zf (ih _)
    ·exact ZO
   ·exact ZO
  ·exact Zc rfl
 ·exact Zc rfl
def ZjX (t0:Bool) (t1:Bool) (t2:Bool) (t3:Bool) (a:Zi):(Unit⊕Unit)→Ex×List V×Zp
  | (.inl r)=>(.ret,[(.ptr 0 0),(.d (Zb 54))],[(.cells (dV t0 t1 t2 t3 a))])
  | (.inr r)=>(.exit 2,[(.ptr 0 0),.bad],[(.cells (dV t0 t1 t2 t3 a))])
theorem ZoM {t0:Bool}{t1:Bool}{t2:Bool}{t3:Bool}{a:Zi}:∀(s9:Int) (r:(Unit⊕Unit)),lp (ZdG a) s9=some r→lpW ctx 0 [1,85,86,87] [1,2] Zzw [(.ptr 0 0),(.d (D.list t2 (List.map Zr a.futures))),(.d (Zb (a.futures.length:Int))),(.d (Zb s9))] [(.cells (dV t0 t1 t2 t3 a))]=some ((ZjX t0 t1 t2 t3 a) r):=by
 refine Z2 (ZjX t0 t1 t2 t3 a) ?_
 intro s9 rcl ih
 show ZH _ _ (lpW _ _ _ _ _ _ _)
 unfold ZdG
 rw[Z3]
 conv=>arg 3;whnf
 refine Zd rfl ?_ ?_<;>conv=>arg 3;whnf
 ·refine Zl rfl rfl fun x10 hx10=>?_;conv=>arg 3;whnf
  refine Zm _ Zn9 rfl fun x11 hx11=>?_;conv=>arg 3;whnf
  refine Zd rfl ?_ ?_<;>conv=>arg 3;whnf
  ·refine Zl rfl rfl fun x12 hx12=>?_;conv=>arg 3;whnf
   refine Zm _ ZbZ rfl fun x13 hx13=>?_;conv=>arg 3;whnf
   refine Zd rfl ?_ ?_<;>conv=>arg 3;whnf
   ·refine Zd rfl ?_ ?_
    ·conv=>arg 3;whnf
     refine Zd (ZAl Zr a.futures s9.toNat) ?_ ?_
     ·conv=>arg 3;whnf
      refine ZaU rfl ?_;conv=>arg 3;whnf
      refine Zk (ZuG Zr a.futures s9.toNat) ?_;conv=>arg 3;whnf
      refine Zm _ ZdB rfl fun x14 hx14=>?_;conv=>arg 3;whnf
      refine Zd rfl ?_ ?_<;>conv=>arg 3;whnf
      ·exact Zc rfl
      ·exact Zf (ih _)
     ·exact ZO
    ·exact ZO
   ·exact Zc rfl
  ·exact Zc rfl
 ·exact Zc rfl
def ZjU (t0:Bool) (t1:Bool) (t2:Bool) (t3:Bool) (a:Zi):(Unit⊕Unit)→Ex×List V×Zp
  | (.inl r)=>(.ret,[(.d (Zb 55))],[])
  | (.inr r)=>(.exit 4,[.bad],[])
theorem ZoJ {t0:Bool}{t1:Bool}{t2:Bool}{t3:Bool}{a:Zi}:∀(s16:Int) (r:(Unit⊕Unit)),lp (ZdE a) s16=some r→lpW ctx 0 [1,124,125,126] [2] ZBg [(.ptr 0 0),(.d (D.list t3 (List.map Zy a.barriers))),(.d (Zb (a.barriers.length:Int))),(.d (Zb s16))] [(.cells (dV t0 t1 t2 t3 a))]=some ((ZjU t0 t1 t2 t3 a) r):=by
 refine Z2 (ZjU t0 t1 t2 t3 a) ?_
 intro s16 rcl ih
 show ZH _ _ (lpW _ _ _ _ _ _ _)
 unfold ZdE
 rw[Z3]
 conv=>arg 3;whnf
 refine Zd rfl ?_ ?_<;>conv=>arg 3;whnf
 ·refine Zl rfl rfl fun x17 hx17=>?_;conv=>arg 3;whnf
  refine Zm _ Zog rfl fun x18 hx18=>?_;conv=>arg 3;whnf
  refine Zd rfl ?_ ?_<;>conv=>arg 3;whnf
  ·refine Zm _ Zog rfl fun x19 hx19=>?_;conv=>arg 3;whnf
   refine Zd rfl ?_ ?_<;>conv=>arg 3;whnf
   ·refine Zm _ ZeC rfl fun x20 hx20=>?_;conv=>arg 3;whnf
    refine Zd rfl ?_ ?_<;>conv=>arg 3;whnf
    ·exact Zc rfl
    ·exact Zf (ih _)
   ·exact Zc rfl
  ·exact Zc rfl
 ·exact Zc rfl
theorem Zij {t0:Bool}{t1:Bool}{t2:Bool}{t3:Bool}{a:Zi}:∀r,(Zfu a)=some r→evD ctx 41 [(.d (D.agg (dA t0 t1 t2 t3 a)))]=some (ZmU r):=by
 show ZH _ (fun r rhs=>rhs=some (ZmU r)) _
 unfold Zfu
 rw[Z8 ctx 41 ZEw _ rfl rfl]
 conv=>arg 3;whnf
 refine Zk (Zu _ _) ?_;conv=>arg 3;whnf
 refine Zm _ ZbZ rfl fun x0 hx0=>?_;conv=>arg 3;whnf
 refine Zd rfl ?_ ?_<;>conv=>arg 3;whnf
 ·refine Zk (Zu _ _) ?_;conv=>arg 3;whnf
  refine Zd rfl ?_ ?_<;>conv=>arg 3;whnf
  ·exact Zc rfl
  ·refine Zk (Zu _ _) ?_;conv=>arg 3;whnf
   refine Zd rfl ?_ ?_<;>conv=>arg 3;whnf
   ·exact Zc rfl
   ·refine Zk (Zu _ _) ?_;conv=>arg 3;whnf
    refine Zd rfl ?_ ?_<;>conv=>arg 3;whnf
    ·exact Zc rfl
    ·refine Zm _ Zum rfl fun x1 hx1=>?_;conv=>arg 3;whnf
     refine Zd rfl ?_ ?_<;>conv=>arg 3;whnf
     ·refine Zd rfl ?_ ?_<;>conv=>arg 3;whnf
      ·exact Zc rfl
      ·refine Zm _ ZbZ rfl fun x2 hx2=>?_;conv=>arg 3;whnf
       refine Zd rfl ?_ ?_<;>conv=>arg 3;whnf
       ·refine Zm _ ZeS rfl fun x3 hx3=>?_;conv=>arg 3;whnf
        refine Zd rfl ?_ ?_<;>conv=>arg 3;whnf
        ·exact Zc rfl
        ·refine Zk (Zu _ _) ?_;conv=>arg 3;whnf
         refine Ze _ (Zou _) fun r8 hr8=>?_
         clear hr8
         rcases r8 with r8 | r8
         ·conv=>arg 3;whnf
          exact Zc rfl
         ·conv=>arg 3;whnf
          refine Zk (Zu _ _) ?_;conv=>arg 3;whnf
          refine Ze _ (ZoM _) fun r15 hr15=>?_
          clear hr15
          rcases r15 with r15 | r15
          ·conv=>arg 3;whnf
           exact Zc rfl
          ·conv=>arg 3;whnf
           refine Zk (Zu _ _) ?_;conv=>arg 3;whnf
           refine Ze _ (ZoJ _) fun r21 hr21=>?_
           clear hr21
           rcases r21 with r21 | r21
           ·conv=>arg 3;whnf
            exact Zc rfl
           ·conv=>arg 3;whnf
            exact Zc rfl
       ·exact Zc rfl
     ·exact Zc rfl
 ·exact Zc rfl
def Zi7 (r:Int):D:=(Zb r)
theorem ZJ {t0:Bool}{t1:Bool}{t2:Bool}{t3:Bool}{a:Int}{b:Int}{c0:Int}{c1:Int}{c2:(List ZU)}{c3:(List Zn)}{c4:(List Zj)}{c5:(List Zs)}:∀r,(Zv a b c4)=some r→evD ctx 106 [(.d (Zb a)),(.d (Zb b)),(.d (D.rptr [(Zb c0),(Zb c1),(D.list t0 (List.map Z5 c2)),(D.list t1 (List.map Zx c3)),(D.list t2 (List.map Zr c4)),(D.list t3 (List.map Zy c5))]))]=some (Zi7 r):=by
 show ZH _ (fun r rhs=>rhs=some (Zi7 r)) _
 unfold Zv
 rw[Z8 ctx 106 ZzX _ rfl rfl]
 conv=>arg 3;whnf
 refine Zl rfl rfl fun x0 hx0=>?_;conv=>arg 3;whnf
 refine Zl rfl rfl fun x1 hx1=>?_;conv=>arg 3;whnf
 exact Zc rfl
def Ziu (r:Int):D:=(Zb r)
theorem Zmm {a:Int}:∀r,(Zho a)=some r→evD ctx 129 [(.d (D.int .u64 a))]=some (Ziu r):=by
 show ZH _ (fun r rhs=>rhs=some (Ziu r)) _
 unfold Zho
 rw[Z8 ctx 129 ZBk _ rfl rfl]
 conv=>arg 3;whnf
 refine Zd rfl ?_ ?_<;>conv=>arg 3;whnf
 ·refine Zaf rfl ?_;conv=>arg 3;whnf
  refine Zd rfl ?_ ?_<;>conv=>arg 3;whnf
  ·refine Zaf rfl ?_;conv=>arg 3;whnf
   refine Zd rfl ?_ ?_<;>conv=>arg 3;whnf
   ·refine Zaf rfl ?_;conv=>arg 3;whnf
    refine Zd rfl ?_ ?_
    ·conv=>arg 3;whnf
     refine ZhU rfl fun x0 hx0=>?_;conv=>arg 3;whnf
     exact Zc rfl
    ·exact ZO
   ·refine Zd rfl ?_ ?_
    ·conv=>arg 3;whnf
     refine ZhU rfl fun x1 hx1=>?_;conv=>arg 3;whnf
     exact Zc rfl
    ·exact ZO
  ·refine Zd rfl ?_ ?_<;>conv=>arg 3;whnf
   ·refine Zaf rfl ?_;conv=>arg 3;whnf
    refine Zd rfl ?_ ?_
    ·conv=>arg 3;whnf
     refine ZhU rfl fun x2 hx2=>?_;conv=>arg 3;whnf
     exact Zc rfl
    ·exact ZO
   ·refine Zd rfl ?_ ?_
    ·conv=>arg 3;whnf
     refine ZhU rfl fun x3 hx3=>?_;conv=>arg 3;whnf
     exact Zc rfl
    ·exact ZO
 ·refine Zd rfl ?_ ?_<;>conv=>arg 3;whnf
  ·refine Zaf rfl ?_;conv=>arg 3;whnf
   refine Zd rfl ?_ ?_<;>conv=>arg 3;whnf
   ·refine Zaf rfl ?_;conv=>arg 3;whnf
    refine Zd rfl ?_ ?_
    ·conv=>arg 3;whnf
     refine ZhU rfl fun x4 hx4=>?_;conv=>arg 3;whnf
     exact Zc rfl
    ·exact ZO
   ·refine Zd rfl ?_ ?_
    ·conv=>arg 3;whnf
     refine ZhU rfl fun x5 hx5=>?_;conv=>arg 3;whnf
     exact Zc rfl
    ·exact ZO
  ·refine Zd rfl ?_ ?_<;>conv=>arg 3;whnf
   ·refine Zaf rfl ?_;conv=>arg 3;whnf
    refine Zd rfl ?_ ?_
    ·conv=>arg 3;whnf
     refine ZhU rfl fun x6 hx6=>?_;conv=>arg 3;whnf
     exact Zc rfl
    ·exact ZO
   ·refine Zd rfl ?_ ?_
    ·conv=>arg 3;whnf
     refine ZhU rfl fun x7 hx7=>?_;conv=>arg 3;whnf
     exact Zc rfl
    ·exact ZO
def ZjM (r:Int):D:=(Zb r)
theorem Zjs {a:Int}:∀r,(ZeJ a)=some r→evD ctx 118 [(.d (D.int .u64 a))]=some (ZjM r):=by
 show ZH _ (fun r rhs=>rhs=some (ZjM r)) _
 unfold ZeJ
 rw[Z8 ctx 118 ZA2 _ rfl rfl]
 conv=>arg 3;whnf
 refine Zm _ Zmm rfl fun x0 hx0=>?_;conv=>arg 3;whnf
 exact Zc rfl
def ZbI (t0:Bool) (t1:Bool) (t2:Bool) (t3:Bool) (b:Int) (c:Int) (m0_0:(List Int)) (m1_0:Int) (m1_1:Int) (m1_2:(List ZU)) (m1_3:(List Zn)) (m1_4:(List Zj)) (m1_5:(List Zs)):(List Int)→V×Zp
  | r=>((.d (D.tup [])),[(.arr 1 (List.map Zb r)),(.cells [(.d (Zb m1_0)),(.d (Zb m1_1)),(.d (D.list t0 (List.map Z5 m1_2))),(.d (D.list t1 (List.map Zx m1_3))),(.d (D.list t2 (List.map Zr m1_4))),(.d (D.list t3 (List.map Zy m1_5)))])])
def Zbp (t0:Bool) (t1:Bool) (t2:Bool) (t3:Bool) (b:Int) (c:Int) (m1_0:Int) (m1_1:Int) (m1_2:(List ZU)) (m1_3:(List Zn)) (m1_4:(List Zj)) (m1_5:(List Zs)) (s0:Int×(List Int)):(List Int)→Ex×List V×Zp
  | r=>(.exit 2,[(.sl 0 1),(.d (Zb b)),(.d (Zb c)),(.fn 106 [(.ptr 1 0)]),(.d (Zb s0.1))],[(.arr 1 (List.map Zb r)),(.cells [(.d (Zb m1_0)),(.d (Zb m1_1)),(.d (D.list t0 (List.map Z5 m1_2))),(.d (D.list t1 (List.map Zx m1_3))),(.d (D.list t2 (List.map Zr m1_4))),(.d (D.list t3 (List.map Zy m1_5)))])])
theorem Zdq {t0:Bool}{t1:Bool}{t2:Bool}{t3:Bool}{b:Int}{c:Int}{m1_0:Int}{m1_1:Int}{m1_2:(List ZU)}{m1_3:(List Zn)}{m1_4:(List Zj)}{m1_5:(List Zs)}{s0:Int×(List Int)}:∀(s1:Int×(List Int)) (r:(List Int)),lp (Z0 b (fun z0 z1=>Zv z0 z1 m1_4)) s1=some r→lpW ctx 2 [0,1,2,3,8,9] [0,1,2,3,8] Zx1 [(.sl 0 1),(.d (Zb b)),(.d (Zb c)),(.fn 106 [(.ptr 1 0)]),(.d (Zb s0.1)),(.d (Zb s1.1))] [(.arr 1 (List.map Zb s1.2)),(.cells [(.d (Zb m1_0)),(.d (Zb m1_1)),(.d (D.list t0 (List.map Z5 m1_2))),(.d (D.list t1 (List.map Zx m1_3))),(.d (D.list t2 (List.map Zr m1_4))),(.d (D.list t3 (List.map Zy m1_5)))])]=some ((Zbp t0 t1 t2 t3 b c m1_0 m1_1 m1_2 m1_3 m1_4 m1_5 s0) r):=by
 refine Z2 (Zbp t0 t1 t2 t3 b c m1_0 m1_1 m1_2 m1_3 m1_4 m1_5 s0) ?_
 intro s1 rcl ih
 show ZH _ _ (lpW _ _ _ _ _ _ _)
 unfold Z0
 rw[Z3]
 conv=>arg 3;whnf
 refine Zd rfl ?_ ?_<;>conv=>arg 3;whnf
 ·refine Zl rfl rfl fun x2 hx2=>?_;conv=>arg 3;whnf
  refine Zg (ZB rfl hx2) ?_;conv=>arg 3;whnf
  refine Zl rfl rfl fun x3 hx3=>?_;conv=>arg 3;whnf
  refine Zg (ZB rfl hx3) ?_;conv=>arg 3;whnf
  refine Zm _ ZJ rfl fun x4 hx4=>?_;conv=>arg 3;whnf
  refine Zd rfl ?_ ?_<;>conv=>arg 3;whnf
  ·refine Zg (Za3 rfl hx3) ?_;conv=>arg 3;whnf
   refine Zg (ZB rfl hx3) ?_;conv=>arg 3;whnf
   refine Zg (Za3 rfl hx2) ?_;conv=>arg 3;whnf
   refine Zg (ZB rfl hx2) ?_;conv=>arg 3;whnf
   refine Zg (Za3 rfl hx2) ?_;conv=>arg 3;whnf
   refine Zg (ZB rfl hx2) ?_;conv=>arg 3;whnf
   refine Zk (ZaB Zb s1.2 s1.1.toNat x3) ?_;conv=>arg 3;whnf
   refine Zl rfl rfl fun x5 hx5=>?_;conv=>arg 3;whnf
   refine Zg (ZB rfl hx5) ?_;conv=>arg 3;whnf
   refine Zk (ZaB Zb (List.set s1.2 s1.1.toNat x3) (w64 (s1.1-1)).toNat x2) ?_;conv=>arg 3;whnf
   exact Zf (ih _)
  ·exact Zc rfl
 ·exact Zc rfl
def Zbr (t0:Bool) (t1:Bool) (t2:Bool) (t3:Bool) (b:Int) (c:Int) (m1_0:Int) (m1_1:Int) (m1_2:(List ZU)) (m1_3:(List Zn)) (m1_4:(List Zj)) (m1_5:(List Zs)):(List Int)→Ex×List V×Zp
  | r=>(.exit 0,[],[(.arr 1 (List.map Zb r)),(.cells [(.d (Zb m1_0)),(.d (Zb m1_1)),(.d (D.list t0 (List.map Z5 m1_2))),(.d (D.list t1 (List.map Zx m1_3))),(.d (D.list t2 (List.map Zr m1_4))),(.d (D.list t3 (List.map Zy m1_5)))])])
theorem Zdr {t0:Bool}{t1:Bool}{t2:Bool}{t3:Bool}{b:Int}{c:Int}{m1_0:Int}{m1_1:Int}{m1_2:(List ZU)}{m1_3:(List Zn)}{m1_4:(List Zj)}{m1_5:(List Zs)}:∀(s0:Int×(List Int)) (r:(List Int)),lp (Zau b c (fun z0 z1=>Zv z0 z1 m1_4)) s0=some r→lpW ctx 2 [0,1,2,3,8] [] ZxS [(.sl 0 1),(.d (Zb b)),(.d (Zb c)),(.fn 106 [(.ptr 1 0)]),(.d (Zb s0.1))] [(.arr 1 (List.map Zb s0.2)),(.cells [(.d (Zb m1_0)),(.d (Zb m1_1)),(.d (D.list t0 (List.map Z5 m1_2))),(.d (D.list t1 (List.map Zx m1_3))),(.d (D.list t2 (List.map Zr m1_4))),(.d (D.list t3 (List.map Zy m1_5)))])]=some ((Zbr t0 t1 t2 t3 b c m1_0 m1_1 m1_2 m1_3 m1_4 m1_5) r):=by
 refine Z2 (Zbr t0 t1 t2 t3 b c m1_0 m1_1 m1_2 m1_3 m1_4 m1_5) ?_
 intro s0 rcl ih
 show ZH _ _ (lpW _ _ _ _ _ _ _)
 unfold Zau
 rw[Z3]
 conv=>arg 3;whnf
 refine Zd rfl ?_ ?_<;>conv=>arg 3;whnf
 ·refine Ze _ (Zdq _) fun r6 hr6=>?_;conv=>arg 3;whnf
  exact Zf (ih _)
 ·exact Zc rfl
theorem Zah {t0:Bool}{t1:Bool}{t2:Bool}{t3:Bool}{b:Int}{c:Int}{m0_0:(List Int)}{m1_0:Int}{m1_1:Int}{m1_2:(List ZU)}{m1_3:(List Zn)}{m1_4:(List Zj)}{m1_5:(List Zs)}:∀r,(ZZ b c (fun z0 z1=>Zv z0 z1 m1_4) m0_0)=some r→evW ctx 120 [(.sl 0 1),(.d (Zb b)),(.d (Zb c)),(.fn 106 [(.ptr 1 0)])] [(.arr 1 (List.map Zb m0_0)),(.cells [(.d (Zb m1_0)),(.d (Zb m1_1)),(.d (D.list t0 (List.map Z5 m1_2))),(.d (D.list t1 (List.map Zx m1_3))),(.d (D.list t2 (List.map Zr m1_4))),(.d (D.list t3 (List.map Zy m1_5)))])]=some ((ZbI t0 t1 t2 t3 b c m0_0 m1_0 m1_1 m1_2 m1_3 m1_4 m1_5) r):=by
 show ZH _ (fun r rhs=>rhs=some ((ZbI t0 t1 t2 t3 b c m0_0 m1_0 m1_1 m1_2 m1_3 m1_4 m1_5) r)) _
 unfold ZZ
 rw[Zgp ctx 120 ZAK _ _ rfl rfl]
 conv=>arg 3;whnf
 refine Ze _ (Zdr _) fun r7 hr7=>?_;conv=>arg 3;whnf
 exact Zc rfl
def Zcp (t0:Bool) (t1:Bool) (t2:Bool) (t3:Bool) (b:Int) (c:Int) (d:Int) (m0_0:(List Int)) (m1_0:Int) (m1_1:Int) (m1_2:(List ZU)) (m1_3:(List Zn)) (m1_4:(List Zj)) (m1_5:(List Zs)):(List Int)→V×Zp
  | r=>((.d (D.tup [])),[(.arr 1 (List.map Zb r)),(.cells [(.d (Zb m1_0)),(.d (Zb m1_1)),(.d (D.list t0 (List.map Z5 m1_2))),(.d (D.list t1 (List.map Zx m1_3))),(.d (D.list t2 (List.map Zr m1_4))),(.d (D.list t3 (List.map Zy m1_5)))])])
def ZbX (t0:Bool) (t1:Bool) (t2:Bool) (t3:Bool) (c:Int) (d:Int) (m1_0:Int) (m1_1:Int) (m1_2:(List ZU)) (m1_3:(List Zn)) (m1_4:(List Zj)) (m1_5:(List Zs)):((List Int)⊕(List Int))→Ex×List V×Zp
  | (.inl r)=>(.exit 0,[],[(.arr 1 (List.map Zb r)),(.cells [(.d (Zb m1_0)),(.d (Zb m1_1)),(.d (D.list t0 (List.map Z5 m1_2))),(.d (D.list t1 (List.map Zx m1_3))),(.d (D.list t2 (List.map Zr m1_4))),(.d (D.list t3 (List.map Zy m1_5)))])])
  | (.inr r)=>(.ret,[],[(.arr 1 (List.map Zb r)),(.cells [(.d (Zb m1_0)),(.d (Zb m1_1)),(.d (D.list t0 (List.map Z5 m1_2))),(.d (D.list t1 (List.map Zx m1_3))),(.d (D.list t2 (List.map Zr m1_4))),(.d (D.list t3 (List.map Zy m1_5)))])])
theorem Zen {t0:Bool}{t1:Bool}{t2:Bool}{t3:Bool}{c:Int}{d:Int}{m1_0:Int}{m1_1:Int}{m1_2:(List ZU)}{m1_3:(List Zn)}{m1_4:(List Zj)}{m1_5:(List Zs)}:∀(s0:Int×(List Int)) (r:((List Int)⊕(List Int))),lp (ZN c d (fun z0 z1=>Zv z0 z1 m1_4)) s0=some r→lpW ctx 2 [0,2,3,4,10] [] ZxH [(.sl 0 1),(.d (Zb c)),(.d (Zb d)),(.fn 106 [(.ptr 1 0)]),(.d (Zb s0.1))] [(.arr 1 (List.map Zb s0.2)),(.cells [(.d (Zb m1_0)),(.d (Zb m1_1)),(.d (D.list t0 (List.map Z5 m1_2))),(.d (D.list t1 (List.map Zx m1_3))),(.d (D.list t2 (List.map Zr m1_4))),(.d (D.list t3 (List.map Zy m1_5)))])]=some ((ZbX t0 t1 t2 t3 c d m1_0 m1_1 m1_2 m1_3 m1_4 m1_5) r):=by
 refine Z2 (ZbX t0 t1 t2 t3 c d m1_0 m1_1 m1_2 m1_3 m1_4 m1_5) ?_
 intro s0 rcl ih
 show ZH _ _ (lpW _ _ _ _ _ _ _)
 unfold ZN
 rw[Z3]
 conv=>arg 3;whnf
 refine Zd rfl ?_ ?_<;>conv=>arg 3;whnf
 ·exact Zc rfl
 ·refine Zd rfl ?_ ?_<;>conv=>arg 3;whnf
  ·refine Zl rfl rfl fun x1 hx1=>?_;conv=>arg 3;whnf
   refine Zg (ZB rfl hx1) ?_;conv=>arg 3;whnf
   refine Zl rfl rfl fun x2 hx2=>?_;conv=>arg 3;whnf
   refine Zg (ZB rfl hx2) ?_;conv=>arg 3;whnf
   refine Zm _ ZJ rfl fun x3 hx3=>?_;conv=>arg 3;whnf
   refine Zd rfl ?_ ?_<;>conv=>arg 3;whnf
   ·refine Zl rfl rfl fun x4 hx4=>?_;conv=>arg 3;whnf
    refine Zg (ZB rfl hx4) ?_;conv=>arg 3;whnf
    refine Zl rfl rfl fun x5 hx5=>?_;conv=>arg 3;whnf
    refine Zg (ZB rfl hx5) ?_;conv=>arg 3;whnf
    refine Zm _ ZJ rfl fun x6 hx6=>?_;conv=>arg 3;whnf
    refine Zd rfl ?_ ?_<;>conv=>arg 3;whnf
    ·refine Zg (Za3 rfl hx5) ?_;conv=>arg 3;whnf
     refine Zg (ZB rfl hx5) ?_;conv=>arg 3;whnf
     refine Zg (Za3 rfl hx4) ?_;conv=>arg 3;whnf
     refine Zg (ZB rfl hx4) ?_;conv=>arg 3;whnf
     refine Zg (Za3 rfl hx4) ?_;conv=>arg 3;whnf
     refine Zg (ZB rfl hx4) ?_;conv=>arg 3;whnf
     refine Zk (ZaB Zb s0.2 (w64 (d+s0.1)).toNat x5) ?_;conv=>arg 3;whnf
     refine Zl rfl rfl fun x7 hx7=>?_;conv=>arg 3;whnf
     refine Zg (ZB rfl hx7) ?_;conv=>arg 3;whnf
     refine Zk (ZaB Zb (List.set s0.2 (w64 (d+s0.1)).toNat x5) (w64 (d+(w64 ((w64 ((w64 (2*s0.1))+1))+1)))).toNat x4) ?_;conv=>arg 3;whnf
     exact Zf (ih _)
    ·exact Zc rfl
   ·refine Zl rfl rfl fun x8 hx8=>?_;conv=>arg 3;whnf
    refine Zg (ZB rfl hx8) ?_;conv=>arg 3;whnf
    refine Zg (Za3 rfl hx1) ?_;conv=>arg 3;whnf
    refine Zg (ZB rfl hx1) ?_;conv=>arg 3;whnf
    refine Zm _ ZJ rfl fun x9 hx9=>?_;conv=>arg 3;whnf
    refine Zd rfl ?_ ?_<;>conv=>arg 3;whnf
    ·refine Zg (Za3 rfl hx1) ?_;conv=>arg 3;whnf
     refine Zg (ZB rfl hx1) ?_;conv=>arg 3;whnf
     refine Zg (Za3 rfl hx8) ?_;conv=>arg 3;whnf
     refine Zg (ZB rfl hx8) ?_;conv=>arg 3;whnf
     refine Zg (Za3 rfl hx8) ?_;conv=>arg 3;whnf
     refine Zg (ZB rfl hx8) ?_;conv=>arg 3;whnf
     refine Zk (ZaB Zb s0.2 (w64 (d+s0.1)).toNat x1) ?_;conv=>arg 3;whnf
     refine Zl rfl rfl fun x10 hx10=>?_;conv=>arg 3;whnf
     refine Zg (ZB rfl hx10) ?_;conv=>arg 3;whnf
     refine Zk (ZaB Zb (List.set s0.2 (w64 (d+s0.1)).toNat x1) (w64 (d+(w64 ((w64 (2*s0.1))+1)))).toNat x8) ?_;conv=>arg 3;whnf
     exact Zf (ih _)
    ·exact Zc rfl
  ·refine Zl rfl rfl fun x11 hx11=>?_;conv=>arg 3;whnf
   refine Zg (ZB rfl hx11) ?_;conv=>arg 3;whnf
   refine Zl rfl rfl fun x12 hx12=>?_;conv=>arg 3;whnf
   refine Zg (ZB rfl hx12) ?_;conv=>arg 3;whnf
   refine Zm _ ZJ rfl fun x13 hx13=>?_;conv=>arg 3;whnf
   refine Zd rfl ?_ ?_<;>conv=>arg 3;whnf
   ·refine Zg (Za3 rfl hx12) ?_;conv=>arg 3;whnf
    refine Zg (ZB rfl hx12) ?_;conv=>arg 3;whnf
    refine Zg (Za3 rfl hx11) ?_;conv=>arg 3;whnf
    refine Zg (ZB rfl hx11) ?_;conv=>arg 3;whnf
    refine Zg (Za3 rfl hx11) ?_;conv=>arg 3;whnf
    refine Zg (ZB rfl hx11) ?_;conv=>arg 3;whnf
    refine Zk (ZaB Zb s0.2 (w64 (d+s0.1)).toNat x12) ?_;conv=>arg 3;whnf
    refine Zl rfl rfl fun x14 hx14=>?_;conv=>arg 3;whnf
    refine Zg (ZB rfl hx14) ?_;conv=>arg 3;whnf
    refine Zk (ZaB Zb (List.set s0.2 (w64 (d+s0.1)).toNat x12) (w64 (d+(w64 ((w64 (2*s0.1))+1)))).toNat x11) ?_;conv=>arg 3;whnf
    exact Zf (ih _)
   ·exact Zc rfl
theorem Zb7 {t0:Bool}{t1:Bool}{t2:Bool}{t3:Bool}{b:Int}{c:Int}{d:Int}{m0_0:(List Int)}{m1_0:Int}{m1_1:Int}{m1_2:(List ZU)}{m1_3:(List Zn)}{m1_4:(List Zj)}{m1_5:(List Zs)}:∀r,(ZaL b c d (fun z0 z1=>Zv z0 z1 m1_4) m0_0)=some r→evW ctx 139 [(.sl 0 1),(.d (Zb b)),(.d (Zb c)),(.d (Zb d)),(.fn 106 [(.ptr 1 0)])] [(.arr 1 (List.map Zb m0_0)),(.cells [(.d (Zb m1_0)),(.d (Zb m1_1)),(.d (D.list t0 (List.map Z5 m1_2))),(.d (D.list t1 (List.map Zx m1_3))),(.d (D.list t2 (List.map Zr m1_4))),(.d (D.list t3 (List.map Zy m1_5)))])]=some ((Zcp t0 t1 t2 t3 b c d m0_0 m1_0 m1_1 m1_2 m1_3 m1_4 m1_5) r):=by
 show ZH _ (fun r rhs=>rhs=some ((Zcp t0 t1 t2 t3 b c d m0_0 m1_0 m1_1 m1_2 m1_3 m1_4 m1_5) r)) _
 unfold ZaL
 rw[Zgp ctx 139 ZAq _ _ rfl rfl]
 conv=>arg 3;whnf
 refine Ze _ (Zen _) fun r15 hr15=>?_
 clear hr15
 rcases r15 with r15 | r15
 ·conv=>arg 3;whnf
  exact Zc rfl
 ·conv=>arg 3;whnf
  exact Zc rfl
def Zco (t0:Bool) (t1:Bool) (t2:Bool) (t3:Bool) (b:Int) (c:Int) (m0_0:(List Int)) (m1_0:Int) (m1_1:Int) (m1_2:(List ZU)) (m1_3:(List Zn)) (m1_4:(List Zj)) (m1_5:(List Zs)):(List Int)→V×Zp
  | r=>((.d (D.tup [])),[(.arr 1 (List.map Zb r)),(.cells [(.d (Zb m1_0)),(.d (Zb m1_1)),(.d (D.list t0 (List.map Z5 m1_2))),(.d (D.list t1 (List.map Zx m1_3))),(.d (D.list t2 (List.map Zr m1_4))),(.d (D.list t3 (List.map Zy m1_5)))])])
def ZbU (t0:Bool) (t1:Bool) (t2:Bool) (t3:Bool) (b:Int) (c:Int) (m1_0:Int) (m1_1:Int) (m1_2:(List ZU)) (m1_3:(List Zn)) (m1_4:(List Zj)) (m1_5:(List Zs)):(List Int)→Ex×List V×Zp
  | r=>(.exit 0,[(.sl 0 1),(.fn 106 [(.ptr 1 0)]),(.d (Zb b)),(.d (Zb 0)),(.d (Zb (w64 (c-b))))],[(.arr 1 (List.map Zb r)),(.cells [(.d (Zb m1_0)),(.d (Zb m1_1)),(.d (D.list t0 (List.map Z5 m1_2))),(.d (D.list t1 (List.map Zx m1_3))),(.d (D.list t2 (List.map Zr m1_4))),(.d (D.list t3 (List.map Zy m1_5)))])])
theorem Zes {t0:Bool}{t1:Bool}{t2:Bool}{t3:Bool}{b:Int}{c:Int}{m1_0:Int}{m1_1:Int}{m1_2:(List ZU)}{m1_3:(List Zn)}{m1_4:(List Zj)}{m1_5:(List Zs)}:∀(s0:Int×(List Int)) (r:(List Int)),lp (ZaO b c (fun z0 z1=>Zv z0 z1 m1_4)) s0=some r→lpW ctx 2 [0,3,8,9,10,11] [0,3,8,9,10] ZxQ [(.sl 0 1),(.fn 106 [(.ptr 1 0)]),(.d (Zb b)),(.d (Zb 0)),(.d (Zb (w64 (c-b)))),(.d (Zb s0.1))] [(.arr 1 (List.map Zb s0.2)),(.cells [(.d (Zb m1_0)),(.d (Zb m1_1)),(.d (D.list t0 (List.map Z5 m1_2))),(.d (D.list t1 (List.map Zx m1_3))),(.d (D.list t2 (List.map Zr m1_4))),(.d (D.list t3 (List.map Zy m1_5)))])]=some ((ZbU t0 t1 t2 t3 b c m1_0 m1_1 m1_2 m1_3 m1_4 m1_5) r):=by
 refine Z2 (ZbU t0 t1 t2 t3 b c m1_0 m1_1 m1_2 m1_3 m1_4 m1_5) ?_
 intro s0 rcl ih
 show ZH _ _ (lpW _ _ _ _ _ _ _)
 unfold ZaO
 rw[Z3]
 conv=>arg 3;whnf
 refine Zd rfl ?_ ?_<;>conv=>arg 3;whnf
 ·refine Ze _ Zb7 fun x1 hx1=>?_;conv=>arg 3;whnf
  exact Zf (ih _)
 ·exact Zc rfl
def ZbV (t0:Bool) (t1:Bool) (t2:Bool) (t3:Bool) (b:Int) (m1_0:Int) (m1_1:Int) (m1_2:(List ZU)) (m1_3:(List Zn)) (m1_4:(List Zj)) (m1_5:(List Zs)):(List Int)→Ex×List V×Zp
  | r=>(.exit 2,[],[(.arr 1 (List.map Zb r)),(.cells [(.d (Zb m1_0)),(.d (Zb m1_1)),(.d (D.list t0 (List.map Z5 m1_2))),(.d (D.list t1 (List.map Zx m1_3))),(.d (D.list t2 (List.map Zr m1_4))),(.d (D.list t3 (List.map Zy m1_5)))])])
theorem Zeq {t0:Bool}{t1:Bool}{t2:Bool}{t3:Bool}{b:Int}{m1_0:Int}{m1_1:Int}{m1_2:(List ZU)}{m1_3:(List Zn)}{m1_4:(List Zj)}{m1_5:(List Zs)}:∀(s3:Int×(List Int)) (r:(List Int)),lp (ZaP b (fun z0 z1=>Zv z0 z1 m1_4)) s3=some r→lpW ctx 2 [0,3,8,9,12] [] ZxA [(.sl 0 1),(.fn 106 [(.ptr 1 0)]),(.d (Zb b)),(.d (Zb 0)),(.d (Zb s3.1))] [(.arr 1 (List.map Zb s3.2)),(.cells [(.d (Zb m1_0)),(.d (Zb m1_1)),(.d (D.list t0 (List.map Z5 m1_2))),(.d (D.list t1 (List.map Zx m1_3))),(.d (D.list t2 (List.map Zr m1_4))),(.d (D.list t3 (List.map Zy m1_5)))])]=some ((ZbV t0 t1 t2 t3 b m1_0 m1_1 m1_2 m1_3 m1_4 m1_5) r):=by
 refine Z2 (ZbV t0 t1 t2 t3 b m1_0 m1_1 m1_2 m1_3 m1_4 m1_5) ?_
 intro s3 rcl ih
 show ZH _ _ (lpW _ _ _ _ _ _ _)
 unfold ZaP
 rw[Z3]
 conv=>arg 3;whnf
 refine Zd rfl ?_ ?_<;>conv=>arg 3;whnf
 ·refine Zl rfl rfl fun x4 hx4=>?_;conv=>arg 3;whnf
  refine Zg (ZB rfl hx4) ?_;conv=>arg 3;whnf
  refine Zl rfl rfl fun x5 hx5=>?_;conv=>arg 3;whnf
  refine Zg (ZB rfl hx5) ?_;conv=>arg 3;whnf
  refine Zg (Za3 rfl hx5) ?_;conv=>arg 3;whnf
  refine Zg (ZB rfl hx5) ?_;conv=>arg 3;whnf
  refine Zk (ZaB Zb s3.2 b.toNat x4) ?_;conv=>arg 3;whnf
  refine Zl rfl rfl fun x6 hx6=>?_;conv=>arg 3;whnf
  refine Zg (ZB rfl hx6) ?_;conv=>arg 3;whnf
  refine Zk (ZaB Zb (List.set s3.2 b.toNat x4) (w64 (b+s3.1)).toNat x5) ?_;conv=>arg 3;whnf
  refine Ze _ Zb7 fun x7 hx7=>?_;conv=>arg 3;whnf
  exact Zf (ih _)
 ·exact Zc rfl
theorem Zaz {t0:Bool}{t1:Bool}{t2:Bool}{t3:Bool}{b:Int}{c:Int}{m0_0:(List Int)}{m1_0:Int}{m1_1:Int}{m1_2:(List ZU)}{m1_3:(List Zn)}{m1_4:(List Zj)}{m1_5:(List Zs)}:∀r,(Zac b c (fun z0 z1=>Zv z0 z1 m1_4) m0_0)=some r→evW ctx 121 [(.sl 0 1),(.d (Zb b)),(.d (Zb c)),(.fn 106 [(.ptr 1 0)])] [(.arr 1 (List.map Zb m0_0)),(.cells [(.d (Zb m1_0)),(.d (Zb m1_1)),(.d (D.list t0 (List.map Z5 m1_2))),(.d (D.list t1 (List.map Zx m1_3))),(.d (D.list t2 (List.map Zr m1_4))),(.d (D.list t3 (List.map Zy m1_5)))])]=some ((Zco t0 t1 t2 t3 b c m0_0 m1_0 m1_1 m1_2 m1_3 m1_4 m1_5) r):=by
 show ZH _ (fun r rhs=>rhs=some ((Zco t0 t1 t2 t3 b c m0_0 m1_0 m1_1 m1_2 m1_3 m1_4 m1_5) r)) _
 unfold Zac
 rw[Zgp ctx 121 ZzH _ _ rfl rfl]
 conv=>arg 3;whnf
 refine Zaf rfl ?_;conv=>arg 3;whnf
 refine Ze _ (Zes _) fun r2 hr2=>?_;conv=>arg 3;whnf
 refine Ze _ (Zeq _) fun r8 hr8=>?_;conv=>arg 3;whnf
 exact Zc rfl
def ZcA (t0:Bool) (t1:Bool) (t2:Bool) (t3:Bool) (b:Int) (c:Int) (m0_0:(List Int)) (m1_0:Int) (m2_0:Int) (m2_1:Int) (m2_2:(List ZU)) (m2_3:(List Zn)) (m2_4:(List Zj)) (m2_5:(List Zs)):(Int×Int×Int)→V×Zp
  | r=>((.d (D.tup [(Zb r.1),(Zb r.2.1)])),[(.arr 1 (List.map Zb m0_0)),(.cells [(.d (Zb r.2.2))]),(.cells [(.d (Zb m2_0)),(.d (Zb m2_1)),(.d (D.list t0 (List.map Z5 m2_2))),(.d (D.list t1 (List.map Zx m2_3))),(.d (D.list t2 (List.map Zr m2_4))),(.d (D.list t3 (List.map Zy m2_5)))])])
theorem Zbe {t0:Bool}{t1:Bool}{t2:Bool}{t3:Bool}{b:Int}{c:Int}{m0_0:(List Int)}{m1_0:Int}{m2_0:Int}{m2_1:Int}{m2_2:(List ZU)}{m2_3:(List Zn)}{m2_4:(List Zj)}{m2_5:(List Zs)}:∀r,(ZaX b c (fun z0 z1=>Zv z0 z1 m2_4) m0_0 m1_0)=some r→evW ctx 148 [(.sl 0 1),(.d (Zb b)),(.d (Zb c)),(.ptr 1 0),(.fn 106 [(.ptr 2 0)])] [(.arr 1 (List.map Zb m0_0)),(.cells [(.d (Zb m1_0))]),(.cells [(.d (Zb m2_0)),(.d (Zb m2_1)),(.d (D.list t0 (List.map Z5 m2_2))),(.d (D.list t1 (List.map Zx m2_3))),(.d (D.list t2 (List.map Zr m2_4))),(.d (D.list t3 (List.map Zy m2_5)))])]=some ((ZcA t0 t1 t2 t3 b c m0_0 m1_0 m2_0 m2_1 m2_2 m2_3 m2_4 m2_5) r):=by
 show ZH _ (fun r rhs=>rhs=some ((ZcA t0 t1 t2 t3 b c m0_0 m1_0 m2_0 m2_1 m2_2 m2_3 m2_4 m2_5) r)) _
 unfold ZaX
 rw[Zgp ctx 148 ZBC _ _ rfl rfl]
 conv=>arg 3;whnf
 refine Zl rfl rfl fun x0 hx0=>?_;conv=>arg 3;whnf
 refine Zg (ZB rfl hx0) ?_;conv=>arg 3;whnf
 refine Zl rfl rfl fun x1 hx1=>?_;conv=>arg 3;whnf
 refine Zg (ZB rfl hx1) ?_;conv=>arg 3;whnf
 refine Zm _ ZJ rfl fun x2 hx2=>?_;conv=>arg 3;whnf
 refine Zd rfl ?_ ?_<;>conv=>arg 3;whnf
 ·exact Zc rfl
 ·exact Zc rfl
def Zcz (t0:Bool) (t1:Bool) (t2:Bool) (t3:Bool) (b:Int) (c:Int) (d:Int) (m0_0:(List Int)) (m1_0:Int) (m2_0:Int) (m2_1:Int) (m2_2:(List ZU)) (m2_3:(List Zn)) (m2_4:(List Zj)) (m2_5:(List Zs)):(Int×Int)→V×Zp
  | r=>((.d (Zb r.1)),[(.arr 1 (List.map Zb m0_0)),(.cells [(.d (Zb r.2))]),(.cells [(.d (Zb m2_0)),(.d (Zb m2_1)),(.d (D.list t0 (List.map Z5 m2_2))),(.d (D.list t1 (List.map Zx m2_3))),(.d (D.list t2 (List.map Zr m2_4))),(.d (D.list t3 (List.map Zy m2_5)))])])
theorem Zbf {t0:Bool}{t1:Bool}{t2:Bool}{t3:Bool}{b:Int}{c:Int}{d:Int}{m0_0:(List Int)}{m1_0:Int}{m2_0:Int}{m2_1:Int}{m2_2:(List ZU)}{m2_3:(List Zn)}{m2_4:(List Zj)}{m2_5:(List Zs)}:∀r,(ZaW b c d (fun z0 z1=>Zv z0 z1 m2_4) m0_0 m1_0)=some r→evW ctx 143 [(.sl 0 1),(.d (Zb b)),(.d (Zb c)),(.d (Zb d)),(.ptr 1 0),(.fn 106 [(.ptr 2 0)])] [(.arr 1 (List.map Zb m0_0)),(.cells [(.d (Zb m1_0))]),(.cells [(.d (Zb m2_0)),(.d (Zb m2_1)),(.d (D.list t0 (List.map Z5 m2_2))),(.d (D.list t1 (List.map Zx m2_3))),(.d (D.list t2 (List.map Zr m2_4))),(.d (D.list t3 (List.map Zy m2_5)))])]=some ((Zcz t0 t1 t2 t3 b c d m0_0 m1_0 m2_0 m2_1 m2_2 m2_3 m2_4 m2_5) r):=by
 show ZH _ (fun r rhs=>rhs=some ((Zcz t0 t1 t2 t3 b c d m0_0 m1_0 m2_0 m2_1 m2_2 m2_3 m2_4 m2_5) r)) _
 unfold ZaW
 rw[Zgp ctx 143 ZBj _ _ rfl rfl]
 conv=>arg 3;whnf
 refine Ze _ Zbe fun x0 hx0=>?_;conv=>arg 3;whnf
 refine Ze _ Zbe fun x1 hx1=>?_;conv=>arg 3;whnf
 refine Ze _ Zbe fun x2 hx2=>?_;conv=>arg 3;whnf
 exact Zc rfl
def ZbC (t0:Bool) (t1:Bool) (t2:Bool) (t3:Bool) (b:Int) (m0_0:(List Int)) (m1_0:Int) (m2_0:Int) (m2_1:Int) (m2_2:(List ZU)) (m2_3:(List Zn)) (m2_4:(List Zj)) (m2_5:(List Zs)):(Int×Int)→V×Zp
  | r=>((.d (Zb r.1)),[(.arr 1 (List.map Zb m0_0)),(.cells [(.d (Zb r.2))]),(.cells [(.d (Zb m2_0)),(.d (Zb m2_1)),(.d (D.list t0 (List.map Z5 m2_2))),(.d (D.list t1 (List.map Zx m2_3))),(.d (D.list t2 (List.map Zr m2_4))),(.d (D.list t3 (List.map Zy m2_5)))])])
theorem ZaM {t0:Bool}{t1:Bool}{t2:Bool}{t3:Bool}{b:Int}{m0_0:(List Int)}{m1_0:Int}{m2_0:Int}{m2_1:Int}{m2_2:(List ZU)}{m2_3:(List Zn)}{m2_4:(List Zj)}{m2_5:(List Zs)}:∀r,(Zad b (fun z0 z1=>Zv z0 z1 m2_4) m0_0 m1_0)=some r→evW ctx 142 [(.sl 0 1),(.d (Zb b)),(.ptr 1 0),(.fn 106 [(.ptr 2 0)])] [(.arr 1 (List.map Zb m0_0)),(.cells [(.d (Zb m1_0))]),(.cells [(.d (Zb m2_0)),(.d (Zb m2_1)),(.d (D.list t0 (List.map Z5 m2_2))),(.d (D.list t1 (List.map Zx m2_3))),(.d (D.list t2 (List.map Zr m2_4))),(.d (D.list t3 (List.map Zy m2_5)))])]=some ((ZbC t0 t1 t2 t3 b m0_0 m1_0 m2_0 m2_1 m2_2 m2_3 m2_4 m2_5) r):=by
 show ZH _ (fun r rhs=>rhs=some ((ZbC t0 t1 t2 t3 b m0_0 m1_0 m2_0 m2_1 m2_2 m2_3 m2_4 m2_5) r)) _
 unfold Zad
 rw[Zgp ctx 142 ZAV _ _ rfl rfl]
 conv=>arg 3;whnf
 refine Ze _ Zbf fun x0 hx0=>?_;conv=>arg 3;whnf
 exact Zc rfl
def ZbW (t0:Bool) (t1:Bool) (t2:Bool) (t3:Bool) (b:Int) (c:Int) (m0_0:(List Int)) (m1_0:Int) (m1_1:Int) (m1_2:(List ZU)) (m1_3:(List Zn)) (m1_4:(List Zj)) (m1_5:(List Zs)):(Int×Int)→V×Zp
  | r=>((.d (D.tup [(Zb r.1),(Zb r.2)])),[(.arr 1 (List.map Zb m0_0)),(.cells [(.d (Zb m1_0)),(.d (Zb m1_1)),(.d (D.list t0 (List.map Z5 m1_2))),(.d (D.list t1 (List.map Zx m1_3))),(.d (D.list t2 (List.map Zr m1_4))),(.d (D.list t3 (List.map Zy m1_5)))])])
theorem Zar {t0:Bool}{t1:Bool}{t2:Bool}{t3:Bool}{b:Int}{c:Int}{m0_0:(List Int)}{m1_0:Int}{m1_1:Int}{m1_2:(List ZU)}{m1_3:(List Zn)}{m1_4:(List Zj)}{m1_5:(List Zs)}:∀r,(ZS b c (fun z0 z1=>Zv z0 z1 m1_4) m0_0)=some r→evW ctx 123 [(.sl 0 1),(.d (Zb b)),(.d (Zb c)),(.fn 106 [(.ptr 1 0)])] [(.arr 1 (List.map Zb m0_0)),(.cells [(.d (Zb m1_0)),(.d (Zb m1_1)),(.d (D.list t0 (List.map Z5 m1_2))),(.d (D.list t1 (List.map Zx m1_3))),(.d (D.list t2 (List.map Zr m1_4))),(.d (D.list t3 (List.map Zy m1_5)))])]=some ((ZbW t0 t1 t2 t3 b c m0_0 m1_0 m1_1 m1_2 m1_3 m1_4 m1_5) r):=by
 show ZH _ (fun r rhs=>rhs=some ((ZbW t0 t1 t2 t3 b c m0_0 m1_0 m1_1 m1_2 m1_3 m1_4 m1_5) r)) _
 unfold ZS
 rw[Zgp ctx 123 ZA8 _ _ rfl rfl]
 conv=>arg 3;whnf
 refine Zaf rfl ?_;conv=>arg 3;whnf
 refine Zaf rfl ?_;conv=>arg 3;whnf
 refine Zaf rfl ?_;conv=>arg 3;whnf
 refine Zd rfl ?_ ?_<;>conv=>arg 3;whnf
 ·refine Zd rfl ?_ ?_<;>conv=>arg 3;whnf
  ·refine Ze _ ZaM fun x0 hx0=>?_;conv=>arg 3;whnf
   refine Ze _ ZaM fun x1 hx1=>?_;conv=>arg 3;whnf
   refine Ze _ ZaM fun x2 hx2=>?_;conv=>arg 3;whnf
   refine Ze _ Zbf fun x3 hx3=>?_;conv=>arg 3;whnf
   refine Zd rfl ?_ ?_<;>conv=>arg 3;whnf
   ·exact Zc rfl
   ·refine Zd rfl ?_ ?_<;>conv=>arg 3;whnf
    ·exact Zc rfl
    ·exact Zc rfl
  ·refine Ze _ Zbf fun x4 hx4=>?_;conv=>arg 3;whnf
   refine Zd rfl ?_ ?_<;>conv=>arg 3;whnf
   ·exact Zc rfl
   ·refine Zd rfl ?_ ?_<;>conv=>arg 3;whnf
    ·exact Zc rfl
    ·exact Zc rfl
 ·refine ZaU rfl ?_;conv=>arg 3;whnf
  exact Zc rfl
def ZbJ (t0:Bool) (t1:Bool) (t2:Bool) (t3:Bool) (b:Int) (c:Int) (m0_0:(List Int)) (m1_0:Int) (m1_1:Int) (m1_2:(List ZU)) (m1_3:(List Zn)) (m1_4:(List Zj)) (m1_5:(List Zs)):(List Int)→V×Zp
  | r=>((.d (D.tup [])),[(.arr 1 (List.map Zb r)),(.cells [(.d (Zb m1_0)),(.d (Zb m1_1)),(.d (D.list t0 (List.map Z5 m1_2))),(.d (D.list t1 (List.map Zx m1_3))),(.d (D.list t2 (List.map Zr m1_4))),(.d (D.list t3 (List.map Zy m1_5)))])])
def Zby (t0:Bool) (t1:Bool) (t2:Bool) (t3:Bool) (m1_0:Int) (m1_1:Int) (m1_2:(List ZU)) (m1_3:(List Zn)) (m1_4:(List Zj)) (m1_5:(List Zs)):(List Int)→Ex×List V×Zp
  | r=>(.exit 0,[],[(.arr 1 (List.map Zb r)),(.cells [(.d (Zb m1_0)),(.d (Zb m1_1)),(.d (D.list t0 (List.map Z5 m1_2))),(.d (D.list t1 (List.map Zx m1_3))),(.d (D.list t2 (List.map Zr m1_4))),(.d (D.list t3 (List.map Zy m1_5)))])])
theorem Zdz {t0:Bool}{t1:Bool}{t2:Bool}{t3:Bool}{m1_0:Int}{m1_1:Int}{m1_2:(List ZU)}{m1_3:(List Zn)}{m1_4:(List Zj)}{m1_5:(List Zs)}:∀(s0:Int×Int×(List Int)) (r:(List Int)),lp (Z9) s0=some r→lpW ctx 2 [0,8,9] [] Zx0 [(.sl 0 1),(.d (Zb s0.1)),(.d (Zb s0.2.1))] [(.arr 1 (List.map Zb s0.2.2)),(.cells [(.d (Zb m1_0)),(.d (Zb m1_1)),(.d (D.list t0 (List.map Z5 m1_2))),(.d (D.list t1 (List.map Zx m1_3))),(.d (D.list t2 (List.map Zr m1_4))),(.d (D.list t3 (List.map Zy m1_5)))])]=some ((Zby t0 t1 t2 t3 m1_0 m1_1 m1_2 m1_3 m1_4 m1_5) r):=by
 refine Z2 (Zby t0 t1 t2 t3 m1_0 m1_1 m1_2 m1_3 m1_4 m1_5) ?_
 intro s0 rcl ih
 show ZH _ _ (lpW _ _ _ _ _ _ _)
 unfold Z9
 rw[Z3]
 conv=>arg 3;whnf
 refine Zd rfl ?_ ?_<;>conv=>arg 3;whnf
 ·refine Zl rfl rfl fun x1 hx1=>?_;conv=>arg 3;whnf
  refine Zg (ZB rfl hx1) ?_;conv=>arg 3;whnf
  refine Zl rfl rfl fun x2 hx2=>?_;conv=>arg 3;whnf
  refine Zg (ZB rfl hx2) ?_;conv=>arg 3;whnf
  refine Zg (Za3 rfl hx2) ?_;conv=>arg 3;whnf
  refine Zg (ZB rfl hx2) ?_;conv=>arg 3;whnf
  refine Zk (ZaB Zb s0.2.2 s0.1.toNat x1) ?_;conv=>arg 3;whnf
  refine Zl rfl rfl fun x3 hx3=>?_;conv=>arg 3;whnf
  refine Zg (ZB rfl hx3) ?_;conv=>arg 3;whnf
  refine Zk (ZaB Zb (List.set s0.2.2 s0.1.toNat x1) s0.2.1.toNat x2) ?_;conv=>arg 3;whnf
  exact Zf (ih _)
 ·exact Zc rfl
theorem Zao {t0:Bool}{t1:Bool}{t2:Bool}{t3:Bool}{b:Int}{c:Int}{m0_0:(List Int)}{m1_0:Int}{m1_1:Int}{m1_2:(List ZU)}{m1_3:(List Zn)}{m1_4:(List Zj)}{m1_5:(List Zs)}:∀r,(ZQ b c (fun z0 z1=>Zv z0 z1 m1_4) m0_0)=some r→evW ctx 124 [(.sl 0 1),(.d (Zb b)),(.d (Zb c)),(.fn 106 [(.ptr 1 0)])] [(.arr 1 (List.map Zb m0_0)),(.cells [(.d (Zb m1_0)),(.d (Zb m1_1)),(.d (D.list t0 (List.map Z5 m1_2))),(.d (D.list t1 (List.map Zx m1_3))),(.d (D.list t2 (List.map Zr m1_4))),(.d (D.list t3 (List.map Zy m1_5)))])]=some ((ZbJ t0 t1 t2 t3 b c m0_0 m1_0 m1_1 m1_2 m1_3 m1_4 m1_5) r):=by
 show ZH _ (fun r rhs=>rhs=some ((ZbJ t0 t1 t2 t3 b c m0_0 m1_0 m1_1 m1_2 m1_3 m1_4 m1_5) r)) _
 unfold ZQ
 rw[Zgp ctx 124 ZB5 _ _ rfl rfl]
 conv=>arg 3;whnf
 refine Ze _ (Zdz _) fun r4 hr4=>?_;conv=>arg 3;whnf
 exact Zc rfl
def Zbh (t0:Bool) (t1:Bool) (t2:Bool) (t3:Bool) (b:Int) (c:Int) (m0_0:(List Int)) (m1_0:Int) (m1_1:Int) (m1_2:(List ZU)) (m1_3:(List Zn)) (m1_4:(List Zj)) (m1_5:(List Zs)):((List Int)⊕(List Int))→V×Zp
  | (.inl r)=>((.d (D.bool true)),[(.arr 1 (List.map Zb r)),(.cells [(.d (Zb m1_0)),(.d (Zb m1_1)),(.d (D.list t0 (List.map Z5 m1_2))),(.d (D.list t1 (List.map Zx m1_3))),(.d (D.list t2 (List.map Zr m1_4))),(.d (D.list t3 (List.map Zy m1_5)))])])
  | (.inr r)=>((.d (D.bool false)),[(.arr 1 (List.map Zb r)),(.cells [(.d (Zb m1_0)),(.d (Zb m1_1)),(.d (D.list t0 (List.map Z5 m1_2))),(.d (D.list t1 (List.map Zx m1_3))),(.d (D.list t2 (List.map Zr m1_4))),(.d (D.list t3 (List.map Zy m1_5)))])])
def Zbc (t0:Bool) (t1:Bool) (t2:Bool) (t3:Bool) (b:Int) (c:Int) (m1_0:Int) (m1_1:Int) (m1_2:(List ZU)) (m1_3:(List Zn)) (m1_4:(List Zj)) (m1_5:(List Zs)) (s0:Int×Int×(List Int)):Int→Ex×List V×Zp
  | r=>(.exit 2,[(.sl 0 1),(.d (Zb b)),(.d (Zb c)),(.fn 106 [(.ptr 1 0)]),(.d (Zb r)),(.d (Zb s0.2.1))],[(.arr 1 (List.map Zb s0.2.2)),(.cells [(.d (Zb m1_0)),(.d (Zb m1_1)),(.d (D.list t0 (List.map Z5 m1_2))),(.d (D.list t1 (List.map Zx m1_3))),(.d (D.list t2 (List.map Zr m1_4))),(.d (D.list t3 (List.map Zy m1_5)))])])
theorem ZcH {t0:Bool}{t1:Bool}{t2:Bool}{t3:Bool}{b:Int}{c:Int}{m1_0:Int}{m1_1:Int}{m1_2:(List ZU)}{m1_3:(List Zn)}{m1_4:(List Zj)}{m1_5:(List Zs)}{s0:Int×Int×(List Int)}:∀(s1:Int) (r:Int),lp (ZP c (fun z0 z1=>Zv z0 z1 m1_4) s0) s1=some r→lpW ctx 2 [0,1,2,3,9,10] [0,1,2,3,9,10] ZxG [(.sl 0 1),(.d (Zb b)),(.d (Zb c)),(.fn 106 [(.ptr 1 0)]),(.d (Zb s1)),(.d (Zb s0.2.1))] [(.arr 1 (List.map Zb s0.2.2)),(.cells [(.d (Zb m1_0)),(.d (Zb m1_1)),(.d (D.list t0 (List.map Z5 m1_2))),(.d (D.list t1 (List.map Zx m1_3))),(.d (D.list t2 (List.map Zr m1_4))),(.d (D.list t3 (List.map Zy m1_5)))])]=some ((Zbc t0 t1 t2 t3 b c m1_0 m1_1 m1_2 m1_3 m1_4 m1_5 s0) r):=by
 refine Z2 (Zbc t0 t1 t2 t3 b c m1_0 m1_1 m1_2 m1_3 m1_4 m1_5 s0) ?_
 intro s1 rcl ih
 show ZH _ _ (lpW _ _ _ _ _ _ _)
 unfold ZP
 rw[Z3]
 conv=>arg 3;whnf
 refine Zd rfl ?_ ?_<;>conv=>arg 3;whnf
 ·refine Zl rfl rfl fun x2 hx2=>?_;conv=>arg 3;whnf
  refine Zg (ZB rfl hx2) ?_;conv=>arg 3;whnf
  refine Zl rfl rfl fun x3 hx3=>?_;conv=>arg 3;whnf
  refine Zg (ZB rfl hx3) ?_;conv=>arg 3;whnf
  refine Zm _ ZJ rfl fun x4 hx4=>?_;conv=>arg 3;whnf
  refine Zd rfl ?_ ?_<;>conv=>arg 3;whnf
  ·exact Zc rfl
  ·exact Zf (ih _)
 ·exact Zc rfl
def Za9 (t0:Bool) (t1:Bool) (t2:Bool) (t3:Bool) (b:Int) (c:Int) (m1_0:Int) (m1_1:Int) (m1_2:(List ZU)) (m1_3:(List Zn)) (m1_4:(List Zj)) (m1_5:(List Zs)) (s0:Int×Int×(List Int)) (r5:Int):(List Int)→Ex×List V×Zp
  | r=>(.exit 4,[(.sl 0 1),(.d (Zb b)),(.d (Zb c)),(.fn 106 [(.ptr 1 0)]),(.d (Zb r5)),(.d (Zb s0.2.1))],[(.arr 1 (List.map Zb r)),(.cells [(.d (Zb m1_0)),(.d (Zb m1_1)),(.d (D.list t0 (List.map Z5 m1_2))),(.d (D.list t1 (List.map Zx m1_3))),(.d (D.list t2 (List.map Zr m1_4))),(.d (D.list t3 (List.map Zy m1_5)))])])
theorem ZcG {t0:Bool}{t1:Bool}{t2:Bool}{t3:Bool}{b:Int}{c:Int}{m1_0:Int}{m1_1:Int}{m1_2:(List ZU)}{m1_3:(List Zn)}{m1_4:(List Zj)}{m1_5:(List Zs)}{s0:Int×Int×(List Int)}{r5:Int}:∀(s9:Int×(List Int)) (r:(List Int)),lp (ZX (fun z0 z1=>Zv z0 z1 m1_4)) s9=some r→lpW ctx 2 [0,1,2,3,9,10,11] [0,1,2,3,9,10] Zyg [(.sl 0 1),(.d (Zb b)),(.d (Zb c)),(.fn 106 [(.ptr 1 0)]),(.d (Zb r5)),(.d (Zb s0.2.1)),(.d (Zb s9.1))] [(.arr 1 (List.map Zb s9.2)),(.cells [(.d (Zb m1_0)),(.d (Zb m1_1)),(.d (D.list t0 (List.map Z5 m1_2))),(.d (D.list t1 (List.map Zx m1_3))),(.d (D.list t2 (List.map Zr m1_4))),(.d (D.list t3 (List.map Zy m1_5)))])]=some ((Za9 t0 t1 t2 t3 b c m1_0 m1_1 m1_2 m1_3 m1_4 m1_5 s0 r5) r):=by
 refine Z2 (Za9 t0 t1 t2 t3 b c m1_0 m1_1 m1_2 m1_3 m1_4 m1_5 s0 r5) ?_
 intro s9 rcl ih
 show ZH _ _ (lpW _ _ _ _ _ _ _)
 unfold ZX
 rw[Z3]
 conv=>arg 3;whnf
 refine Zd rfl ?_ ?_<;>conv=>arg 3;whnf
 ·refine Zl rfl rfl fun x10 hx10=>?_;conv=>arg 3;whnf
  refine Zg (ZB rfl hx10) ?_;conv=>arg 3;whnf
  refine Zl rfl rfl fun x11 hx11=>?_;conv=>arg 3;whnf
  refine Zg (ZB rfl hx11) ?_;conv=>arg 3;whnf
  refine Zm _ ZJ rfl fun x12 hx12=>?_;conv=>arg 3;whnf
  refine Zd rfl ?_ ?_<;>conv=>arg 3;whnf
  ·refine Zg (Za3 rfl hx11) ?_;conv=>arg 3;whnf
   refine Zg (ZB rfl hx11) ?_;conv=>arg 3;whnf
   refine Zg (Za3 rfl hx10) ?_;conv=>arg 3;whnf
   refine Zg (ZB rfl hx10) ?_;conv=>arg 3;whnf
   refine Zg (Za3 rfl hx10) ?_;conv=>arg 3;whnf
   refine Zg (ZB rfl hx10) ?_;conv=>arg 3;whnf
   refine Zk (ZaB Zb s9.2 s9.1.toNat x11) ?_;conv=>arg 3;whnf
   refine Zl rfl rfl fun x13 hx13=>?_;conv=>arg 3;whnf
   refine Zg (ZB rfl hx13) ?_;conv=>arg 3;whnf
   refine Zk (ZaB Zb (List.set s9.2 s9.1.toNat x11) (w64 (s9.1-1)).toNat x10) ?_;conv=>arg 3;whnf
   exact Zf (ih _)
  ·exact Zc rfl
 ·exact Zc rfl
def Zba (t0:Bool) (t1:Bool) (t2:Bool) (t3:Bool) (b:Int) (c:Int) (m1_0:Int) (m1_1:Int) (m1_2:(List ZU)) (m1_3:(List Zn)) (m1_4:(List Zj)) (m1_5:(List Zs)) (s0:Int×Int×(List Int)) (r5:Int):(List Int)→Ex×List V×Zp
  | r=>(.exit 6,[(.sl 0 1),(.d (Zb b)),(.d (Zb c)),(.fn 106 [(.ptr 1 0)]),(.d (Zb r5)),(.d (Zb s0.2.1))],[(.arr 1 (List.map Zb r)),(.cells [(.d (Zb m1_0)),(.d (Zb m1_1)),(.d (D.list t0 (List.map Z5 m1_2))),(.d (D.list t1 (List.map Zx m1_3))),(.d (D.list t2 (List.map Zr m1_4))),(.d (D.list t3 (List.map Zy m1_5)))])])
theorem Za7 {t0:Bool}{t1:Bool}{t2:Bool}{t3:Bool}{b:Int}{c:Int}{m1_0:Int}{m1_1:Int}{m1_2:(List ZU)}{m1_3:(List Zn)}{m1_4:(List Zj)}{m1_5:(List Zs)}{s0:Int×Int×(List Int)}{r5:Int}:∀(s15:Int×(List Int)) (r:(List Int)),lp (ZL c (fun z0 z1=>Zv z0 z1 m1_4)) s15=some r→lpW ctx 2 [0,1,2,3,9,10,12] [0,1,2,3,9,10] ZxI [(.sl 0 1),(.d (Zb b)),(.d (Zb c)),(.fn 106 [(.ptr 1 0)]),(.d (Zb r5)),(.d (Zb s0.2.1)),(.d (Zb s15.1))] [(.arr 1 (List.map Zb s15.2)),(.cells [(.d (Zb m1_0)),(.d (Zb m1_1)),(.d (D.list t0 (List.map Z5 m1_2))),(.d (D.list t1 (List.map Zx m1_3))),(.d (D.list t2 (List.map Zr m1_4))),(.d (D.list t3 (List.map Zy m1_5)))])]=some ((Zba t0 t1 t2 t3 b c m1_0 m1_1 m1_2 m1_3 m1_4 m1_5 s0 r5) r):=by
 refine Z2 (Zba t0 t1 t2 t3 b c m1_0 m1_1 m1_2 m1_3 m1_4 m1_5 s0 r5) ?_
 intro s15 rcl ih
 show ZH _ _ (lpW _ _ _ _ _ _ _)
 unfold ZL
 rw[Z3]
 conv=>arg 3;whnf
 refine Zd rfl ?_ ?_<;>conv=>arg 3;whnf
 ·refine Zl rfl rfl fun x16 hx16=>?_;conv=>arg 3;whnf
  refine Zg (ZB rfl hx16) ?_;conv=>arg 3;whnf
  refine Zl rfl rfl fun x17 hx17=>?_;conv=>arg 3;whnf
  refine Zg (ZB rfl hx17) ?_;conv=>arg 3;whnf
  refine Zm _ ZJ rfl fun x18 hx18=>?_;conv=>arg 3;whnf
  refine Zd rfl ?_ ?_<;>conv=>arg 3;whnf
  ·refine Zg (Za3 rfl hx17) ?_;conv=>arg 3;whnf
   refine Zg (ZB rfl hx17) ?_;conv=>arg 3;whnf
   refine Zg (Za3 rfl hx16) ?_;conv=>arg 3;whnf
   refine Zg (ZB rfl hx16) ?_;conv=>arg 3;whnf
   refine Zg (Za3 rfl hx16) ?_;conv=>arg 3;whnf
   refine Zg (ZB rfl hx16) ?_;conv=>arg 3;whnf
   refine Zk (ZaB Zb s15.2 s15.1.toNat x17) ?_;conv=>arg 3;whnf
   refine Zl rfl rfl fun x19 hx19=>?_;conv=>arg 3;whnf
   refine Zg (ZB rfl hx19) ?_;conv=>arg 3;whnf
   refine Zk (ZaB Zb (List.set s15.2 s15.1.toNat x17) (w64 (s15.1-1)).toNat x16) ?_;conv=>arg 3;whnf
   exact Zf (ih _)
  ·exact Zc rfl
 ·exact Zc rfl
def Zbb (t0:Bool) (t1:Bool) (t2:Bool) (t3:Bool) (b:Int) (c:Int) (m1_0:Int) (m1_1:Int) (m1_2:(List ZU)) (m1_3:(List Zn)) (m1_4:(List Zj)) (m1_5:(List Zs)):((List Int)⊕((List Int)⊕(List Int)))→Ex×List V×Zp
  | (.inl r)=>(.ret,[(.d (D.bool true))],[(.arr 1 (List.map Zb r)),(.cells [(.d (Zb m1_0)),(.d (Zb m1_1)),(.d (D.list t0 (List.map Z5 m1_2))),(.d (D.list t1 (List.map Zx m1_3))),(.d (D.list t2 (List.map Zr m1_4))),(.d (D.list t3 (List.map Zy m1_5)))])])
  | (.inr (.inl r))=>(.ret,[(.d (D.bool false))],[(.arr 1 (List.map Zb r)),(.cells [(.d (Zb m1_0)),(.d (Zb m1_1)),(.d (D.list t0 (List.map Z5 m1_2))),(.d (D.list t1 (List.map Zx m1_3))),(.d (D.list t2 (List.map Zr m1_4))),(.d (D.list t3 (List.map Zy m1_5)))])])
  | (.inr (.inr r))=>(.exit 0,[.bad],[(.arr 1 (List.map Zb r)),(.cells [(.d (Zb m1_0)),(.d (Zb m1_1)),(.d (D.list t0 (List.map Z5 m1_2))),(.d (D.list t1 (List.map Zx m1_3))),(.d (D.list t2 (List.map Zr m1_4))),(.d (D.list t3 (List.map Zy m1_5)))])])
theorem ZcM {t0:Bool}{t1:Bool}{t2:Bool}{t3:Bool}{b:Int}{c:Int}{m1_0:Int}{m1_1:Int}{m1_2:(List ZU)}{m1_3:(List Zn)}{m1_4:(List Zj)}{m1_5:(List Zs)}:∀(s0:Int×Int×(List Int)) (r:((List Int)⊕((List Int)⊕(List Int)))),lp (ZW b c (fun z0 z1=>Zv z0 z1 m1_4)) s0=some r→lpW ctx 2 [0,1,2,3,9,10] [8] Zyi [(.sl 0 1),(.d (Zb b)),(.d (Zb c)),(.fn 106 [(.ptr 1 0)]),(.d (Zb s0.1)),(.d (Zb s0.2.1))] [(.arr 1 (List.map Zb s0.2.2)),(.cells [(.d (Zb m1_0)),(.d (Zb m1_1)),(.d (D.list t0 (List.map Z5 m1_2))),(.d (D.list t1 (List.map Zx m1_3))),(.d (D.list t2 (List.map Zr m1_4))),(.d (D.list t3 (List.map Zy m1_5)))])]=some ((Zbb t0 t1 t2 t3 b c m1_0 m1_1 m1_2 m1_3 m1_4 m1_5) r):=by
 refine Z2 (Zbb t0 t1 t2 t3 b c m1_0 m1_1 m1_2 m1_3 m1_4 m1_5) ?_
 intro s0 rcl ih
 show ZH _ _ (lpW _ _ _ _ _ _ _)
 unfold ZW
 rw[Z3]
 conv=>arg 3;whnf
 refine Zd rfl ?_ ?_<;>conv=>arg 3;whnf
 ·refine Ze _ (ZcH _) fun r5 hr5=>?_;conv=>arg 3;whnf
  refine Zd rfl ?_ ?_<;>conv=>arg 3;whnf
  ·exact Zc rfl
  ·refine Zd rfl ?_ ?_<;>conv=>arg 3;whnf
   ·exact Zc rfl
   ·refine Zl rfl rfl fun x6 hx6=>?_;conv=>arg 3;whnf
    refine Zg (ZB rfl hx6) ?_;conv=>arg 3;whnf
    refine Zl rfl rfl fun x7 hx7=>?_;conv=>arg 3;whnf
    refine Zg (ZB rfl hx7) ?_;conv=>arg 3;whnf
    refine Zg (Za3 rfl hx7) ?_;conv=>arg 3;whnf
    refine Zg (ZB rfl hx7) ?_;conv=>arg 3;whnf
    refine Zk (ZaB Zb s0.2.2 r5.toNat x6) ?_;conv=>arg 3;whnf
    refine Zl rfl rfl fun x8 hx8=>?_;conv=>arg 3;whnf
    refine Zg (ZB rfl hx8) ?_;conv=>arg 3;whnf
    refine Zk (ZaB Zb (List.set s0.2.2 r5.toNat x6) (w64 (r5-1)).toNat x7) ?_;conv=>arg 3;whnf
    refine Zd rfl ?_ ?_<;>conv=>arg 3;whnf
    ·refine Ze _ (ZcG _) fun r14 hr14=>?_;conv=>arg 3;whnf
     refine Zd rfl ?_ ?_<;>conv=>arg 3;whnf
     ·refine Ze _ (Za7 _) fun r20 hr20=>?_;conv=>arg 3;whnf
      exact Zf (ih _)
     ·exact Zf (ih _)
    ·refine Zd rfl ?_ ?_<;>conv=>arg 3;whnf
     ·refine Ze _ (Za7 _) fun r26 hr26=>?_;conv=>arg 3;whnf
      exact Zf (ih _)
     ·exact Zf (ih _)
 ·exact Zc rfl
theorem Zbg {t0:Bool}{t1:Bool}{t2:Bool}{t3:Bool}{b:Int}{c:Int}{m0_0:(List Int)}{m1_0:Int}{m1_1:Int}{m1_2:(List ZU)}{m1_3:(List Zn)}{m1_4:(List Zj)}{m1_5:(List Zs)}:∀r,(ZT b c (fun z0 z1=>Zv z0 z1 m1_4) m0_0)=some r→evW ctx 125 [(.sl 0 1),(.d (Zb b)),(.d (Zb c)),(.fn 106 [(.ptr 1 0)])] [(.arr 1 (List.map Zb m0_0)),(.cells [(.d (Zb m1_0)),(.d (Zb m1_1)),(.d (D.list t0 (List.map Z5 m1_2))),(.d (D.list t1 (List.map Zx m1_3))),(.d (D.list t2 (List.map Zr m1_4))),(.d (D.list t3 (List.map Zy m1_5)))])]=some ((Zbh t0 t1 t2 t3 b c m0_0 m1_0 m1_1 m1_2 m1_3 m1_4 m1_5) r):=by
 show ZH _ (fun r rhs=>rhs=some ((Zbh t0 t1 t2 t3 b c m0_0 m1_0 m1_1 m1_2 m1_3 m1_4 m1_5) r)) _
 unfold ZT
 rw[Zgp ctx 125 ZAw _ _ rfl rfl]
 conv=>arg 3;whnf
 refine Ze _ (ZcM _) fun r27 hr27=>?_
 clear hr27
 rcases r27 with r27 | (r27 | r27)
 ·conv=>arg 3;whnf
  exact Zc rfl
 ·conv=>arg 3;whnf
  exact Zc rfl
 ·conv=>arg 3;whnf
  exact Zc rfl
def Zce (t0:Bool) (t1:Bool) (t2:Bool) (t3:Bool) (b:Int) (c:Int) (d:Int) (m0_0:(List Int)) (m1_0:Int) (m1_1:Int) (m1_2:(List ZU)) (m1_3:(List Zn)) (m1_4:(List Zj)) (m1_5:(List Zs)):((Int×(List Int))⊕(Int×(List Int)))→V×Zp
  | (.inl r)=>((.d (D.tup [(Zb r.1),(D.bool true)])),[(.arr 1 (List.map Zb r.2)),(.cells [(.d (Zb m1_0)),(.d (Zb m1_1)),(.d (D.list t0 (List.map Z5 m1_2))),(.d (D.list t1 (List.map Zx m1_3))),(.d (D.list t2 (List.map Zr m1_4))),(.d (D.list t3 (List.map Zy m1_5)))])])
  | (.inr r)=>((.d (D.tup [(Zb r.1),(D.bool false)])),[(.arr 1 (List.map Zb r.2)),(.cells [(.d (Zb m1_0)),(.d (Zb m1_1)),(.d (D.list t0 (List.map Z5 m1_2))),(.d (D.list t1 (List.map Zx m1_3))),(.d (D.list t2 (List.map Zr m1_4))),(.d (D.list t3 (List.map Zy m1_5)))])])
def ZbR (t0:Bool) (t1:Bool) (t2:Bool) (t3:Bool) (b:Int) (c:Int) (d:Int) (m0_0:(List Int)) (m1_0:Int) (m1_1:Int) (m1_2:(List ZU)) (m1_3:(List Zn)) (m1_4:(List Zj)) (m1_5:(List Zs)) (x0:Int) (x1:Int):Int→Ex×List V×Zp
  | r=>(.exit 0,[(.sl 0 1),(.d (Zb b)),(.fn 106 [(.ptr 1 0)]),(.d (Zb r)),(.d (Zb (w64 (c-1))))],[(.arr 1 (List.map Zb (List.set (List.set m0_0 b.toNat x0) d.toNat x1))),(.cells [(.d (Zb m1_0)),(.d (Zb m1_1)),(.d (D.list t0 (List.map Z5 m1_2))),(.d (D.list t1 (List.map Zx m1_3))),(.d (D.list t2 (List.map Zr m1_4))),(.d (D.list t3 (List.map Zy m1_5)))])])
theorem Zeb {t0:Bool}{t1:Bool}{t2:Bool}{t3:Bool}{b:Int}{c:Int}{d:Int}{m0_0:(List Int)}{m1_0:Int}{m1_1:Int}{m1_2:(List ZU)}{m1_3:(List Zn)}{m1_4:(List Zj)}{m1_5:(List Zs)}{x0:Int}{x1:Int}:∀(s3:Int) (r:Int),lp (ZaH b c d m0_0 (fun z0 z1=>Zv z0 z1 m1_4) x0 x1) s3=some r→lpW ctx 2 [0,1,4,12,13] [0,1,4,12,13] ZxZ [(.sl 0 1),(.d (Zb b)),(.fn 106 [(.ptr 1 0)]),(.d (Zb s3)),(.d (Zb (w64 (c-1))))] [(.arr 1 (List.map Zb (List.set (List.set m0_0 b.toNat x0) d.toNat x1))),(.cells [(.d (Zb m1_0)),(.d (Zb m1_1)),(.d (D.list t0 (List.map Z5 m1_2))),(.d (D.list t1 (List.map Zx m1_3))),(.d (D.list t2 (List.map Zr m1_4))),(.d (D.list t3 (List.map Zy m1_5)))])]=some ((ZbR t0 t1 t2 t3 b c d m0_0 m1_0 m1_1 m1_2 m1_3 m1_4 m1_5 x0 x1) r):=by
 refine Z2 (ZbR t0 t1 t2 t3 b c d m0_0 m1_0 m1_1 m1_2 m1_3 m1_4 m1_5 x0 x1) ?_
 intro s3 rcl ih
 show ZH _ _ (lpW _ _ _ _ _ _ _)
 unfold ZaH
 rw[Z3]
 conv=>arg 3;whnf
 refine Zd rfl ?_ ?_<;>conv=>arg 3;whnf
 ·refine Zl rfl rfl fun x4 hx4=>?_;conv=>arg 3;whnf
  refine Zg (ZB rfl hx4) ?_;conv=>arg 3;whnf
  refine Zl rfl rfl fun x5 hx5=>?_;conv=>arg 3;whnf
  refine Zg (ZB rfl hx5) ?_;conv=>arg 3;whnf
  refine Zm _ ZJ rfl fun x6 hx6=>?_;conv=>arg 3;whnf
  refine Zd rfl ?_ ?_<;>conv=>arg 3;whnf
  ·exact Zf (ih _)
  ·exact Zc rfl
 ·exact Zc rfl
def ZbN (t0:Bool) (t1:Bool) (t2:Bool) (t3:Bool) (b:Int) (d:Int) (m0_0:(List Int)) (m1_0:Int) (m1_1:Int) (m1_2:(List ZU)) (m1_3:(List Zn)) (m1_4:(List Zj)) (m1_5:(List Zs)) (x0:Int) (x1:Int) (r7:Int):Int→Ex×List V×Zp
  | r=>(.exit 2,[(.sl 0 1),(.d (Zb b)),(.fn 106 [(.ptr 1 0)]),(.d (Zb r7)),(.d (Zb r))],[(.arr 1 (List.map Zb (List.set (List.set m0_0 b.toNat x0) d.toNat x1))),(.cells [(.d (Zb m1_0)),(.d (Zb m1_1)),(.d (D.list t0 (List.map Z5 m1_2))),(.d (D.list t1 (List.map Zx m1_3))),(.d (D.list t2 (List.map Zr m1_4))),(.d (D.list t3 (List.map Zy m1_5)))])])
theorem Zd7 {t0:Bool}{t1:Bool}{t2:Bool}{t3:Bool}{b:Int}{d:Int}{m0_0:(List Int)}{m1_0:Int}{m1_1:Int}{m1_2:(List ZU)}{m1_3:(List Zn)}{m1_4:(List Zj)}{m1_5:(List Zs)}{x0:Int}{x1:Int}{r7:Int}:∀(s8:Int) (r:Int),lp (ZaG b d m0_0 (fun z0 z1=>Zv z0 z1 m1_4) x0 x1 r7) s8=some r→lpW ctx 2 [0,1,4,12,13] [0,1,4,12,13] Zxz [(.sl 0 1),(.d (Zb b)),(.fn 106 [(.ptr 1 0)]),(.d (Zb r7)),(.d (Zb s8))] [(.arr 1 (List.map Zb (List.set (List.set m0_0 b.toNat x0) d.toNat x1))),(.cells [(.d (Zb m1_0)),(.d (Zb m1_1)),(.d (D.list t0 (List.map Z5 m1_2))),(.d (D.list t1 (List.map Zx m1_3))),(.d (D.list t2 (List.map Zr m1_4))),(.d (D.list t3 (List.map Zy m1_5)))])]=some ((ZbN t0 t1 t2 t3 b d m0_0 m1_0 m1_1 m1_2 m1_3 m1_4 m1_5 x0 x1 r7) r):=by
 refine Z2 (ZbN t0 t1 t2 t3 b d m0_0 m1_0 m1_1 m1_2 m1_3 m1_4 m1_5 x0 x1 r7) ?_
 intro s8 rcl ih
 show ZH _ _ (lpW _ _ _ _ _ _ _)
 unfold ZaG
 rw[Z3]
 conv=>arg 3;whnf
 refine Zd rfl ?_ ?_<;>conv=>arg 3;whnf
 ·refine Zl rfl rfl fun x9 hx9=>?_;conv=>arg 3;whnf
  refine Zg (ZB rfl hx9) ?_;conv=>arg 3;whnf
  refine Zl rfl rfl fun x10 hx10=>?_;conv=>arg 3;whnf
  refine Zg (ZB rfl hx10) ?_;conv=>arg 3;whnf
  refine Zm _ ZJ rfl fun x11 hx11=>?_;conv=>arg 3;whnf
  refine Zd rfl ?_ ?_<;>conv=>arg 3;whnf
  ·exact Zc rfl
  ·exact Zf (ih _)
 ·exact Zc rfl
def ZbK (t0:Bool) (t1:Bool) (t2:Bool) (t3:Bool) (b:Int) (m1_0:Int) (m1_1:Int) (m1_2:(List ZU)) (m1_3:(List Zn)) (m1_4:(List Zj)) (m1_5:(List Zs)) (s19:Int×Int×(List Int)):Int→Ex×List V×Zp
  | r=>(.exit 6,[(.sl 0 1),(.d (Zb b)),(.fn 106 [(.ptr 1 0)]),(.d (Zb r)),(.d (Zb s19.2.1))],[(.arr 1 (List.map Zb s19.2.2)),(.cells [(.d (Zb m1_0)),(.d (Zb m1_1)),(.d (D.list t0 (List.map Z5 m1_2))),(.d (D.list t1 (List.map Zx m1_3))),(.d (D.list t2 (List.map Zr m1_4))),(.d (D.list t3 (List.map Zy m1_5)))])])
theorem Zei {t0:Bool}{t1:Bool}{t2:Bool}{t3:Bool}{b:Int}{m1_0:Int}{m1_1:Int}{m1_2:(List ZU)}{m1_3:(List Zn)}{m1_4:(List Zj)}{m1_5:(List Zs)}{s19:Int×Int×(List Int)}:∀(s20:Int) (r:Int),lp (ZaI b (fun z0 z1=>Zv z0 z1 m1_4) s19) s20=some r→lpW ctx 2 [0,1,4,12,13] [0,1,4,12,13] Zxl [(.sl 0 1),(.d (Zb b)),(.fn 106 [(.ptr 1 0)]),(.d (Zb s20)),(.d (Zb s19.2.1))] [(.arr 1 (List.map Zb s19.2.2)),(.cells [(.d (Zb m1_0)),(.d (Zb m1_1)),(.d (D.list t0 (List.map Z5 m1_2))),(.d (D.list t1 (List.map Zx m1_3))),(.d (D.list t2 (List.map Zr m1_4))),(.d (D.list t3 (List.map Zy m1_5)))])]=some ((ZbK t0 t1 t2 t3 b m1_0 m1_1 m1_2 m1_3 m1_4 m1_5 s19) r):=by
 refine Z2 (ZbK t0 t1 t2 t3 b m1_0 m1_1 m1_2 m1_3 m1_4 m1_5 s19) ?_
 intro s20 rcl ih
 show ZH _ _ (lpW _ _ _ _ _ _ _)
 unfold ZaI
 rw[Z3]
 conv=>arg 3;whnf
 refine Zd rfl ?_ ?_<;>conv=>arg 3;whnf
 ·refine Zl rfl rfl fun x21 hx21=>?_;conv=>arg 3;whnf
  refine Zg (ZB rfl hx21) ?_;conv=>arg 3;whnf
  refine Zl rfl rfl fun x22 hx22=>?_;conv=>arg 3;whnf
  refine Zg (ZB rfl hx22) ?_;conv=>arg 3;whnf
  refine Zm _ ZJ rfl fun x23 hx23=>?_;conv=>arg 3;whnf
  refine Zd rfl ?_ ?_<;>conv=>arg 3;whnf
  ·exact Zf (ih _)
  ·exact Zc rfl
 ·exact Zc rfl
def ZbP (t0:Bool) (t1:Bool) (t2:Bool) (t3:Bool) (b:Int) (m1_0:Int) (m1_1:Int) (m1_2:(List ZU)) (m1_3:(List Zn)) (m1_4:(List Zj)) (m1_5:(List Zs)) (s19:Int×Int×(List Int)) (r24:Int):Int→Ex×List V×Zp
  | r=>(.exit 8,[(.sl 0 1),(.d (Zb b)),(.fn 106 [(.ptr 1 0)]),(.d (Zb r24)),(.d (Zb r))],[(.arr 1 (List.map Zb s19.2.2)),(.cells [(.d (Zb m1_0)),(.d (Zb m1_1)),(.d (D.list t0 (List.map Z5 m1_2))),(.d (D.list t1 (List.map Zx m1_3))),(.d (D.list t2 (List.map Zr m1_4))),(.d (D.list t3 (List.map Zy m1_5)))])])
theorem ZdZ {t0:Bool}{t1:Bool}{t2:Bool}{t3:Bool}{b:Int}{m1_0:Int}{m1_1:Int}{m1_2:(List ZU)}{m1_3:(List Zn)}{m1_4:(List Zj)}{m1_5:(List Zs)}{s19:Int×Int×(List Int)}{r24:Int}:∀(s25:Int) (r:Int),lp (ZaE b (fun z0 z1=>Zv z0 z1 m1_4) s19 r24) s25=some r→lpW ctx 2 [0,1,4,12,13] [0,1,4,12,13] Zxs [(.sl 0 1),(.d (Zb b)),(.fn 106 [(.ptr 1 0)]),(.d (Zb r24)),(.d (Zb s25))] [(.arr 1 (List.map Zb s19.2.2)),(.cells [(.d (Zb m1_0)),(.d (Zb m1_1)),(.d (D.list t0 (List.map Z5 m1_2))),(.d (D.list t1 (List.map Zx m1_3))),(.d (D.list t2 (List.map Zr m1_4))),(.d (D.list t3 (List.map Zy m1_5)))])]=some ((ZbP t0 t1 t2 t3 b m1_0 m1_1 m1_2 m1_3 m1_4 m1_5 s19 r24) r):=by
 refine Z2 (ZbP t0 t1 t2 t3 b m1_0 m1_1 m1_2 m1_3 m1_4 m1_5 s19 r24) ?_
 intro s25 rcl ih
 show ZH _ _ (lpW _ _ _ _ _ _ _)
 unfold ZaE
 rw[Z3]
 conv=>arg 3;whnf
 refine Zd rfl ?_ ?_<;>conv=>arg 3;whnf
 ·refine Zl rfl rfl fun x26 hx26=>?_;conv=>arg 3;whnf
  refine Zg (ZB rfl hx26) ?_;conv=>arg 3;whnf
  refine Zl rfl rfl fun x27 hx27=>?_;conv=>arg 3;whnf
  refine Zg (ZB rfl hx27) ?_;conv=>arg 3;whnf
  refine Zm _ ZJ rfl fun x28 hx28=>?_;conv=>arg 3;whnf
  refine Zd rfl ?_ ?_<;>conv=>arg 3;whnf
  ·exact Zc rfl
  ·exact Zf (ih _)
 ·exact Zc rfl
def ZbM (t0:Bool) (t1:Bool) (t2:Bool) (t3:Bool) (b:Int) (m1_0:Int) (m1_1:Int) (m1_2:(List ZU)) (m1_3:(List Zn)) (m1_4:(List Zj)) (m1_5:(List Zs)):(Int×(List Int))→Ex×List V×Zp
  | r=>(.exit 4,[(.sl 0 1),(.d (Zb b)),(.d (Zb r.1))],[(.arr 1 (List.map Zb r.2)),(.cells [(.d (Zb m1_0)),(.d (Zb m1_1)),(.d (D.list t0 (List.map Z5 m1_2))),(.d (D.list t1 (List.map Zx m1_3))),(.d (D.list t2 (List.map Zr m1_4))),(.d (D.list t3 (List.map Zy m1_5)))])])
theorem Zeg {t0:Bool}{t1:Bool}{t2:Bool}{t3:Bool}{b:Int}{m1_0:Int}{m1_1:Int}{m1_2:(List ZU)}{m1_3:(List Zn)}{m1_4:(List Zj)}{m1_5:(List Zs)}:∀(s19:Int×Int×(List Int)) (r:(Int×(List Int))),lp (Za8 b (fun z0 z1=>Zv z0 z1 m1_4)) s19=some r→lpW ctx 2 [0,1,4,12,13] [0,1,13] ZxP [(.sl 0 1),(.d (Zb b)),(.fn 106 [(.ptr 1 0)]),(.d (Zb s19.1)),(.d (Zb s19.2.1))] [(.arr 1 (List.map Zb s19.2.2)),(.cells [(.d (Zb m1_0)),(.d (Zb m1_1)),(.d (D.list t0 (List.map Z5 m1_2))),(.d (D.list t1 (List.map Zx m1_3))),(.d (D.list t2 (List.map Zr m1_4))),(.d (D.list t3 (List.map Zy m1_5)))])]=some ((ZbM t0 t1 t2 t3 b m1_0 m1_1 m1_2 m1_3 m1_4 m1_5) r):=by
 refine Z2 (ZbM t0 t1 t2 t3 b m1_0 m1_1 m1_2 m1_3 m1_4 m1_5) ?_
 intro s19 rcl ih
 show ZH _ _ (lpW _ _ _ _ _ _ _)
 unfold Za8
 rw[Z3]
 conv=>arg 3;whnf
 refine Ze _ (Zei _) fun r24 hr24=>?_;conv=>arg 3;whnf
 refine Ze _ (ZdZ _) fun r29 hr29=>?_;conv=>arg 3;whnf
 refine Zd rfl ?_ ?_<;>conv=>arg 3;whnf
 ·exact Zc rfl
 ·refine Zl rfl rfl fun x30 hx30=>?_;conv=>arg 3;whnf
  refine Zg (ZB rfl hx30) ?_;conv=>arg 3;whnf
  refine Zl rfl rfl fun x31 hx31=>?_;conv=>arg 3;whnf
  refine Zg (ZB rfl hx31) ?_;conv=>arg 3;whnf
  refine Zg (Za3 rfl hx31) ?_;conv=>arg 3;whnf
  refine Zg (ZB rfl hx31) ?_;conv=>arg 3;whnf
  refine Zk (ZaB Zb s19.2.2 r24.toNat x30) ?_;conv=>arg 3;whnf
  refine Zl rfl rfl fun x32 hx32=>?_;conv=>arg 3;whnf
  refine Zg (ZB rfl hx32) ?_;conv=>arg 3;whnf
  refine Zk (ZaB Zb (List.set s19.2.2 r24.toNat x30) r29.toNat x31) ?_;conv=>arg 3;whnf
  exact Zf (ih _)
theorem Zo {t0:Bool}{t1:Bool}{t2:Bool}{t3:Bool}{b:Int}{c:Int}{d:Int}{m0_0:(List Int)}{m1_0:Int}{m1_1:Int}{m1_2:(List ZU)}{m1_3:(List Zn)}{m1_4:(List Zj)}{m1_5:(List Zs)}:∀r,(Zt b c d (fun z0 z1=>Zv z0 z1 m1_4) m0_0)=some r→evW ctx 127 [(.sl 0 1),(.d (Zb b)),(.d (Zb c)),(.d (Zb d)),(.fn 106 [(.ptr 1 0)])] [(.arr 1 (List.map Zb m0_0)),(.cells [(.d (Zb m1_0)),(.d (Zb m1_1)),(.d (D.list t0 (List.map Z5 m1_2))),(.d (D.list t1 (List.map Zx m1_3))),(.d (D.list t2 (List.map Zr m1_4))),(.d (D.list t3 (List.map Zy m1_5)))])]=some ((Zce t0 t1 t2 t3 b c d m0_0 m1_0 m1_1 m1_2 m1_3 m1_4 m1_5) r):=by
 show ZH _ (fun r rhs=>rhs=some ((Zce t0 t1 t2 t3 b c d m0_0 m1_0 m1_1 m1_2 m1_3 m1_4 m1_5) r)) _
 unfold Zt
 rw[Zgp ctx 127 ZA3 _ _ rfl rfl]
 conv=>arg 3;whnf
 refine Zl rfl rfl fun x0 hx0=>?_;conv=>arg 3;whnf
 refine Zg (ZB rfl hx0) ?_;conv=>arg 3;whnf
 refine Zl rfl rfl fun x1 hx1=>?_;conv=>arg 3;whnf
 refine Zg (ZB rfl hx1) ?_;conv=>arg 3;whnf
 refine Zg (Za3 rfl hx1) ?_;conv=>arg 3;whnf
 refine Zg (ZB rfl hx1) ?_;conv=>arg 3;whnf
 refine Zk (ZaB Zb m0_0 b.toNat x0) ?_;conv=>arg 3;whnf
 refine Zl rfl rfl fun x2 hx2=>?_;conv=>arg 3;whnf
 refine Zg (ZB rfl hx2) ?_;conv=>arg 3;whnf
 refine Zk (ZaB Zb (List.set m0_0 b.toNat x0) d.toNat x1) ?_;conv=>arg 3;whnf
 refine Ze _ (Zeb _) fun r7 hr7=>?_;conv=>arg 3;whnf
 refine Ze _ (Zd7 _) fun r12 hr12=>?_;conv=>arg 3;whnf
 refine Zd rfl ?_ ?_<;>conv=>arg 3;whnf
 ·refine Zl rfl rfl fun x13 hx13=>?_;conv=>arg 3;whnf
  refine Zg (ZB rfl hx13) ?_;conv=>arg 3;whnf
  refine Zl rfl rfl fun x14 hx14=>?_;conv=>arg 3;whnf
  refine Zg (ZB rfl hx14) ?_;conv=>arg 3;whnf
  refine Zg (Za3 rfl hx14) ?_;conv=>arg 3;whnf
  refine Zg (ZB rfl hx14) ?_;conv=>arg 3;whnf
  refine Zk (ZaB Zb (List.set (List.set m0_0 b.toNat x0) d.toNat x1) r12.toNat x13) ?_;conv=>arg 3;whnf
  refine Zl rfl rfl fun x15 hx15=>?_;conv=>arg 3;whnf
  refine Zg (ZB rfl hx15) ?_;conv=>arg 3;whnf
  refine Zk (ZaB Zb (List.set (List.set (List.set m0_0 b.toNat x0) d.toNat x1) r12.toNat x13) b.toNat x14) ?_;conv=>arg 3;whnf
  exact Zc rfl
 ·refine Zl rfl rfl fun x16 hx16=>?_;conv=>arg 3;whnf
  refine Zg (ZB rfl hx16) ?_;conv=>arg 3;whnf
  refine Zl rfl rfl fun x17 hx17=>?_;conv=>arg 3;whnf
  refine Zg (ZB rfl hx17) ?_;conv=>arg 3;whnf
  refine Zg (Za3 rfl hx17) ?_;conv=>arg 3;whnf
  refine Zg (ZB rfl hx17) ?_;conv=>arg 3;whnf
  refine Zk (ZaB Zb (List.set (List.set m0_0 b.toNat x0) d.toNat x1) r7.toNat x16) ?_;conv=>arg 3;whnf
  refine Zl rfl rfl fun x18 hx18=>?_;conv=>arg 3;whnf
  refine Zg (ZB rfl hx18) ?_;conv=>arg 3;whnf
  refine Zk (ZaB Zb (List.set (List.set (List.set m0_0 b.toNat x0) d.toNat x1) r7.toNat x16) r12.toNat x17) ?_;conv=>arg 3;whnf
  refine Ze _ (Zeg _) fun r33 hr33=>?_;conv=>arg 3;whnf
  refine Zl rfl rfl fun x34 hx34=>?_;conv=>arg 3;whnf
  refine Zg (ZB rfl hx34) ?_;conv=>arg 3;whnf
  refine Zl rfl rfl fun x35 hx35=>?_;conv=>arg 3;whnf
  refine Zg (ZB rfl hx35) ?_;conv=>arg 3;whnf
  refine Zg (Za3 rfl hx35) ?_;conv=>arg 3;whnf
  refine Zg (ZB rfl hx35) ?_;conv=>arg 3;whnf
  refine Zk (ZaB Zb r33.2 r33.1.toNat x34) ?_;conv=>arg 3;whnf
  refine Zl rfl rfl fun x36 hx36=>?_;conv=>arg 3;whnf
  refine Zg (ZB rfl hx36) ?_;conv=>arg 3;whnf
  refine Zk (ZaB Zb (List.set r33.2 r33.1.toNat x34) b.toNat x35) ?_;conv=>arg 3;whnf
  exact Zc rfl
def ZbD (t0:Bool) (t1:Bool) (t2:Bool) (t3:Bool) (b:Int) (c:Int) (d:Int) (m0_0:(List Int)) (m1_0:Int) (m1_1:Int) (m1_2:(List ZU)) (m1_3:(List Zn)) (m1_4:(List Zj)) (m1_5:(List Zs)):(Int×(List Int))→V×Zp
  | r=>((.d (Zb r.1)),[(.arr 1 (List.map Zb r.2)),(.cells [(.d (Zb m1_0)),(.d (Zb m1_1)),(.d (D.list t0 (List.map Z5 m1_2))),(.d (D.list t1 (List.map Zx m1_3))),(.d (D.list t2 (List.map Zr m1_4))),(.d (D.list t3 (List.map Zy m1_5)))])])
def Zbm (t0:Bool) (t1:Bool) (t2:Bool) (t3:Bool) (b:Int) (m1_0:Int) (m1_1:Int) (m1_2:(List ZU)) (m1_3:(List Zn)) (m1_4:(List Zj)) (m1_5:(List Zs)) (s3:Int×Int×(List Int)):Int→Ex×List V×Zp
  | r=>(.exit 2,[(.sl 0 1),(.d (Zb b)),(.fn 106 [(.ptr 1 0)]),(.d (Zb r)),(.d (Zb s3.2.1))],[(.arr 1 (List.map Zb s3.2.2)),(.cells [(.d (Zb m1_0)),(.d (Zb m1_1)),(.d (D.list t0 (List.map Z5 m1_2))),(.d (D.list t1 (List.map Zx m1_3))),(.d (D.list t2 (List.map Zr m1_4))),(.d (D.list t3 (List.map Zy m1_5)))])])
theorem Zdl {t0:Bool}{t1:Bool}{t2:Bool}{t3:Bool}{b:Int}{m1_0:Int}{m1_1:Int}{m1_2:(List ZU)}{m1_3:(List Zn)}{m1_4:(List Zj)}{m1_5:(List Zs)}{s3:Int×Int×(List Int)}:∀(s4:Int) (r:Int),lp (Zam b (fun z0 z1=>Zv z0 z1 m1_4) s3) s4=some r→lpW ctx 2 [0,1,4,11,12] [0,1,4,11,12] Zxu [(.sl 0 1),(.d (Zb b)),(.fn 106 [(.ptr 1 0)]),(.d (Zb s4)),(.d (Zb s3.2.1))] [(.arr 1 (List.map Zb s3.2.2)),(.cells [(.d (Zb m1_0)),(.d (Zb m1_1)),(.d (D.list t0 (List.map Z5 m1_2))),(.d (D.list t1 (List.map Zx m1_3))),(.d (D.list t2 (List.map Zr m1_4))),(.d (D.list t3 (List.map Zy m1_5)))])]=some ((Zbm t0 t1 t2 t3 b m1_0 m1_1 m1_2 m1_3 m1_4 m1_5 s3) r):=by
 refine Z2 (Zbm t0 t1 t2 t3 b m1_0 m1_1 m1_2 m1_3 m1_4 m1_5 s3) ?_
 intro s4 rcl ih
 show ZH _ _ (lpW _ _ _ _ _ _ _)
 unfold Zam
 rw[Z3]
 conv=>arg 3;whnf
 refine Zd rfl ?_ ?_<;>conv=>arg 3;whnf
 ·refine Zl rfl rfl fun x5 hx5=>?_;conv=>arg 3;whnf
  refine Zg (ZB rfl hx5) ?_;conv=>arg 3;whnf
  refine Zl rfl rfl fun x6 hx6=>?_;conv=>arg 3;whnf
  refine Zg (ZB rfl hx6) ?_;conv=>arg 3;whnf
  refine Zm _ ZJ rfl fun x7 hx7=>?_;conv=>arg 3;whnf
  refine Zd rfl ?_ ?_<;>conv=>arg 3;whnf
  ·exact Zc rfl
  ·exact Zf (ih _)
 ·exact Zc rfl
def Zbn (t0:Bool) (t1:Bool) (t2:Bool) (t3:Bool) (b:Int) (m1_0:Int) (m1_1:Int) (m1_2:(List ZU)) (m1_3:(List Zn)) (m1_4:(List Zj)) (m1_5:(List Zs)) (s3:Int×Int×(List Int)) (r8:Int):Int→Ex×List V×Zp
  | r=>(.exit 4,[(.sl 0 1),(.d (Zb b)),(.fn 106 [(.ptr 1 0)]),(.d (Zb r8)),(.d (Zb r))],[(.arr 1 (List.map Zb s3.2.2)),(.cells [(.d (Zb m1_0)),(.d (Zb m1_1)),(.d (D.list t0 (List.map Z5 m1_2))),(.d (D.list t1 (List.map Zx m1_3))),(.d (D.list t2 (List.map Zr m1_4))),(.d (D.list t3 (List.map Zy m1_5)))])])
theorem Zdo {t0:Bool}{t1:Bool}{t2:Bool}{t3:Bool}{b:Int}{m1_0:Int}{m1_1:Int}{m1_2:(List ZU)}{m1_3:(List Zn)}{m1_4:(List Zj)}{m1_5:(List Zs)}{s3:Int×Int×(List Int)}{r8:Int}:∀(s9:Int) (r:Int),lp (Zan b (fun z0 z1=>Zv z0 z1 m1_4) s3 r8) s9=some r→lpW ctx 2 [0,1,4,11,12] [0,1,4,11,12] Zxr [(.sl 0 1),(.d (Zb b)),(.fn 106 [(.ptr 1 0)]),(.d (Zb r8)),(.d (Zb s9))] [(.arr 1 (List.map Zb s3.2.2)),(.cells [(.d (Zb m1_0)),(.d (Zb m1_1)),(.d (D.list t0 (List.map Z5 m1_2))),(.d (D.list t1 (List.map Zx m1_3))),(.d (D.list t2 (List.map Zr m1_4))),(.d (D.list t3 (List.map Zy m1_5)))])]=some ((Zbn t0 t1 t2 t3 b m1_0 m1_1 m1_2 m1_3 m1_4 m1_5 s3 r8) r):=by
 refine Z2 (Zbn t0 t1 t2 t3 b m1_0 m1_1 m1_2 m1_3 m1_4 m1_5 s3 r8) ?_
 intro s9 rcl ih
 show ZH _ _ (lpW _ _ _ _ _ _ _)
 unfold Zan
 rw[Z3]
 conv=>arg 3;whnf
 refine Zd rfl ?_ ?_<;>conv=>arg 3;whnf
 ·refine Zl rfl rfl fun x10 hx10=>?_;conv=>arg 3;whnf
  refine Zg (ZB rfl hx10) ?_;conv=>arg 3;whnf
  refine Zl rfl rfl fun x11 hx11=>?_;conv=>arg 3;whnf
  refine Zg (ZB rfl hx11) ?_;conv=>arg 3;whnf
  refine Zm _ ZJ rfl fun x12 hx12=>?_;conv=>arg 3;whnf
  refine Zd rfl ?_ ?_<;>conv=>arg 3;whnf
  ·exact Zf (ih _)
  ·exact Zc rfl
 ·exact Zc rfl
def Zbl (t0:Bool) (t1:Bool) (t2:Bool) (t3:Bool) (b:Int) (m1_0:Int) (m1_1:Int) (m1_2:(List ZU)) (m1_3:(List Zn)) (m1_4:(List Zj)) (m1_5:(List Zs)):(Int×(List Int))→Ex×List V×Zp
  | r=>(.exit 0,[(.d (Zb r.1))],[(.arr 1 (List.map Zb r.2)),(.cells [(.d (Zb m1_0)),(.d (Zb m1_1)),(.d (D.list t0 (List.map Z5 m1_2))),(.d (D.list t1 (List.map Zx m1_3))),(.d (D.list t2 (List.map Zr m1_4))),(.d (D.list t3 (List.map Zy m1_5)))])])
theorem Zdm {t0:Bool}{t1:Bool}{t2:Bool}{t3:Bool}{b:Int}{m1_0:Int}{m1_1:Int}{m1_2:(List ZU)}{m1_3:(List Zn)}{m1_4:(List Zj)}{m1_5:(List Zs)}:∀(s3:Int×Int×(List Int)) (r:(Int×(List Int))),lp (ZaF b (fun z0 z1=>Zv z0 z1 m1_4)) s3=some r→lpW ctx 2 [0,1,4,11,12] [11] Zyl [(.sl 0 1),(.d (Zb b)),(.fn 106 [(.ptr 1 0)]),(.d (Zb s3.1)),(.d (Zb s3.2.1))] [(.arr 1 (List.map Zb s3.2.2)),(.cells [(.d (Zb m1_0)),(.d (Zb m1_1)),(.d (D.list t0 (List.map Z5 m1_2))),(.d (D.list t1 (List.map Zx m1_3))),(.d (D.list t2 (List.map Zr m1_4))),(.d (D.list t3 (List.map Zy m1_5)))])]=some ((Zbl t0 t1 t2 t3 b m1_0 m1_1 m1_2 m1_3 m1_4 m1_5) r):=by
 refine Z2 (Zbl t0 t1 t2 t3 b m1_0 m1_1 m1_2 m1_3 m1_4 m1_5) ?_
 intro s3 rcl ih
 show ZH _ _ (lpW _ _ _ _ _ _ _)
 unfold ZaF
 rw[Z3]
 conv=>arg 3;whnf
 refine Ze _ (Zdl _) fun r8 hr8=>?_;conv=>arg 3;whnf
 refine Ze _ (Zdo _) fun r13 hr13=>?_;conv=>arg 3;whnf
 refine Zd rfl ?_ ?_<;>conv=>arg 3;whnf
 ·exact Zc rfl
 ·refine Zl rfl rfl fun x14 hx14=>?_;conv=>arg 3;whnf
  refine Zg (ZB rfl hx14) ?_;conv=>arg 3;whnf
  refine Zl rfl rfl fun x15 hx15=>?_;conv=>arg 3;whnf
  refine Zg (ZB rfl hx15) ?_;conv=>arg 3;whnf
  refine Zg (Za3 rfl hx15) ?_;conv=>arg 3;whnf
  refine Zg (ZB rfl hx15) ?_;conv=>arg 3;whnf
  refine Zk (ZaB Zb s3.2.2 r8.toNat x14) ?_;conv=>arg 3;whnf
  refine Zl rfl rfl fun x16 hx16=>?_;conv=>arg 3;whnf
  refine Zg (ZB rfl hx16) ?_;conv=>arg 3;whnf
  refine Zk (ZaB Zb (List.set s3.2.2 r8.toNat x14) r13.toNat x15) ?_;conv=>arg 3;whnf
  exact Zf (ih _)
theorem ZE {t0:Bool}{t1:Bool}{t2:Bool}{t3:Bool}{b:Int}{c:Int}{d:Int}{m0_0:(List Int)}{m1_0:Int}{m1_1:Int}{m1_2:(List ZU)}{m1_3:(List Zn)}{m1_4:(List Zj)}{m1_5:(List Zs)}:∀r,(ZI b c d (fun z0 z1=>Zv z0 z1 m1_4) m0_0)=some r→evW ctx 126 [(.sl 0 1),(.d (Zb b)),(.d (Zb c)),(.d (Zb d)),(.fn 106 [(.ptr 1 0)])] [(.arr 1 (List.map Zb m0_0)),(.cells [(.d (Zb m1_0)),(.d (Zb m1_1)),(.d (D.list t0 (List.map Z5 m1_2))),(.d (D.list t1 (List.map Zx m1_3))),(.d (D.list t2 (List.map Zr m1_4))),(.d (D.list t3 (List.map Zy m1_5)))])]=some ((ZbD t0 t1 t2 t3 b c d m0_0 m1_0 m1_1 m1_2 m1_3 m1_4 m1_5) r):=by
 show ZH _ (fun r rhs=>rhs=some ((ZbD t0 t1 t2 t3 b c d m0_0 m1_0 m1_1 m1_2 m1_3 m1_4 m1_5) r)) _
 unfold ZI
 rw[Zgp ctx 126 ZAX _ _ rfl rfl]
 conv=>arg 3;whnf
 refine Zl rfl rfl fun x0 hx0=>?_;conv=>arg 3;whnf
 refine Zg (ZB rfl hx0) ?_;conv=>arg 3;whnf
 refine Zl rfl rfl fun x1 hx1=>?_;conv=>arg 3;whnf
 refine Zg (ZB rfl hx1) ?_;conv=>arg 3;whnf
 refine Zg (Za3 rfl hx1) ?_;conv=>arg 3;whnf
 refine Zg (ZB rfl hx1) ?_;conv=>arg 3;whnf
 refine Zk (ZaB Zb m0_0 b.toNat x0) ?_;conv=>arg 3;whnf
 refine Zl rfl rfl fun x2 hx2=>?_;conv=>arg 3;whnf
 refine Zg (ZB rfl hx2) ?_;conv=>arg 3;whnf
 refine Zk (ZaB Zb (List.set m0_0 b.toNat x0) d.toNat x1) ?_;conv=>arg 3;whnf
 refine Ze _ (Zdm _) fun r17 hr17=>?_;conv=>arg 3;whnf
 exact Zc rfl
def Zgo (r:Int):D:=(D.int .u64 r)
theorem ZiU {a:Int}:∀r,(Zcv a)=some r→evD ctx 140 [(.d (Zb a))]=some (Zgo r):=by
 show ZH _ (fun r rhs=>rhs=some (Zgo r)) _
 unfold Zcv
 rw[Z8 ctx 140 ZA6 _ rfl rfl]
 conv=>arg 3;whnf
 refine Zm _ Zjs rfl fun x0 hx0=>?_;conv=>arg 3;whnf
 refine Zd rfl ?_ ?_
 ·exact ZO
 ·conv=>arg 3;whnf
  exact Zc rfl
def Zgx (m0_0:Int):Unit→V×Zp
  | r=>((.d (D.int .u64 (IntKind.u64.wrap (BitVec.ofInt IntKind.u64.bits (IntKind.u64.wrap (BitVec.ofInt IntKind.u64.bits (IntKind.u64.wrap (BitVec.ofInt IntKind.u64.bits m0_0 ^^^ BitVec.ofInt IntKind.u64.bits (IntKind.u64.wrap (m0_0*2 ^ 13))).toNat) ^^^ BitVec.ofInt IntKind.u64.bits (Int.fdiv (IntKind.u64.wrap (BitVec.ofInt IntKind.u64.bits m0_0 ^^^ BitVec.ofInt IntKind.u64.bits (IntKind.u64.wrap (m0_0*2 ^ 13))).toNat) (2 ^ 7))).toNat) ^^^ BitVec.ofInt IntKind.u64.bits (IntKind.u64.wrap ((IntKind.u64.wrap (BitVec.ofInt IntKind.u64.bits (IntKind.u64.wrap (BitVec.ofInt IntKind.u64.bits m0_0 ^^^ BitVec.ofInt IntKind.u64.bits (IntKind.u64.wrap (m0_0*2 ^ 13))).toNat) ^^^ BitVec.ofInt IntKind.u64.bits (Int.fdiv (IntKind.u64.wrap (BitVec.ofInt IntKind.u64.bits m0_0 ^^^ BitVec.ofInt IntKind.u64.bits (IntKind.u64.wrap (m0_0*2 ^ 13))).toNat) (2 ^ 7))).toNat)*2 ^ 17))).toNat))),[(.cells [(.d (D.int .u64 (IntKind.u64.wrap (BitVec.ofInt IntKind.u64.bits (IntKind.u64.wrap (BitVec.ofInt IntKind.u64.bits (IntKind.u64.wrap (BitVec.ofInt IntKind.u64.bits m0_0 ^^^ BitVec.ofInt IntKind.u64.bits (IntKind.u64.wrap (m0_0*2 ^ 13))).toNat) ^^^ BitVec.ofInt IntKind.u64.bits (Int.fdiv (IntKind.u64.wrap (BitVec.ofInt IntKind.u64.bits m0_0 ^^^ BitVec.ofInt IntKind.u64.bits (IntKind.u64.wrap (m0_0*2 ^ 13))).toNat) (2 ^ 7))).toNat) ^^^ BitVec.ofInt IntKind.u64.bits (IntKind.u64.wrap ((IntKind.u64.wrap (BitVec.ofInt IntKind.u64.bits (IntKind.u64.wrap (BitVec.ofInt IntKind.u64.bits m0_0 ^^^ BitVec.ofInt IntKind.u64.bits (IntKind.u64.wrap (m0_0*2 ^ 13))).toNat) ^^^ BitVec.ofInt IntKind.u64.bits (Int.fdiv (IntKind.u64.wrap (BitVec.ofInt IntKind.u64.bits m0_0 ^^^ BitVec.ofInt IntKind.u64.bits (IntKind.u64.wrap (m0_0*2 ^ 13))).toNat) (2 ^ 7))).toNat)*2 ^ 17))).toNat)))])])
theorem ZjG {m0_0:Int}:∀r,ZdN=some r→evW ctx 141 [(.ptr 0 0)] [(.cells [(.d (D.int .u64 m0_0))])]=some ((Zgx m0_0) r):=by
 show ZH _ (fun r rhs=>rhs=some ((Zgx m0_0) r)) _
 unfold ZdN
 rw[Zgp ctx 141 ZAO _ _ rfl rfl]
 conv=>arg 3;whnf
 refine Zaf rfl ?_;conv=>arg 3;whnf
 refine Zaf rfl ?_;conv=>arg 3;whnf
 refine Zaf rfl ?_;conv=>arg 3;whnf
 exact Zc rfl
def ZbG (t0:Bool) (t1:Bool) (t2:Bool) (t3:Bool) (b:Int) (c:Int) (m0_0:(List Int)) (m1_0:Int) (m1_1:Int) (m1_2:(List ZU)) (m1_3:(List Zn)) (m1_4:(List Zj)) (m1_5:(List Zs)):(List Int)→V×Zp
  | r=>((.d (D.tup [])),[(.arr 1 (List.map Zb r)),(.cells [(.d (Zb m1_0)),(.d (Zb m1_1)),(.d (D.list t0 (List.map Z5 m1_2))),(.d (D.list t1 (List.map Zx m1_3))),(.d (D.list t2 (List.map Zr m1_4))),(.d (D.list t3 (List.map Zy m1_5)))])])
def Zbq (t0:Bool) (t1:Bool) (t2:Bool) (t3:Bool) (b:Int) (c:Int) (m1_0:Int) (m1_1:Int) (m1_2:(List ZU)) (m1_3:(List Zn)) (m1_4:(List Zj)) (m1_5:(List Zs)) (x0:Int):(List Int)→Ex×List V×Zp
  | r=>(.exit 0,[],[(.arr 1 (List.map Zb r)),(.cells [(.d (Zb m1_0)),(.d (Zb m1_1)),(.d (D.list t0 (List.map Z5 m1_2))),(.d (D.list t1 (List.map Zx m1_3))),(.d (D.list t2 (List.map Zr m1_4))),(.d (D.list t3 (List.map Zy m1_5)))])])
theorem Zds {t0:Bool}{t1:Bool}{t2:Bool}{t3:Bool}{b:Int}{c:Int}{m1_0:Int}{m1_1:Int}{m1_2:(List ZU)}{m1_3:(List Zn)}{m1_4:(List Zj)}{m1_5:(List Zs)}{x0:Int}:∀(s1:Int×(List Int)×Int) (r:(List Int)),lp (ZaN b c x0) s1=some r→lpW ctx 2 [0,1,8,9,10,11] [] Zyb [(.sl 0 1),(.d (Zb b)),(.d (Zb (w64 (c-b)))),(.ptr 2 0),(.d (D.int .u64 x0)),(.d (Zb s1.1))] [(.arr 1 (List.map Zb s1.2.1)),(.cells [(.d (Zb m1_0)),(.d (Zb m1_1)),(.d (D.list t0 (List.map Z5 m1_2))),(.d (D.list t1 (List.map Zx m1_3))),(.d (D.list t2 (List.map Zr m1_4))),(.d (D.list t3 (List.map Zy m1_5)))]),(.cells [(.d (D.int .u64 s1.2.2))])]=some ((Zbq t0 t1 t2 t3 b c m1_0 m1_1 m1_2 m1_3 m1_4 m1_5 x0) r):=by
 refine Z2 (Zbq t0 t1 t2 t3 b c m1_0 m1_1 m1_2 m1_3 m1_4 m1_5 x0) ?_
 intro s1 rcl ih
 show ZH _ _ (lpW _ _ _ _ _ _ _)
 unfold ZaN
 rw[Z3]
 conv=>arg 3;whnf
 refine Zaf rfl ?_;conv=>arg 3;whnf
 refine Zd rfl ?_ ?_<;>conv=>arg 3;whnf
 ·refine Ze _ ZjG fun x2 hx2=>?_;conv=>arg 3;whnf
  refine Zd rfl ?_ ?_<;>conv=>arg 3;whnf
  ·refine Zl rfl rfl fun x3 hx3=>?_;conv=>arg 3;whnf
   refine Zg (ZB rfl hx3) ?_;conv=>arg 3;whnf
   refine Zl rfl rfl fun x4 hx4=>?_;conv=>arg 3;whnf
   refine Zg (ZB rfl hx4) ?_;conv=>arg 3;whnf
   refine Zg (Za3 rfl hx4) ?_;conv=>arg 3;whnf
   refine Zg (ZB rfl hx4) ?_;conv=>arg 3;whnf
   refine Zk (ZaB Zb s1.2.1 s1.1.toNat x3) ?_;conv=>arg 3;whnf
   refine Zl rfl rfl fun x5 hx5=>?_;conv=>arg 3;whnf
   refine Zg (ZB rfl hx5) ?_;conv=>arg 3;whnf
   refine Zk (ZaB Zb (List.set s1.2.1 s1.1.toNat x3) (w64 (b+(w64 ((w64 (IntKind.u64.wrap (BitVec.ofInt IntKind.u64.bits (IntKind.u64.wrap (BitVec.ofInt IntKind.u64.bits (IntKind.u64.wrap (BitVec.ofInt IntKind.u64.bits (IntKind.u64.wrap (BitVec.ofInt IntKind.u64.bits s1.2.2 ^^^ BitVec.ofInt IntKind.u64.bits (IntKind.u64.wrap (s1.2.2*2 ^ 13))).toNat) ^^^ BitVec.ofInt IntKind.u64.bits (Int.fdiv (IntKind.u64.wrap (BitVec.ofInt IntKind.u64.bits s1.2.2 ^^^ BitVec.ofInt IntKind.u64.bits (IntKind.u64.wrap (s1.2.2*2 ^ 13))).toNat) (2 ^ 7))).toNat) ^^^ BitVec.ofInt IntKind.u64.bits (IntKind.u64.wrap ((IntKind.u64.wrap (BitVec.ofInt IntKind.u64.bits (IntKind.u64.wrap (BitVec.ofInt IntKind.u64.bits s1.2.2 ^^^ BitVec.ofInt IntKind.u64.bits (IntKind.u64.wrap (s1.2.2*2 ^ 13))).toNat) ^^^ BitVec.ofInt IntKind.u64.bits (Int.fdiv (IntKind.u64.wrap (BitVec.ofInt IntKind.u64.bits s1.2.2 ^^^ BitVec.ofInt IntKind.u64.bits (IntKind.u64.wrap (s1.2.2*2 ^ 13))).toNat) (2 ^ 7))).toNat)*2 ^ 17))).toNat) &&& BitVec.ofInt IntKind.u64.bits (IntKind.u64.wrap (x0-1))).toNat))-(w64 (c-b)))))).toNat x4) ?_;conv=>arg 3;whnf
   exact Zf (ih _)
  ·refine Zl rfl rfl fun x6 hx6=>?_;conv=>arg 3;whnf
   refine Zg (ZB rfl hx6) ?_;conv=>arg 3;whnf
   refine Zl rfl rfl fun x7 hx7=>?_;conv=>arg 3;whnf
   refine Zg (ZB rfl hx7) ?_;conv=>arg 3;whnf
   refine Zg (Za3 rfl hx7) ?_;conv=>arg 3;whnf
   refine Zg (ZB rfl hx7) ?_;conv=>arg 3;whnf
   refine Zk (ZaB Zb s1.2.1 s1.1.toNat x6) ?_;conv=>arg 3;whnf
   refine Zl rfl rfl fun x8 hx8=>?_;conv=>arg 3;whnf
   refine Zg (ZB rfl hx8) ?_;conv=>arg 3;whnf
   refine Zk (ZaB Zb (List.set s1.2.1 s1.1.toNat x6) (w64 (b+(w64 (IntKind.u64.wrap (BitVec.ofInt IntKind.u64.bits (IntKind.u64.wrap (BitVec.ofInt IntKind.u64.bits (IntKind.u64.wrap (BitVec.ofInt IntKind.u64.bits (IntKind.u64.wrap (BitVec.ofInt IntKind.u64.bits s1.2.2 ^^^ BitVec.ofInt IntKind.u64.bits (IntKind.u64.wrap (s1.2.2*2 ^ 13))).toNat) ^^^ BitVec.ofInt IntKind.u64.bits (Int.fdiv (IntKind.u64.wrap (BitVec.ofInt IntKind.u64.bits s1.2.2 ^^^ BitVec.ofInt IntKind.u64.bits (IntKind.u64.wrap (s1.2.2*2 ^ 13))).toNat) (2 ^ 7))).toNat) ^^^ BitVec.ofInt IntKind.u64.bits (IntKind.u64.wrap ((IntKind.u64.wrap (BitVec.ofInt IntKind.u64.bits (IntKind.u64.wrap (BitVec.ofInt IntKind.u64.bits s1.2.2 ^^^ BitVec.ofInt IntKind.u64.bits (IntKind.u64.wrap (s1.2.2*2 ^ 13))).toNat) ^^^ BitVec.ofInt IntKind.u64.bits (Int.fdiv (IntKind.u64.wrap (BitVec.ofInt IntKind.u64.bits s1.2.2 ^^^ BitVec.ofInt IntKind.u64.bits (IntKind.u64.wrap (s1.2.2*2 ^ 13))).toNat) (2 ^ 7))).toNat)*2 ^ 17))).toNat) &&& BitVec.ofInt IntKind.u64.bits (IntKind.u64.wrap (x0-1))).toNat)))).toNat x7) ?_;conv=>arg 3;whnf
   exact Zf (ih _)
 ·exact Zc rfl
theorem ZbE {t0:Bool}{t1:Bool}{t2:Bool}{t3:Bool}{b:Int}{c:Int}{m0_0:(List Int)}{m1_0:Int}{m1_1:Int}{m1_2:(List ZU)}{m1_3:(List Zn)}{m1_4:(List Zj)}{m1_5:(List Zs)}:∀r,(Zaj b c (fun z0 z1=>Zv z0 z1 m1_4) m0_0)=some r→evW ctx 122 [(.sl 0 1),(.d (Zb b)),(.d (Zb c)),(.fn 106 [(.ptr 1 0)])] [(.arr 1 (List.map Zb m0_0)),(.cells [(.d (Zb m1_0)),(.d (Zb m1_1)),(.d (D.list t0 (List.map Z5 m1_2))),(.d (D.list t1 (List.map Zx m1_3))),(.d (D.list t2 (List.map Zr m1_4))),(.d (D.list t3 (List.map Zy m1_5)))])]=some ((ZbG t0 t1 t2 t3 b c m0_0 m1_0 m1_1 m1_2 m1_3 m1_4 m1_5) r):=by
 show ZH _ (fun r rhs=>rhs=some ((ZbG t0 t1 t2 t3 b c m0_0 m1_0 m1_1 m1_2 m1_3 m1_4 m1_5) r)) _
 unfold Zaj
 rw[Zgp ctx 122 Zzr _ _ rfl rfl]
 conv=>arg 3;whnf
 refine Zd rfl ?_ ?_<;>conv=>arg 3;whnf
 ·refine Zm _ ZiU rfl fun x0 hx0=>?_;conv=>arg 3;whnf
  refine Zaf rfl ?_;conv=>arg 3;whnf
  refine Ze _ (Zds _) fun r9 hr9=>?_;conv=>arg 3;whnf
  exact Zc rfl
 ·exact Zc rfl
def Za (t0:Bool) (t1:Bool) (t2:Bool) (t3:Bool) (b:Int) (c:Int) (d:Int) (m0_0:(List Int)) (m1_0:Int) (m1_1:Int) (m1_2:(List ZU)) (m1_3:(List Zn)) (m1_4:(List Zj)) (m1_5:(List Zs)):(List Int)→V×Zp
  | r=>((.d (D.tup [])),[(.arr 1 (List.map Zb r)),(.cells [(.d (Zb m1_0)),(.d (Zb m1_1)),(.d (D.list t0 (List.map Z5 m1_2))),(.d (D.list t1 (List.map Zx m1_3))),(.d (D.list t2 (List.map Zr m1_4))),(.d (D.list t3 (List.map Zy m1_5)))])])
def Zb4 (t0:Bool) (t1:Bool) (t2:Bool) (t3:Bool) (m1_0:Int) (m1_1:Int) (m1_2:(List ZU)) (m1_3:(List Zn)) (m1_4:(List Zj)) (m1_5:(List Zs)) (rc:Int→Int→Int→(Int→Int→Option Int)→(List Int)→Option (List Int)):(List Int)→Ex×List V×Zp
  | r=>(.ret,[],[(.arr 1 (List.map Zb r)),(.cells [(.d (Zb m1_0)),(.d (Zb m1_1)),(.d (D.list t0 (List.map Z5 m1_2))),(.d (D.list t1 (List.map Zx m1_3))),(.d (D.list t2 (List.map Zr m1_4))),(.d (D.list t3 (List.map Zy m1_5)))])])
theorem Zey {t0:Bool}{t1:Bool}{t2:Bool}{t3:Bool}{m1_0:Int}{m1_1:Int}{m1_2:(List ZU)}{m1_3:(List Zn)}{m1_4:(List Zj)}{m1_5:(List Zs)}{rc:Int→Int→Int→(Int→Int→Option Int)→(List Int)→Option (List Int)} (hrc:∀(t0:Bool) (t1:Bool) (t2:Bool) (t3:Bool) (b:Int) (c:Int) (d:Int) (m0_0:(List Int)) (m1_0:Int) (m1_1:Int) (m1_2:(List ZU)) (m1_3:(List Zn)) (m1_4:(List Zj)) (m1_5:(List Zs)) (r:(List Int)),rc b c d (fun z0 z1=>Zv z0 z1 m1_4) m0_0=some r→evW ctx 117 [(.sl 0 1),(.d (Zb b)),(.d (Zb c)),(.d (Zb d)),(.fn 106 [(.ptr 1 0)])] [(.arr 1 (List.map Zb m0_0)),(.cells [(.d (Zb m1_0)),(.d (Zb m1_1)),(.d (D.list t0 (List.map Z5 m1_2))),(.d (D.list t1 (List.map Zx m1_3))),(.d (D.list t2 (List.map Zr m1_4))),(.d (D.list t3 (List.map Zy m1_5)))])]=some ((Za t0 t1 t2 t3 b c d m0_0 m1_0 m1_1 m1_2 m1_3 m1_4 m1_5) r)):∀(s0:Int×Int×Int×Bool×Bool×(List Int)) (r:(List Int)),lp (ZV (fun z0 z1=>Zv z0 z1 m1_4) rc) s0=some r→lpW ctx 2 [0,1,2,3,4,10,11] [] ZxU [(.sl 0 1),(.d (Zb s0.1)),(.d (Zb s0.2.1)),(.d (Zb s0.2.2.1)),(.fn 106 [(.ptr 1 0)]),(.d (D.bool s0.2.2.2.1)),(.d (D.bool s0.2.2.2.2.1))] [(.arr 1 (List.map Zb s0.2.2.2.2.2)),(.cells [(.d (Zb m1_0)),(.d (Zb m1_1)),(.d (D.list t0 (List.map Z5 m1_2))),(.d (D.list t1 (List.map Zx m1_3))),(.d (D.list t2 (List.map Zr m1_4))),(.d (D.list t3 (List.map Zy m1_5)))])]=some ((Zb4 t0 t1 t2 t3 m1_0 m1_1 m1_2 m1_3 m1_4 m1_5 rc) r):=by
 refine Z2 (Zb4 t0 t1 t2 t3 m1_0 m1_1 m1_2 m1_3 m1_4 m1_5 rc) ?_
 intro s0 rcl ih
 show ZH _ _ (lpW _ _ _ _ _ _ _)
 unfold ZV
 rw[Z3]
 rcases hb:s0.2.2.2.1 with _ | _
 ·refine Zw5 ?_
  rcases hb:s0.2.2.2.2.1 with _ | _
  ·refine Zw5 ?_;conv=>arg 3;whnf
   refine Zd rfl ?_ ?_<;>conv=>arg 3;whnf
   ·refine Ze _ Zah fun x170 hx170=>?_;conv=>arg 3;whnf
    exact Zc rfl
   ·refine Zd rfl ?_ ?_<;>conv=>arg 3;whnf
    ·refine Ze _ Zaz fun x171 hx171=>?_;conv=>arg 3;whnf
     exact Zc rfl
    ·refine Ze _ ZbE fun x172 hx172=>?_;conv=>arg 3;whnf
     refine Ze _ Zar fun x173 hx173=>?_;conv=>arg 3;whnf
     refine Zd rfl ?_ ?_<;>conv=>arg 3;whnf
     ·refine Ze _ Zao fun x174 hx174=>?_;conv=>arg 3;whnf
      refine Zd rfl ?_ ?_<;>conv=>arg 3;whnf
      ·refine Zl rfl rfl fun x175 hx175=>?_;conv=>arg 3;whnf
       refine Zg (ZB rfl hx175) ?_;conv=>arg 3;whnf
       refine Zl rfl rfl fun x176 hx176=>?_;conv=>arg 3;whnf
       refine Zg (ZB rfl hx176) ?_;conv=>arg 3;whnf
       refine Zm _ ZJ rfl fun x177 hx177=>?_;conv=>arg 3;whnf
       refine Zd rfl ?_ ?_<;>conv=>arg 3;whnf
       ·refine Ze _ Zo fun x178 hx178=>?_
        clear hx178
        rcases x178 with x178 | x178
        ·conv=>arg 3;whnf
         refine ZaU rfl ?_;conv=>arg 3;whnf
         refine Zaf rfl ?_;conv=>arg 3;whnf
         refine Zd rfl ?_ ?_<;>conv=>arg 3;whnf
         ·refine Zd rfl ?_ ?_<;>conv=>arg 3;whnf
          ·refine Ze (Za t0 t1 t2 t3 s0.1 x178.1 (w64 (s0.2.2.1-1)) x178.2 m1_0 m1_1 m1_2 m1_3 m1_4 m1_5) (hrc t0 t1 t2 t3 s0.1 x178.1 (w64 (s0.2.2.1-1)) x178.2 m1_0 m1_1 m1_2 m1_3 m1_4 m1_5) fun x179 hx179=>?_;conv=>arg 3;whnf
           exact Zf (ih _)
          ·refine Ze (Za t0 t1 t2 t3 s0.1 x178.1 (w64 (s0.2.2.1-1)) x178.2 m1_0 m1_1 m1_2 m1_3 m1_4 m1_5) (hrc t0 t1 t2 t3 s0.1 x178.1 (w64 (s0.2.2.1-1)) x178.2 m1_0 m1_1 m1_2 m1_3 m1_4 m1_5) fun x180 hx180=>?_;conv=>arg 3;whnf
           exact Zf (ih _)
         ·refine Zd rfl ?_ ?_<;>conv=>arg 3;whnf
          ·refine Ze (Za t0 t1 t2 t3 (w64 (x178.1+1)) s0.2.1 (w64 (s0.2.2.1-1)) x178.2 m1_0 m1_1 m1_2 m1_3 m1_4 m1_5) (hrc t0 t1 t2 t3 (w64 (x178.1+1)) s0.2.1 (w64 (s0.2.2.1-1)) x178.2 m1_0 m1_1 m1_2 m1_3 m1_4 m1_5) fun x181 hx181=>?_;conv=>arg 3;whnf
           exact Zf (ih _)
          ·refine Ze (Za t0 t1 t2 t3 (w64 (x178.1+1)) s0.2.1 (w64 (s0.2.2.1-1)) x178.2 m1_0 m1_1 m1_2 m1_3 m1_4 m1_5) (hrc t0 t1 t2 t3 (w64 (x178.1+1)) s0.2.1 (w64 (s0.2.2.1-1)) x178.2 m1_0 m1_1 m1_2 m1_3 m1_4 m1_5) fun x182 hx182=>?_;conv=>arg 3;whnf
           exact Zf (ih _)
        ·conv=>arg 3;whnf
         refine Zaf rfl ?_;conv=>arg 3;whnf
         refine Zaf rfl ?_;conv=>arg 3;whnf
         refine Zd rfl ?_ ?_<;>conv=>arg 3;whnf
         ·refine Zd rfl ?_ ?_<;>conv=>arg 3;whnf
          ·refine Ze (Za t0 t1 t2 t3 s0.1 x178.1 (w64 (s0.2.2.1-1)) x178.2 m1_0 m1_1 m1_2 m1_3 m1_4 m1_5) (hrc t0 t1 t2 t3 s0.1 x178.1 (w64 (s0.2.2.1-1)) x178.2 m1_0 m1_1 m1_2 m1_3 m1_4 m1_5) fun x183 hx183=>?_;conv=>arg 3;whnf
           exact Zf (ih _)
          ·refine Ze (Za t0 t1 t2 t3 s0.1 x178.1 (w64 (s0.2.2.1-1)) x178.2 m1_0 m1_1 m1_2 m1_3 m1_4 m1_5) (hrc t0 t1 t2 t3 s0.1 x178.1 (w64 (s0.2.2.1-1)) x178.2 m1_0 m1_1 m1_2 m1_3 m1_4 m1_5) fun x184 hx184=>?_;conv=>arg 3;whnf
           exact Zf (ih _)
         ·refine Zd rfl ?_ ?_<;>conv=>arg 3;whnf
          ·refine Ze (Za t0 t1 t2 t3 (w64 (x178.1+1)) s0.2.1 (w64 (s0.2.2.1-1)) x178.2 m1_0 m1_1 m1_2 m1_3 m1_4 m1_5) (hrc t0 t1 t2 t3 (w64 (x178.1+1)) s0.2.1 (w64 (s0.2.2.1-1)) x178.2 m1_0 m1_1 m1_2 m1_3 m1_4 m1_5) fun x185 hx185=>?_;conv=>arg 3;whnf
           exact Zf (ih _)
          ·refine Ze (Za t0 t1 t2 t3 (w64 (x178.1+1)) s0.2.1 (w64 (s0.2.2.1-1)) x178.2 m1_0 m1_1 m1_2 m1_3 m1_4 m1_5) (hrc t0 t1 t2 t3 (w64 (x178.1+1)) s0.2.1 (w64 (s0.2.2.1-1)) x178.2 m1_0 m1_1 m1_2 m1_3 m1_4 m1_5) fun x186 hx186=>?_;conv=>arg 3;whnf
           exact Zf (ih _)
       ·refine Ze _ ZE fun x187 hx187=>?_;conv=>arg 3;whnf
        exact Zf (ih _)
      ·refine Ze _ Zo fun x188 hx188=>?_
       clear hx188
       rcases x188 with x188 | x188
       ·conv=>arg 3;whnf
        refine ZaU rfl ?_;conv=>arg 3;whnf
        refine Zaf rfl ?_;conv=>arg 3;whnf
        refine Zd rfl ?_ ?_<;>conv=>arg 3;whnf
        ·refine Zd rfl ?_ ?_<;>conv=>arg 3;whnf
         ·refine Ze (Za t0 t1 t2 t3 s0.1 x188.1 (w64 (s0.2.2.1-1)) x188.2 m1_0 m1_1 m1_2 m1_3 m1_4 m1_5) (hrc t0 t1 t2 t3 s0.1 x188.1 (w64 (s0.2.2.1-1)) x188.2 m1_0 m1_1 m1_2 m1_3 m1_4 m1_5) fun x189 hx189=>?_;conv=>arg 3;whnf
          exact Zf (ih _)
         ·refine Ze (Za t0 t1 t2 t3 s0.1 x188.1 (w64 (s0.2.2.1-1)) x188.2 m1_0 m1_1 m1_2 m1_3 m1_4 m1_5) (hrc t0 t1 t2 t3 s0.1 x188.1 (w64 (s0.2.2.1-1)) x188.2 m1_0 m1_1 m1_2 m1_3 m1_4 m1_5) fun x190 hx190=>?_;conv=>arg 3;whnf
          exact Zf (ih _)
        ·refine Zd rfl ?_ ?_<;>conv=>arg 3;whnf
         ·refine Ze (Za t0 t1 t2 t3 (w64 (x188.1+1)) s0.2.1 (w64 (s0.2.2.1-1)) x188.2 m1_0 m1_1 m1_2 m1_3 m1_4 m1_5) (hrc t0 t1 t2 t3 (w64 (x188.1+1)) s0.2.1 (w64 (s0.2.2.1-1)) x188.2 m1_0 m1_1 m1_2 m1_3 m1_4 m1_5) fun x191 hx191=>?_;conv=>arg 3;whnf
          exact Zf (ih _)
         ·refine Ze (Za t0 t1 t2 t3 (w64 (x188.1+1)) s0.2.1 (w64 (s0.2.2.1-1)) x188.2 m1_0 m1_1 m1_2 m1_3 m1_4 m1_5) (hrc t0 t1 t2 t3 (w64 (x188.1+1)) s0.2.1 (w64 (s0.2.2.1-1)) x188.2 m1_0 m1_1 m1_2 m1_3 m1_4 m1_5) fun x192 hx192=>?_;conv=>arg 3;whnf
          exact Zf (ih _)
       ·conv=>arg 3;whnf
        refine Zaf rfl ?_;conv=>arg 3;whnf
        refine Zaf rfl ?_;conv=>arg 3;whnf
        refine Zd rfl ?_ ?_<;>conv=>arg 3;whnf
        ·refine Zd rfl ?_ ?_<;>conv=>arg 3;whnf
         ·refine Ze (Za t0 t1 t2 t3 s0.1 x188.1 (w64 (s0.2.2.1-1)) x188.2 m1_0 m1_1 m1_2 m1_3 m1_4 m1_5) (hrc t0 t1 t2 t3 s0.1 x188.1 (w64 (s0.2.2.1-1)) x188.2 m1_0 m1_1 m1_2 m1_3 m1_4 m1_5) fun x193 hx193=>?_;conv=>arg 3;whnf
          exact Zf (ih _)
         ·refine Ze (Za t0 t1 t2 t3 s0.1 x188.1 (w64 (s0.2.2.1-1)) x188.2 m1_0 m1_1 m1_2 m1_3 m1_4 m1_5) (hrc t0 t1 t2 t3 s0.1 x188.1 (w64 (s0.2.2.1-1)) x188.2 m1_0 m1_1 m1_2 m1_3 m1_4 m1_5) fun x194 hx194=>?_;conv=>arg 3;whnf
          exact Zf (ih _)
        ·refine Zd rfl ?_ ?_<;>conv=>arg 3;whnf
         ·refine Ze (Za t0 t1 t2 t3 (w64 (x188.1+1)) s0.2.1 (w64 (s0.2.2.1-1)) x188.2 m1_0 m1_1 m1_2 m1_3 m1_4 m1_5) (hrc t0 t1 t2 t3 (w64 (x188.1+1)) s0.2.1 (w64 (s0.2.2.1-1)) x188.2 m1_0 m1_1 m1_2 m1_3 m1_4 m1_5) fun x195 hx195=>?_;conv=>arg 3;whnf
          exact Zf (ih _)
         ·refine Ze (Za t0 t1 t2 t3 (w64 (x188.1+1)) s0.2.1 (w64 (s0.2.2.1-1)) x188.2 m1_0 m1_1 m1_2 m1_3 m1_4 m1_5) (hrc t0 t1 t2 t3 (w64 (x188.1+1)) s0.2.1 (w64 (s0.2.2.1-1)) x188.2 m1_0 m1_1 m1_2 m1_3 m1_4 m1_5) fun x196 hx196=>?_;conv=>arg 3;whnf
          exact Zf (ih _)
     ·refine Zd rfl ?_ ?_<;>conv=>arg 3;whnf
      ·refine Zl rfl rfl fun x197 hx197=>?_;conv=>arg 3;whnf
       refine Zg (ZB rfl hx197) ?_;conv=>arg 3;whnf
       refine Zl rfl rfl fun x198 hx198=>?_;conv=>arg 3;whnf
       refine Zg (ZB rfl hx198) ?_;conv=>arg 3;whnf
       refine Zm _ ZJ rfl fun x199 hx199=>?_;conv=>arg 3;whnf
       refine Zd rfl ?_ ?_<;>conv=>arg 3;whnf
       ·refine Ze _ Zo fun x200 hx200=>?_
        clear hx200
        rcases x200 with x200 | x200
        ·conv=>arg 3;whnf
         refine ZaU rfl ?_;conv=>arg 3;whnf
         refine Zaf rfl ?_;conv=>arg 3;whnf
         refine Zd rfl ?_ ?_<;>conv=>arg 3;whnf
         ·refine Zd rfl ?_ ?_<;>conv=>arg 3;whnf
          ·refine Ze (Za t0 t1 t2 t3 s0.1 x200.1 (w64 (s0.2.2.1-1)) x200.2 m1_0 m1_1 m1_2 m1_3 m1_4 m1_5) (hrc t0 t1 t2 t3 s0.1 x200.1 (w64 (s0.2.2.1-1)) x200.2 m1_0 m1_1 m1_2 m1_3 m1_4 m1_5) fun x201 hx201=>?_;conv=>arg 3;whnf
           exact Zf (ih _)
          ·refine Ze (Za t0 t1 t2 t3 s0.1 x200.1 (w64 (s0.2.2.1-1)) x200.2 m1_0 m1_1 m1_2 m1_3 m1_4 m1_5) (hrc t0 t1 t2 t3 s0.1 x200.1 (w64 (s0.2.2.1-1)) x200.2 m1_0 m1_1 m1_2 m1_3 m1_4 m1_5) fun x202 hx202=>?_;conv=>arg 3;whnf
           exact Zf (ih _)
         ·refine Zd rfl ?_ ?_<;>conv=>arg 3;whnf
          ·refine Ze (Za t0 t1 t2 t3 (w64 (x200.1+1)) s0.2.1 (w64 (s0.2.2.1-1)) x200.2 m1_0 m1_1 m1_2 m1_3 m1_4 m1_5) (hrc t0 t1 t2 t3 (w64 (x200.1+1)) s0.2.1 (w64 (s0.2.2.1-1)) x200.2 m1_0 m1_1 m1_2 m1_3 m1_4 m1_5) fun x203 hx203=>?_;conv=>arg 3;whnf
           exact Zf (ih _)
          ·refine Ze (Za t0 t1 t2 t3 (w64 (x200.1+1)) s0.2.1 (w64 (s0.2.2.1-1)) x200.2 m1_0 m1_1 m1_2 m1_3 m1_4 m1_5) (hrc t0 t1 t2 t3 (w64 (x200.1+1)) s0.2.1 (w64 (s0.2.2.1-1)) x200.2 m1_0 m1_1 m1_2 m1_3 m1_4 m1_5) fun x204 hx204=>?_;conv=>arg 3;whnf
           exact Zf (ih _)
        ·conv=>arg 3;whnf
         refine Zaf rfl ?_;conv=>arg 3;whnf
         refine Zaf rfl ?_;conv=>arg 3;whnf
         refine Zd rfl ?_ ?_<;>conv=>arg 3;whnf
         ·refine Zd rfl ?_ ?_<;>conv=>arg 3;whnf
          ·refine Ze (Za t0 t1 t2 t3 s0.1 x200.1 (w64 (s0.2.2.1-1)) x200.2 m1_0 m1_1 m1_2 m1_3 m1_4 m1_5) (hrc t0 t1 t2 t3 s0.1 x200.1 (w64 (s0.2.2.1-1)) x200.2 m1_0 m1_1 m1_2 m1_3 m1_4 m1_5) fun x205 hx205=>?_;conv=>arg 3;whnf
           exact Zf (ih _)
          ·refine Ze (Za t0 t1 t2 t3 s0.1 x200.1 (w64 (s0.2.2.1-1)) x200.2 m1_0 m1_1 m1_2 m1_3 m1_4 m1_5) (hrc t0 t1 t2 t3 s0.1 x200.1 (w64 (s0.2.2.1-1)) x200.2 m1_0 m1_1 m1_2 m1_3 m1_4 m1_5) fun x206 hx206=>?_;conv=>arg 3;whnf
           exact Zf (ih _)
         ·refine Zd rfl ?_ ?_<;>conv=>arg 3;whnf
          ·refine Ze (Za t0 t1 t2 t3 (w64 (x200.1+1)) s0.2.1 (w64 (s0.2.2.1-1)) x200.2 m1_0 m1_1 m1_2 m1_3 m1_4 m1_5) (hrc t0 t1 t2 t3 (w64 (x200.1+1)) s0.2.1 (w64 (s0.2.2.1-1)) x200.2 m1_0 m1_1 m1_2 m1_3 m1_4 m1_5) fun x207 hx207=>?_;conv=>arg 3;whnf
           exact Zf (ih _)
          ·refine Ze (Za t0 t1 t2 t3 (w64 (x200.1+1)) s0.2.1 (w64 (s0.2.2.1-1)) x200.2 m1_0 m1_1 m1_2 m1_3 m1_4 m1_5) (hrc t0 t1 t2 t3 (w64 (x200.1+1)) s0.2.1 (w64 (s0.2.2.1-1)) x200.2 m1_0 m1_1 m1_2 m1_3 m1_4 m1_5) fun x208 hx208=>?_;conv=>arg 3;whnf
           exact Zf (ih _)
       ·refine Ze _ ZE fun x209 hx209=>?_;conv=>arg 3;whnf
        exact Zf (ih _)
      ·refine Ze _ Zo fun x210 hx210=>?_
       clear hx210
       rcases x210 with x210 | x210
       ·conv=>arg 3;whnf
        refine ZaU rfl ?_;conv=>arg 3;whnf
        refine Zaf rfl ?_;conv=>arg 3;whnf
        refine Zd rfl ?_ ?_<;>conv=>arg 3;whnf
        ·refine Zd rfl ?_ ?_<;>conv=>arg 3;whnf
         ·refine Ze (Za t0 t1 t2 t3 s0.1 x210.1 (w64 (s0.2.2.1-1)) x210.2 m1_0 m1_1 m1_2 m1_3 m1_4 m1_5) (hrc t0 t1 t2 t3 s0.1 x210.1 (w64 (s0.2.2.1-1)) x210.2 m1_0 m1_1 m1_2 m1_3 m1_4 m1_5) fun x211 hx211=>?_;conv=>arg 3;whnf
          exact Zf (ih _)
         ·refine Ze (Za t0 t1 t2 t3 s0.1 x210.1 (w64 (s0.2.2.1-1)) x210.2 m1_0 m1_1 m1_2 m1_3 m1_4 m1_5) (hrc t0 t1 t2 t3 s0.1 x210.1 (w64 (s0.2.2.1-1)) x210.2 m1_0 m1_1 m1_2 m1_3 m1_4 m1_5) fun x212 hx212=>?_;conv=>arg 3;whnf
          exact Zf (ih _)
        ·refine Zd rfl ?_ ?_<;>conv=>arg 3;whnf
         ·refine Ze (Za t0 t1 t2 t3 (w64 (x210.1+1)) s0.2.1 (w64 (s0.2.2.1-1)) x210.2 m1_0 m1_1 m1_2 m1_3 m1_4 m1_5) (hrc t0 t1 t2 t3 (w64 (x210.1+1)) s0.2.1 (w64 (s0.2.2.1-1)) x210.2 m1_0 m1_1 m1_2 m1_3 m1_4 m1_5) fun x213 hx213=>?_;conv=>arg 3;whnf
          exact Zf (ih _)
         ·refine Ze (Za t0 t1 t2 t3 (w64 (x210.1+1)) s0.2.1 (w64 (s0.2.2.1-1)) x210.2 m1_0 m1_1 m1_2 m1_3 m1_4 m1_5) (hrc t0 t1 t2 t3 (w64 (x210.1+1)) s0.2.1 (w64 (s0.2.2.1-1)) x210.2 m1_0 m1_1 m1_2 m1_3 m1_4 m1_5) fun x214 hx214=>?_;conv=>arg 3;whnf
          exact Zf (ih _)
       ·conv=>arg 3;whnf
        refine Zaf rfl ?_;conv=>arg 3;whnf
        refine Zaf rfl ?_;conv=>arg 3;whnf
        refine Zd rfl ?_ ?_<;>conv=>arg 3;whnf
        ·refine Zd rfl ?_ ?_<;>conv=>arg 3;whnf
         ·refine Ze (Za t0 t1 t2 t3 s0.1 x210.1 (w64 (s0.2.2.1-1)) x210.2 m1_0 m1_1 m1_2 m1_3 m1_4 m1_5) (hrc t0 t1 t2 t3 s0.1 x210.1 (w64 (s0.2.2.1-1)) x210.2 m1_0 m1_1 m1_2 m1_3 m1_4 m1_5) fun x215 hx215=>?_;conv=>arg 3;whnf
          exact Zf (ih _)
         ·refine Ze (Za t0 t1 t2 t3 s0.1 x210.1 (w64 (s0.2.2.1-1)) x210.2 m1_0 m1_1 m1_2 m1_3 m1_4 m1_5) (hrc t0 t1 t2 t3 s0.1 x210.1 (w64 (s0.2.2.1-1)) x210.2 m1_0 m1_1 m1_2 m1_3 m1_4 m1_5) fun x216 hx216=>?_;conv=>arg 3;whnf
          exact Zf (ih _)
        ·refine Zd rfl ?_ ?_<;>conv=>arg 3;whnf
         ·refine Ze (Za t0 t1 t2 t3 (w64 (x210.1+1)) s0.2.1 (w64 (s0.2.2.1-1)) x210.2 m1_0 m1_1 m1_2 m1_3 m1_4 m1_5) (hrc t0 t1 t2 t3 (w64 (x210.1+1)) s0.2.1 (w64 (s0.2.2.1-1)) x210.2 m1_0 m1_1 m1_2 m1_3 m1_4 m1_5) fun x217 hx217=>?_;conv=>arg 3;whnf
          exact Zf (ih _)
         ·refine Ze (Za t0 t1 t2 t3 (w64 (x210.1+1)) s0.2.1 (w64 (s0.2.2.1-1)) x210.2 m1_0 m1_1 m1_2 m1_3 m1_4 m1_5) (hrc t0 t1 t2 t3 (w64 (x210.1+1)) s0.2.1 (w64 (s0.2.2.1-1)) x210.2 m1_0 m1_1 m1_2 m1_3 m1_4 m1_5) fun x218 hx218=>?_;conv=>arg 3;whnf
          exact Zf (ih _)
  ·refine Zwk ?_;conv=>arg 3;whnf
   refine Zd rfl ?_ ?_<;>conv=>arg 3;whnf
   ·refine Ze _ Zah fun x121 hx121=>?_;conv=>arg 3;whnf
    exact Zc rfl
   ·refine Zd rfl ?_ ?_<;>conv=>arg 3;whnf
    ·refine Ze _ Zaz fun x122 hx122=>?_;conv=>arg 3;whnf
     exact Zc rfl
    ·refine Ze _ ZbE fun x123 hx123=>?_;conv=>arg 3;whnf
     refine Ze _ Zar fun x124 hx124=>?_;conv=>arg 3;whnf
     refine Zd rfl ?_ ?_<;>conv=>arg 3;whnf
     ·refine Ze _ Zao fun x125 hx125=>?_;conv=>arg 3;whnf
      refine Zd rfl ?_ ?_<;>conv=>arg 3;whnf
      ·refine Zl rfl rfl fun x126 hx126=>?_;conv=>arg 3;whnf
       refine Zg (ZB rfl hx126) ?_;conv=>arg 3;whnf
       refine Zl rfl rfl fun x127 hx127=>?_;conv=>arg 3;whnf
       refine Zg (ZB rfl hx127) ?_;conv=>arg 3;whnf
       refine Zm _ ZJ rfl fun x128 hx128=>?_;conv=>arg 3;whnf
       refine Zd rfl ?_ ?_<;>conv=>arg 3;whnf
       ·refine Ze _ Zo fun x129 hx129=>?_
        clear hx129
        rcases x129 with x129 | x129
        ·conv=>arg 3;whnf
         refine ZaU rfl ?_;conv=>arg 3;whnf
         refine Zaf rfl ?_;conv=>arg 3;whnf
         refine Zd rfl ?_ ?_<;>conv=>arg 3;whnf
         ·refine Zd rfl ?_ ?_<;>conv=>arg 3;whnf
          ·refine Ze (Za t0 t1 t2 t3 s0.1 x129.1 (w64 (s0.2.2.1-1)) x129.2 m1_0 m1_1 m1_2 m1_3 m1_4 m1_5) (hrc t0 t1 t2 t3 s0.1 x129.1 (w64 (s0.2.2.1-1)) x129.2 m1_0 m1_1 m1_2 m1_3 m1_4 m1_5) fun x130 hx130=>?_;conv=>arg 3;whnf
           exact Zf (ih _)
          ·refine Ze (Za t0 t1 t2 t3 s0.1 x129.1 (w64 (s0.2.2.1-1)) x129.2 m1_0 m1_1 m1_2 m1_3 m1_4 m1_5) (hrc t0 t1 t2 t3 s0.1 x129.1 (w64 (s0.2.2.1-1)) x129.2 m1_0 m1_1 m1_2 m1_3 m1_4 m1_5) fun x131 hx131=>?_;conv=>arg 3;whnf
           exact Zf (ih _)
         ·refine Zd rfl ?_ ?_<;>conv=>arg 3;whnf
          ·refine Ze (Za t0 t1 t2 t3 (w64 (x129.1+1)) s0.2.1 (w64 (s0.2.2.1-1)) x129.2 m1_0 m1_1 m1_2 m1_3 m1_4 m1_5) (hrc t0 t1 t2 t3 (w64 (x129.1+1)) s0.2.1 (w64 (s0.2.2.1-1)) x129.2 m1_0 m1_1 m1_2 m1_3 m1_4 m1_5) fun x132 hx132=>?_;conv=>arg 3;whnf
           exact Zf (ih _)
          ·refine Ze (Za t0 t1 t2 t3 (w64 (x129.1+1)) s0.2.1 (w64 (s0.2.2.1-1)) x129.2 m1_0 m1_1 m1_2 m1_3 m1_4 m1_5) (hrc t0 t1 t2 t3 (w64 (x129.1+1)) s0.2.1 (w64 (s0.2.2.1-1)) x129.2 m1_0 m1_1 m1_2 m1_3 m1_4 m1_5) fun x133 hx133=>?_;conv=>arg 3;whnf
           exact Zf (ih _)
        ·conv=>arg 3;whnf
         refine Zaf rfl ?_;conv=>arg 3;whnf
         refine Zaf rfl ?_;conv=>arg 3;whnf
         refine Zd rfl ?_ ?_<;>conv=>arg 3;whnf
         ·refine Zd rfl ?_ ?_<;>conv=>arg 3;whnf
          ·refine Ze (Za t0 t1 t2 t3 s0.1 x129.1 (w64 (s0.2.2.1-1)) x129.2 m1_0 m1_1 m1_2 m1_3 m1_4 m1_5) (hrc t0 t1 t2 t3 s0.1 x129.1 (w64 (s0.2.2.1-1)) x129.2 m1_0 m1_1 m1_2 m1_3 m1_4 m1_5) fun x134 hx134=>?_;conv=>arg 3;whnf
           exact Zf (ih _)
          ·refine Ze (Za t0 t1 t2 t3 s0.1 x129.1 (w64 (s0.2.2.1-1)) x129.2 m1_0 m1_1 m1_2 m1_3 m1_4 m1_5) (hrc t0 t1 t2 t3 s0.1 x129.1 (w64 (s0.2.2.1-1)) x129.2 m1_0 m1_1 m1_2 m1_3 m1_4 m1_5) fun x135 hx135=>?_;conv=>arg 3;whnf
           exact Zf (ih _)
         ·refine Zd rfl ?_ ?_<;>conv=>arg 3;whnf
          ·refine Ze (Za t0 t1 t2 t3 (w64 (x129.1+1)) s0.2.1 (w64 (s0.2.2.1-1)) x129.2 m1_0 m1_1 m1_2 m1_3 m1_4 m1_5) (hrc t0 t1 t2 t3 (w64 (x129.1+1)) s0.2.1 (w64 (s0.2.2.1-1)) x129.2 m1_0 m1_1 m1_2 m1_3 m1_4 m1_5) fun x136 hx136=>?_;conv=>arg 3;whnf
           exact Zf (ih _)
          ·refine Ze (Za t0 t1 t2 t3 (w64 (x129.1+1)) s0.2.1 (w64 (s0.2.2.1-1)) x129.2 m1_0 m1_1 m1_2 m1_3 m1_4 m1_5) (hrc t0 t1 t2 t3 (w64 (x129.1+1)) s0.2.1 (w64 (s0.2.2.1-1)) x129.2 m1_0 m1_1 m1_2 m1_3 m1_4 m1_5) fun x137 hx137=>?_;conv=>arg 3;whnf
           exact Zf (ih _)
       ·refine Ze _ ZE fun x138 hx138=>?_;conv=>arg 3;whnf
        exact Zf (ih _)
      ·refine Ze _ Zo fun x139 hx139=>?_
       clear hx139
       rcases x139 with x139 | x139
       ·conv=>arg 3;whnf
        refine ZaU rfl ?_;conv=>arg 3;whnf
        refine Zaf rfl ?_;conv=>arg 3;whnf
        refine Zd rfl ?_ ?_<;>conv=>arg 3;whnf
        ·refine Zd rfl ?_ ?_<;>conv=>arg 3;whnf
         ·refine Ze (Za t0 t1 t2 t3 s0.1 x139.1 (w64 (s0.2.2.1-1)) x139.2 m1_0 m1_1 m1_2 m1_3 m1_4 m1_5) (hrc t0 t1 t2 t3 s0.1 x139.1 (w64 (s0.2.2.1-1)) x139.2 m1_0 m1_1 m1_2 m1_3 m1_4 m1_5) fun x140 hx140=>?_;conv=>arg 3;whnf
          exact Zf (ih _)
         ·refine Ze (Za t0 t1 t2 t3 s0.1 x139.1 (w64 (s0.2.2.1-1)) x139.2 m1_0 m1_1 m1_2 m1_3 m1_4 m1_5) (hrc t0 t1 t2 t3 s0.1 x139.1 (w64 (s0.2.2.1-1)) x139.2 m1_0 m1_1 m1_2 m1_3 m1_4 m1_5) fun x141 hx141=>?_;conv=>arg 3;whnf
          exact Zf (ih _)
        ·refine Zd rfl ?_ ?_<;>conv=>arg 3;whnf
         ·refine Ze (Za t0 t1 t2 t3 (w64 (x139.1+1)) s0.2.1 (w64 (s0.2.2.1-1)) x139.2 m1_0 m1_1 m1_2 m1_3 m1_4 m1_5) (hrc t0 t1 t2 t3 (w64 (x139.1+1)) s0.2.1 (w64 (s0.2.2.1-1)) x139.2 m1_0 m1_1 m1_2 m1_3 m1_4 m1_5) fun x142 hx142=>?_;conv=>arg 3;whnf
          exact Zf (ih _)
         ·refine Ze (Za t0 t1 t2 t3 (w64 (x139.1+1)) s0.2.1 (w64 (s0.2.2.1-1)) x139.2 m1_0 m1_1 m1_2 m1_3 m1_4 m1_5) (hrc t0 t1 t2 t3 (w64 (x139.1+1)) s0.2.1 (w64 (s0.2.2.1-1)) x139.2 m1_0 m1_1 m1_2 m1_3 m1_4 m1_5) fun x143 hx143=>?_;conv=>arg 3;whnf
          exact Zf (ih _)
       ·conv=>arg 3;whnf
        refine Zaf rfl ?_;conv=>arg 3;whnf
        refine Zaf rfl ?_;conv=>arg 3;whnf
        refine Zd rfl ?_ ?_<;>conv=>arg 3;whnf
        ·refine Zd rfl ?_ ?_<;>conv=>arg 3;whnf
         ·refine Ze (Za t0 t1 t2 t3 s0.1 x139.1 (w64 (s0.2.2.1-1)) x139.2 m1_0 m1_1 m1_2 m1_3 m1_4 m1_5) (hrc t0 t1 t2 t3 s0.1 x139.1 (w64 (s0.2.2.1-1)) x139.2 m1_0 m1_1 m1_2 m1_3 m1_4 m1_5) fun x144 hx144=>?_;conv=>arg 3;whnf
          exact Zf (ih _)
         ·refine Ze (Za t0 t1 t2 t3 s0.1 x139.1 (w64 (s0.2.2.1-1)) x139.2 m1_0 m1_1 m1_2 m1_3 m1_4 m1_5) (hrc t0 t1 t2 t3 s0.1 x139.1 (w64 (s0.2.2.1-1)) x139.2 m1_0 m1_1 m1_2 m1_3 m1_4 m1_5) fun x145 hx145=>?_;conv=>arg 3;whnf
          exact Zf (ih _)
        ·refine Zd rfl ?_ ?_<;>conv=>arg 3;whnf
         ·refine Ze (Za t0 t1 t2 t3 (w64 (x139.1+1)) s0.2.1 (w64 (s0.2.2.1-1)) x139.2 m1_0 m1_1 m1_2 m1_3 m1_4 m1_5) (hrc t0 t1 t2 t3 (w64 (x139.1+1)) s0.2.1 (w64 (s0.2.2.1-1)) x139.2 m1_0 m1_1 m1_2 m1_3 m1_4 m1_5) fun x146 hx146=>?_;conv=>arg 3;whnf
          exact Zf (ih _)
         ·refine Ze (Za t0 t1 t2 t3 (w64 (x139.1+1)) s0.2.1 (w64 (s0.2.2.1-1)) x139.2 m1_0 m1_1 m1_2 m1_3 m1_4 m1_5) (hrc t0 t1 t2 t3 (w64 (x139.1+1)) s0.2.1 (w64 (s0.2.2.1-1)) x139.2 m1_0 m1_1 m1_2 m1_3 m1_4 m1_5) fun x147 hx147=>?_;conv=>arg 3;whnf
          exact Zf (ih _)
     ·refine Zd rfl ?_ ?_<;>conv=>arg 3;whnf
      ·refine Zl rfl rfl fun x148 hx148=>?_;conv=>arg 3;whnf
       refine Zg (ZB rfl hx148) ?_;conv=>arg 3;whnf
       refine Zl rfl rfl fun x149 hx149=>?_;conv=>arg 3;whnf
       refine Zg (ZB rfl hx149) ?_;conv=>arg 3;whnf
       refine Zm _ ZJ rfl fun x150 hx150=>?_;conv=>arg 3;whnf
       refine Zd rfl ?_ ?_<;>conv=>arg 3;whnf
       ·refine Ze _ Zo fun x151 hx151=>?_
        clear hx151
        rcases x151 with x151 | x151
        ·conv=>arg 3;whnf
         refine ZaU rfl ?_;conv=>arg 3;whnf
         refine Zaf rfl ?_;conv=>arg 3;whnf
         refine Zd rfl ?_ ?_<;>conv=>arg 3;whnf
         ·refine Zd rfl ?_ ?_<;>conv=>arg 3;whnf
          ·refine Ze (Za t0 t1 t2 t3 s0.1 x151.1 (w64 (s0.2.2.1-1)) x151.2 m1_0 m1_1 m1_2 m1_3 m1_4 m1_5) (hrc t0 t1 t2 t3 s0.1 x151.1 (w64 (s0.2.2.1-1)) x151.2 m1_0 m1_1 m1_2 m1_3 m1_4 m1_5) fun x152 hx152=>?_;conv=>arg 3;whnf
           exact Zf (ih _)
          ·refine Ze (Za t0 t1 t2 t3 s0.1 x151.1 (w64 (s0.2.2.1-1)) x151.2 m1_0 m1_1 m1_2 m1_3 m1_4 m1_5) (hrc t0 t1 t2 t3 s0.1 x151.1 (w64 (s0.2.2.1-1)) x151.2 m1_0 m1_1 m1_2 m1_3 m1_4 m1_5) fun x153 hx153=>?_;conv=>arg 3;whnf
           exact Zf (ih _)
         ·refine Zd rfl ?_ ?_<;>conv=>arg 3;whnf
          ·refine Ze (Za t0 t1 t2 t3 (w64 (x151.1+1)) s0.2.1 (w64 (s0.2.2.1-1)) x151.2 m1_0 m1_1 m1_2 m1_3 m1_4 m1_5) (hrc t0 t1 t2 t3 (w64 (x151.1+1)) s0.2.1 (w64 (s0.2.2.1-1)) x151.2 m1_0 m1_1 m1_2 m1_3 m1_4 m1_5) fun x154 hx154=>?_;conv=>arg 3;whnf
           exact Zf (ih _)
          ·refine Ze (Za t0 t1 t2 t3 (w64 (x151.1+1)) s0.2.1 (w64 (s0.2.2.1-1)) x151.2 m1_0 m1_1 m1_2 m1_3 m1_4 m1_5) (hrc t0 t1 t2 t3 (w64 (x151.1+1)) s0.2.1 (w64 (s0.2.2.1-1)) x151.2 m1_0 m1_1 m1_2 m1_3 m1_4 m1_5) fun x155 hx155=>?_;conv=>arg 3;whnf
           exact Zf (ih _)
        ·conv=>arg 3;whnf
         refine Zaf rfl ?_;conv=>arg 3;whnf
         refine Zaf rfl ?_;conv=>arg 3;whnf
         refine Zd rfl ?_ ?_<;>conv=>arg 3;whnf
         ·refine Zd rfl ?_ ?_<;>conv=>arg 3;whnf
          ·refine Ze (Za t0 t1 t2 t3 s0.1 x151.1 (w64 (s0.2.2.1-1)) x151.2 m1_0 m1_1 m1_2 m1_3 m1_4 m1_5) (hrc t0 t1 t2 t3 s0.1 x151.1 (w64 (s0.2.2.1-1)) x151.2 m1_0 m1_1 m1_2 m1_3 m1_4 m1_5) fun x156 hx156=>?_;conv=>arg 3;whnf
           exact Zf (ih _)
          ·refine Ze (Za t0 t1 t2 t3 s0.1 x151.1 (w64 (s0.2.2.1-1)) x151.2 m1_0 m1_1 m1_2 m1_3 m1_4 m1_5) (hrc t0 t1 t2 t3 s0.1 x151.1 (w64 (s0.2.2.1-1)) x151.2 m1_0 m1_1 m1_2 m1_3 m1_4 m1_5) fun x157 hx157=>?_;conv=>arg 3;whnf
           exact Zf (ih _)
         ·refine Zd rfl ?_ ?_<;>conv=>arg 3;whnf
          ·refine Ze (Za t0 t1 t2 t3 (w64 (x151.1+1)) s0.2.1 (w64 (s0.2.2.1-1)) x151.2 m1_0 m1_1 m1_2 m1_3 m1_4 m1_5) (hrc t0 t1 t2 t3 (w64 (x151.1+1)) s0.2.1 (w64 (s0.2.2.1-1)) x151.2 m1_0 m1_1 m1_2 m1_3 m1_4 m1_5) fun x158 hx158=>?_;conv=>arg 3;whnf
           exact Zf (ih _)
          ·refine Ze (Za t0 t1 t2 t3 (w64 (x151.1+1)) s0.2.1 (w64 (s0.2.2.1-1)) x151.2 m1_0 m1_1 m1_2 m1_3 m1_4 m1_5) (hrc t0 t1 t2 t3 (w64 (x151.1+1)) s0.2.1 (w64 (s0.2.2.1-1)) x151.2 m1_0 m1_1 m1_2 m1_3 m1_4 m1_5) fun x159 hx159=>?_;conv=>arg 3;whnf
           exact Zf (ih _)
       ·refine Ze _ ZE fun x160 hx160=>?_;conv=>arg 3;whnf
        exact Zf (ih _)
      ·refine Ze _ Zo fun x161 hx161=>?_
       clear hx161
       rcases x161 with x161 | x161
       ·conv=>arg 3;whnf
        refine ZaU rfl ?_;conv=>arg 3;whnf
        refine Zaf rfl ?_;conv=>arg 3;whnf
        refine Zd rfl ?_ ?_<;>conv=>arg 3;whnf
        ·refine Zd rfl ?_ ?_<;>conv=>arg 3;whnf
         ·refine Ze (Za t0 t1 t2 t3 s0.1 x161.1 (w64 (s0.2.2.1-1)) x161.2 m1_0 m1_1 m1_2 m1_3 m1_4 m1_5) (hrc t0 t1 t2 t3 s0.1 x161.1 (w64 (s0.2.2.1-1)) x161.2 m1_0 m1_1 m1_2 m1_3 m1_4 m1_5) fun x162 hx162=>?_;conv=>arg 3;whnf
          exact Zf (ih _)
         ·refine Ze (Za t0 t1 t2 t3 s0.1 x161.1 (w64 (s0.2.2.1-1)) x161.2 m1_0 m1_1 m1_2 m1_3 m1_4 m1_5) (hrc t0 t1 t2 t3 s0.1 x161.1 (w64 (s0.2.2.1-1)) x161.2 m1_0 m1_1 m1_2 m1_3 m1_4 m1_5) fun x163 hx163=>?_;conv=>arg 3;whnf
          exact Zf (ih _)
        ·refine Zd rfl ?_ ?_<;>conv=>arg 3;whnf
         ·refine Ze (Za t0 t1 t2 t3 (w64 (x161.1+1)) s0.2.1 (w64 (s0.2.2.1-1)) x161.2 m1_0 m1_1 m1_2 m1_3 m1_4 m1_5) (hrc t0 t1 t2 t3 (w64 (x161.1+1)) s0.2.1 (w64 (s0.2.2.1-1)) x161.2 m1_0 m1_1 m1_2 m1_3 m1_4 m1_5) fun x164 hx164=>?_;conv=>arg 3;whnf
          exact Zf (ih _)
         ·refine Ze (Za t0 t1 t2 t3 (w64 (x161.1+1)) s0.2.1 (w64 (s0.2.2.1-1)) x161.2 m1_0 m1_1 m1_2 m1_3 m1_4 m1_5) (hrc t0 t1 t2 t3 (w64 (x161.1+1)) s0.2.1 (w64 (s0.2.2.1-1)) x161.2 m1_0 m1_1 m1_2 m1_3 m1_4 m1_5) fun x165 hx165=>?_;conv=>arg 3;whnf
          exact Zf (ih _)
       ·conv=>arg 3;whnf
        refine Zaf rfl ?_;conv=>arg 3;whnf
        refine Zaf rfl ?_;conv=>arg 3;whnf
        refine Zd rfl ?_ ?_<;>conv=>arg 3;whnf
        ·refine Zd rfl ?_ ?_<;>conv=>arg 3;whnf
         ·refine Ze (Za t0 t1 t2 t3 s0.1 x161.1 (w64 (s0.2.2.1-1)) x161.2 m1_0 m1_1 m1_2 m1_3 m1_4 m1_5) (hrc t0 t1 t2 t3 s0.1 x161.1 (w64 (s0.2.2.1-1)) x161.2 m1_0 m1_1 m1_2 m1_3 m1_4 m1_5) fun x166 hx166=>?_;conv=>arg 3;whnf
          exact Zf (ih _)
         ·refine Ze (Za t0 t1 t2 t3 s0.1 x161.1 (w64 (s0.2.2.1-1)) x161.2 m1_0 m1_1 m1_2 m1_3 m1_4 m1_5) (hrc t0 t1 t2 t3 s0.1 x161.1 (w64 (s0.2.2.1-1)) x161.2 m1_0 m1_1 m1_2 m1_3 m1_4 m1_5) fun x167 hx167=>?_;conv=>arg 3;whnf
          exact Zf (ih _)
        ·refine Zd rfl ?_ ?_<;>conv=>arg 3;whnf
         ·refine Ze (Za t0 t1 t2 t3 (w64 (x161.1+1)) s0.2.1 (w64 (s0.2.2.1-1)) x161.2 m1_0 m1_1 m1_2 m1_3 m1_4 m1_5) (hrc t0 t1 t2 t3 (w64 (x161.1+1)) s0.2.1 (w64 (s0.2.2.1-1)) x161.2 m1_0 m1_1 m1_2 m1_3 m1_4 m1_5) fun x168 hx168=>?_;conv=>arg 3;whnf
          exact Zf (ih _)
         ·refine Ze (Za t0 t1 t2 t3 (w64 (x161.1+1)) s0.2.1 (w64 (s0.2.2.1-1)) x161.2 m1_0 m1_1 m1_2 m1_3 m1_4 m1_5) (hrc t0 t1 t2 t3 (w64 (x161.1+1)) s0.2.1 (w64 (s0.2.2.1-1)) x161.2 m1_0 m1_1 m1_2 m1_3 m1_4 m1_5) fun x169 hx169=>?_;conv=>arg 3;whnf
          exact Zf (ih _)
 ·refine Zwk ?_
  rcases hb:s0.2.2.2.2.1 with _ | _
  ·refine Zw5 ?_;conv=>arg 3;whnf
   refine Zd rfl ?_ ?_<;>conv=>arg 3;whnf
   ·refine Ze _ Zah fun x73 hx73=>?_;conv=>arg 3;whnf
    exact Zc rfl
   ·refine Zd rfl ?_ ?_<;>conv=>arg 3;whnf
    ·refine Ze _ Zaz fun x74 hx74=>?_;conv=>arg 3;whnf
     exact Zc rfl
    ·refine Ze _ Zar fun x75 hx75=>?_;conv=>arg 3;whnf
     refine Zd rfl ?_ ?_<;>conv=>arg 3;whnf
     ·refine Ze _ Zao fun x76 hx76=>?_;conv=>arg 3;whnf
      refine Zd rfl ?_ ?_<;>conv=>arg 3;whnf
      ·refine Zl rfl rfl fun x77 hx77=>?_;conv=>arg 3;whnf
       refine Zg (ZB rfl hx77) ?_;conv=>arg 3;whnf
       refine Zl rfl rfl fun x78 hx78=>?_;conv=>arg 3;whnf
       refine Zg (ZB rfl hx78) ?_;conv=>arg 3;whnf
       refine Zm _ ZJ rfl fun x79 hx79=>?_;conv=>arg 3;whnf
       refine Zd rfl ?_ ?_<;>conv=>arg 3;whnf
       ·refine Ze _ Zo fun x80 hx80=>?_
        clear hx80
        rcases x80 with x80 | x80
        ·conv=>arg 3;whnf
         refine ZaU rfl ?_;conv=>arg 3;whnf
         refine Zaf rfl ?_;conv=>arg 3;whnf
         refine Zd rfl ?_ ?_<;>conv=>arg 3;whnf
         ·refine Zd rfl ?_ ?_<;>conv=>arg 3;whnf
          ·refine Ze (Za t0 t1 t2 t3 s0.1 x80.1 s0.2.2.1 x80.2 m1_0 m1_1 m1_2 m1_3 m1_4 m1_5) (hrc t0 t1 t2 t3 s0.1 x80.1 s0.2.2.1 x80.2 m1_0 m1_1 m1_2 m1_3 m1_4 m1_5) fun x81 hx81=>?_;conv=>arg 3;whnf
           exact Zf (ih _)
          ·refine Ze (Za t0 t1 t2 t3 s0.1 x80.1 s0.2.2.1 x80.2 m1_0 m1_1 m1_2 m1_3 m1_4 m1_5) (hrc t0 t1 t2 t3 s0.1 x80.1 s0.2.2.1 x80.2 m1_0 m1_1 m1_2 m1_3 m1_4 m1_5) fun x82 hx82=>?_;conv=>arg 3;whnf
           exact Zf (ih _)
         ·refine Zd rfl ?_ ?_<;>conv=>arg 3;whnf
          ·refine Ze (Za t0 t1 t2 t3 (w64 (x80.1+1)) s0.2.1 s0.2.2.1 x80.2 m1_0 m1_1 m1_2 m1_3 m1_4 m1_5) (hrc t0 t1 t2 t3 (w64 (x80.1+1)) s0.2.1 s0.2.2.1 x80.2 m1_0 m1_1 m1_2 m1_3 m1_4 m1_5) fun x83 hx83=>?_;conv=>arg 3;whnf
           exact Zf (ih _)
          ·refine Ze (Za t0 t1 t2 t3 (w64 (x80.1+1)) s0.2.1 s0.2.2.1 x80.2 m1_0 m1_1 m1_2 m1_3 m1_4 m1_5) (hrc t0 t1 t2 t3 (w64 (x80.1+1)) s0.2.1 s0.2.2.1 x80.2 m1_0 m1_1 m1_2 m1_3 m1_4 m1_5) fun x84 hx84=>?_;conv=>arg 3;whnf
           exact Zf (ih _)
        ·conv=>arg 3;whnf
         refine Zaf rfl ?_;conv=>arg 3;whnf
         refine Zaf rfl ?_;conv=>arg 3;whnf
         refine Zd rfl ?_ ?_<;>conv=>arg 3;whnf
         ·refine Zd rfl ?_ ?_<;>conv=>arg 3;whnf
          ·refine Ze (Za t0 t1 t2 t3 s0.1 x80.1 s0.2.2.1 x80.2 m1_0 m1_1 m1_2 m1_3 m1_4 m1_5) (hrc t0 t1 t2 t3 s0.1 x80.1 s0.2.2.1 x80.2 m1_0 m1_1 m1_2 m1_3 m1_4 m1_5) fun x85 hx85=>?_;conv=>arg 3;whnf
           exact Zf (ih _)
          ·refine Ze (Za t0 t1 t2 t3 s0.1 x80.1 s0.2.2.1 x80.2 m1_0 m1_1 m1_2 m1_3 m1_4 m1_5) (hrc t0 t1 t2 t3 s0.1 x80.1 s0.2.2.1 x80.2 m1_0 m1_1 m1_2 m1_3 m1_4 m1_5) fun x86 hx86=>?_;conv=>arg 3;whnf
           exact Zf (ih _)
         ·refine Zd rfl ?_ ?_<;>conv=>arg 3;whnf
          ·refine Ze (Za t0 t1 t2 t3 (w64 (x80.1+1)) s0.2.1 s0.2.2.1 x80.2 m1_0 m1_1 m1_2 m1_3 m1_4 m1_5) (hrc t0 t1 t2 t3 (w64 (x80.1+1)) s0.2.1 s0.2.2.1 x80.2 m1_0 m1_1 m1_2 m1_3 m1_4 m1_5) fun x87 hx87=>?_;conv=>arg 3;whnf
           exact Zf (ih _)
          ·refine Ze (Za t0 t1 t2 t3 (w64 (x80.1+1)) s0.2.1 s0.2.2.1 x80.2 m1_0 m1_1 m1_2 m1_3 m1_4 m1_5) (hrc t0 t1 t2 t3 (w64 (x80.1+1)) s0.2.1 s0.2.2.1 x80.2 m1_0 m1_1 m1_2 m1_3 m1_4 m1_5) fun x88 hx88=>?_;conv=>arg 3;whnf
           exact Zf (ih _)
       ·refine Ze _ ZE fun x89 hx89=>?_;conv=>arg 3;whnf
        exact Zf (ih _)
      ·refine Ze _ Zo fun x90 hx90=>?_
       clear hx90
       rcases x90 with x90 | x90
       ·conv=>arg 3;whnf
        refine ZaU rfl ?_;conv=>arg 3;whnf
        refine Zaf rfl ?_;conv=>arg 3;whnf
        refine Zd rfl ?_ ?_<;>conv=>arg 3;whnf
        ·refine Zd rfl ?_ ?_<;>conv=>arg 3;whnf
         ·refine Ze (Za t0 t1 t2 t3 s0.1 x90.1 s0.2.2.1 x90.2 m1_0 m1_1 m1_2 m1_3 m1_4 m1_5) (hrc t0 t1 t2 t3 s0.1 x90.1 s0.2.2.1 x90.2 m1_0 m1_1 m1_2 m1_3 m1_4 m1_5) fun x91 hx91=>?_;conv=>arg 3;whnf
          exact Zf (ih _)
         ·refine Ze (Za t0 t1 t2 t3 s0.1 x90.1 s0.2.2.1 x90.2 m1_0 m1_1 m1_2 m1_3 m1_4 m1_5) (hrc t0 t1 t2 t3 s0.1 x90.1 s0.2.2.1 x90.2 m1_0 m1_1 m1_2 m1_3 m1_4 m1_5) fun x92 hx92=>?_;conv=>arg 3;whnf
          exact Zf (ih _)
        ·refine Zd rfl ?_ ?_<;>conv=>arg 3;whnf
         ·refine Ze (Za t0 t1 t2 t3 (w64 (x90.1+1)) s0.2.1 s0.2.2.1 x90.2 m1_0 m1_1 m1_2 m1_3 m1_4 m1_5) (hrc t0 t1 t2 t3 (w64 (x90.1+1)) s0.2.1 s0.2.2.1 x90.2 m1_0 m1_1 m1_2 m1_3 m1_4 m1_5) fun x93 hx93=>?_;conv=>arg 3;whnf
          exact Zf (ih _)
         ·refine Ze (Za t0 t1 t2 t3 (w64 (x90.1+1)) s0.2.1 s0.2.2.1 x90.2 m1_0 m1_1 m1_2 m1_3 m1_4 m1_5) (hrc t0 t1 t2 t3 (w64 (x90.1+1)) s0.2.1 s0.2.2.1 x90.2 m1_0 m1_1 m1_2 m1_3 m1_4 m1_5) fun x94 hx94=>?_;conv=>arg 3;whnf
          exact Zf (ih _)
       ·conv=>arg 3;whnf
        refine Zaf rfl ?_;conv=>arg 3;whnf
        refine Zaf rfl ?_;conv=>arg 3;whnf
        refine Zd rfl ?_ ?_<;>conv=>arg 3;whnf
        ·refine Zd rfl ?_ ?_<;>conv=>arg 3;whnf
         ·refine Ze (Za t0 t1 t2 t3 s0.1 x90.1 s0.2.2.1 x90.2 m1_0 m1_1 m1_2 m1_3 m1_4 m1_5) (hrc t0 t1 t2 t3 s0.1 x90.1 s0.2.2.1 x90.2 m1_0 m1_1 m1_2 m1_3 m1_4 m1_5) fun x95 hx95=>?_;conv=>arg 3;whnf
          exact Zf (ih _)
         ·refine Ze (Za t0 t1 t2 t3 s0.1 x90.1 s0.2.2.1 x90.2 m1_0 m1_1 m1_2 m1_3 m1_4 m1_5) (hrc t0 t1 t2 t3 s0.1 x90.1 s0.2.2.1 x90.2 m1_0 m1_1 m1_2 m1_3 m1_4 m1_5) fun x96 hx96=>?_;conv=>arg 3;whnf
          exact Zf (ih _)
        ·refine Zd rfl ?_ ?_<;>conv=>arg 3;whnf
         ·refine Ze (Za t0 t1 t2 t3 (w64 (x90.1+1)) s0.2.1 s0.2.2.1 x90.2 m1_0 m1_1 m1_2 m1_3 m1_4 m1_5) (hrc t0 t1 t2 t3 (w64 (x90.1+1)) s0.2.1 s0.2.2.1 x90.2 m1_0 m1_1 m1_2 m1_3 m1_4 m1_5) fun x97 hx97=>?_;conv=>arg 3;whnf
          exact Zf (ih _)
         ·refine Ze (Za t0 t1 t2 t3 (w64 (x90.1+1)) s0.2.1 s0.2.2.1 x90.2 m1_0 m1_1 m1_2 m1_3 m1_4 m1_5) (hrc t0 t1 t2 t3 (w64 (x90.1+1)) s0.2.1 s0.2.2.1 x90.2 m1_0 m1_1 m1_2 m1_3 m1_4 m1_5) fun x98 hx98=>?_;conv=>arg 3;whnf
          exact Zf (ih _)
     ·refine Zd rfl ?_ ?_<;>conv=>arg 3;whnf
      ·refine Zl rfl rfl fun x99 hx99=>?_;conv=>arg 3;whnf
       refine Zg (ZB rfl hx99) ?_;conv=>arg 3;whnf
       refine Zl rfl rfl fun x100 hx100=>?_;conv=>arg 3;whnf
       refine Zg (ZB rfl hx100) ?_;conv=>arg 3;whnf
       refine Zm _ ZJ rfl fun x101 hx101=>?_;conv=>arg 3;whnf
       refine Zd rfl ?_ ?_<;>conv=>arg 3;whnf
       ·refine Ze _ Zo fun x102 hx102=>?_
        clear hx102
        rcases x102 with x102 | x102
        ·conv=>arg 3;whnf
         refine ZaU rfl ?_;conv=>arg 3;whnf
         refine Zaf rfl ?_;conv=>arg 3;whnf
         refine Zd rfl ?_ ?_<;>conv=>arg 3;whnf
         ·refine Zd rfl ?_ ?_<;>conv=>arg 3;whnf
          ·refine Ze (Za t0 t1 t2 t3 s0.1 x102.1 s0.2.2.1 x102.2 m1_0 m1_1 m1_2 m1_3 m1_4 m1_5) (hrc t0 t1 t2 t3 s0.1 x102.1 s0.2.2.1 x102.2 m1_0 m1_1 m1_2 m1_3 m1_4 m1_5) fun x103 hx103=>?_;conv=>arg 3;whnf
           exact Zf (ih _)
          ·refine Ze (Za t0 t1 t2 t3 s0.1 x102.1 s0.2.2.1 x102.2 m1_0 m1_1 m1_2 m1_3 m1_4 m1_5) (hrc t0 t1 t2 t3 s0.1 x102.1 s0.2.2.1 x102.2 m1_0 m1_1 m1_2 m1_3 m1_4 m1_5) fun x104 hx104=>?_;conv=>arg 3;whnf
           exact Zf (ih _)
         ·refine Zd rfl ?_ ?_<;>conv=>arg 3;whnf
          ·refine Ze (Za t0 t1 t2 t3 (w64 (x102.1+1)) s0.2.1 s0.2.2.1 x102.2 m1_0 m1_1 m1_2 m1_3 m1_4 m1_5) (hrc t0 t1 t2 t3 (w64 (x102.1+1)) s0.2.1 s0.2.2.1 x102.2 m1_0 m1_1 m1_2 m1_3 m1_4 m1_5) fun x105 hx105=>?_;conv=>arg 3;whnf
           exact Zf (ih _)
          ·refine Ze (Za t0 t1 t2 t3 (w64 (x102.1+1)) s0.2.1 s0.2.2.1 x102.2 m1_0 m1_1 m1_2 m1_3 m1_4 m1_5) (hrc t0 t1 t2 t3 (w64 (x102.1+1)) s0.2.1 s0.2.2.1 x102.2 m1_0 m1_1 m1_2 m1_3 m1_4 m1_5) fun x106 hx106=>?_;conv=>arg 3;whnf
           exact Zf (ih _)
        ·conv=>arg 3;whnf
         refine Zaf rfl ?_;conv=>arg 3;whnf
         refine Zaf rfl ?_;conv=>arg 3;whnf
         refine Zd rfl ?_ ?_<;>conv=>arg 3;whnf
         ·refine Zd rfl ?_ ?_<;>conv=>arg 3;whnf
          ·refine Ze (Za t0 t1 t2 t3 s0.1 x102.1 s0.2.2.1 x102.2 m1_0 m1_1 m1_2 m1_3 m1_4 m1_5) (hrc t0 t1 t2 t3 s0.1 x102.1 s0.2.2.1 x102.2 m1_0 m1_1 m1_2 m1_3 m1_4 m1_5) fun x107 hx107=>?_;conv=>arg 3;whnf
           exact Zf (ih _)
          ·refine Ze (Za t0 t1 t2 t3 s0.1 x102.1 s0.2.2.1 x102.2 m1_0 m1_1 m1_2 m1_3 m1_4 m1_5) (hrc t0 t1 t2 t3 s0.1 x102.1 s0.2.2.1 x102.2 m1_0 m1_1 m1_2 m1_3 m1_4 m1_5) fun x108 hx108=>?_;conv=>arg 3;whnf
           exact Zf (ih _)
         ·refine Zd rfl ?_ ?_<;>conv=>arg 3;whnf
          ·refine Ze (Za t0 t1 t2 t3 (w64 (x102.1+1)) s0.2.1 s0.2.2.1 x102.2 m1_0 m1_1 m1_2 m1_3 m1_4 m1_5) (hrc t0 t1 t2 t3 (w64 (x102.1+1)) s0.2.1 s0.2.2.1 x102.2 m1_0 m1_1 m1_2 m1_3 m1_4 m1_5) fun x109 hx109=>?_;conv=>arg 3;whnf
           exact Zf (ih _)
          ·refine Ze (Za t0 t1 t2 t3 (w64 (x102.1+1)) s0.2.1 s0.2.2.1 x102.2 m1_0 m1_1 m1_2 m1_3 m1_4 m1_5) (hrc t0 t1 t2 t3 (w64 (x102.1+1)) s0.2.1 s0.2.2.1 x102.2 m1_0 m1_1 m1_2 m1_3 m1_4 m1_5) fun x110 hx110=>?_;conv=>arg 3;whnf
           exact Zf (ih _)
       ·refine Ze _ ZE fun x111 hx111=>?_;conv=>arg 3;whnf
        exact Zf (ih _)
      ·refine Ze _ Zo fun x112 hx112=>?_
       clear hx112
       rcases x112 with x112 | x112
       ·conv=>arg 3;whnf
        refine ZaU rfl ?_;conv=>arg 3;whnf
        refine Zaf rfl ?_;conv=>arg 3;whnf
        refine Zd rfl ?_ ?_<;>conv=>arg 3;whnf
        ·refine Zd rfl ?_ ?_<;>conv=>arg 3;whnf
         ·refine Ze (Za t0 t1 t2 t3 s0.1 x112.1 s0.2.2.1 x112.2 m1_0 m1_1 m1_2 m1_3 m1_4 m1_5) (hrc t0 t1 t2 t3 s0.1 x112.1 s0.2.2.1 x112.2 m1_0 m1_1 m1_2 m1_3 m1_4 m1_5) fun x113 hx113=>?_;conv=>arg 3;whnf
          exact Zf (ih _)
         ·refine Ze (Za t0 t1 t2 t3 s0.1 x112.1 s0.2.2.1 x112.2 m1_0 m1_1 m1_2 m1_3 m1_4 m1_5) (hrc t0 t1 t2 t3 s0.1 x112.1 s0.2.2.1 x112.2 m1_0 m1_1 m1_2 m1_3 m1_4 m1_5) fun x114 hx114=>?_;conv=>arg 3;whnf
          exact Zf (ih _)
        ·refine Zd rfl ?_ ?_<;>conv=>arg 3;whnf
         ·refine Ze (Za t0 t1 t2 t3 (w64 (x112.1+1)) s0.2.1 s0.2.2.1 x112.2 m1_0 m1_1 m1_2 m1_3 m1_4 m1_5) (hrc t0 t1 t2 t3 (w64 (x112.1+1)) s0.2.1 s0.2.2.1 x112.2 m1_0 m1_1 m1_2 m1_3 m1_4 m1_5) fun x115 hx115=>?_;conv=>arg 3;whnf
          exact Zf (ih _)
         ·refine Ze (Za t0 t1 t2 t3 (w64 (x112.1+1)) s0.2.1 s0.2.2.1 x112.2 m1_0 m1_1 m1_2 m1_3 m1_4 m1_5) (hrc t0 t1 t2 t3 (w64 (x112.1+1)) s0.2.1 s0.2.2.1 x112.2 m1_0 m1_1 m1_2 m1_3 m1_4 m1_5) fun x116 hx116=>?_;conv=>arg 3;whnf
          exact Zf (ih _)
       ·conv=>arg 3;whnf
        refine Zaf rfl ?_;conv=>arg 3;whnf
        refine Zaf rfl ?_;conv=>arg 3;whnf
        refine Zd rfl ?_ ?_<;>conv=>arg 3;whnf
        ·refine Zd rfl ?_ ?_<;>conv=>arg 3;whnf
         ·refine Ze (Za t0 t1 t2 t3 s0.1 x112.1 s0.2.2.1 x112.2 m1_0 m1_1 m1_2 m1_3 m1_4 m1_5) (hrc t0 t1 t2 t3 s0.1 x112.1 s0.2.2.1 x112.2 m1_0 m1_1 m1_2 m1_3 m1_4 m1_5) fun x117 hx117=>?_;conv=>arg 3;whnf
          exact Zf (ih _)
         ·refine Ze (Za t0 t1 t2 t3 s0.1 x112.1 s0.2.2.1 x112.2 m1_0 m1_1 m1_2 m1_3 m1_4 m1_5) (hrc t0 t1 t2 t3 s0.1 x112.1 s0.2.2.1 x112.2 m1_0 m1_1 m1_2 m1_3 m1_4 m1_5) fun x118 hx118=>?_;conv=>arg 3;whnf
          exact Zf (ih _)
        ·refine Zd rfl ?_ ?_<;>conv=>arg 3;whnf
         ·refine Ze (Za t0 t1 t2 t3 (w64 (x112.1+1)) s0.2.1 s0.2.2.1 x112.2 m1_0 m1_1 m1_2 m1_3 m1_4 m1_5) (hrc t0 t1 t2 t3 (w64 (x112.1+1)) s0.2.1 s0.2.2.1 x112.2 m1_0 m1_1 m1_2 m1_3 m1_4 m1_5) fun x119 hx119=>?_;conv=>arg 3;whnf
          exact Zf (ih _)
         ·refine Ze (Za t0 t1 t2 t3 (w64 (x112.1+1)) s0.2.1 s0.2.2.1 x112.2 m1_0 m1_1 m1_2 m1_3 m1_4 m1_5) (hrc t0 t1 t2 t3 (w64 (x112.1+1)) s0.2.1 s0.2.2.1 x112.2 m1_0 m1_1 m1_2 m1_3 m1_4 m1_5) fun x120 hx120=>?_;conv=>arg 3;whnf
          exact Zf (ih _)
  ·refine Zwk ?_;conv=>arg 3;whnf
   refine Zd rfl ?_ ?_<;>conv=>arg 3;whnf
   ·refine Ze _ Zah fun x1 hx1=>?_;conv=>arg 3;whnf
    exact Zc rfl
   ·refine Zd rfl ?_ ?_<;>conv=>arg 3;whnf
    ·refine Ze _ Zaz fun x2 hx2=>?_;conv=>arg 3;whnf
     exact Zc rfl
    ·refine Ze _ Zar fun x3 hx3=>?_;conv=>arg 3;whnf
     refine Zd rfl ?_ ?_<;>conv=>arg 3;whnf
     ·refine Ze _ Zao fun x4 hx4=>?_;conv=>arg 3;whnf
      refine ZaU rfl ?_;conv=>arg 3;whnf
      refine Ze _ Zbg fun x5 hx5=>?_
      clear hx5
      rcases x5 with x5 | x5
      ·conv=>arg 3;whnf
       exact Zc rfl
      ·conv=>arg 3;whnf
       refine Zd rfl ?_ ?_<;>conv=>arg 3;whnf
       ·refine Zl rfl rfl fun x6 hx6=>?_;conv=>arg 3;whnf
        refine Zg (ZB rfl hx6) ?_;conv=>arg 3;whnf
        refine Zl rfl rfl fun x7 hx7=>?_;conv=>arg 3;whnf
        refine Zg (ZB rfl hx7) ?_;conv=>arg 3;whnf
        refine Zm _ ZJ rfl fun x8 hx8=>?_;conv=>arg 3;whnf
        refine Zd rfl ?_ ?_<;>conv=>arg 3;whnf
        ·refine Ze _ Zo fun x9 hx9=>?_
         clear hx9
         rcases x9 with x9 | x9
         ·conv=>arg 3;whnf
          refine ZaU rfl ?_;conv=>arg 3;whnf
          refine Zaf rfl ?_;conv=>arg 3;whnf
          refine Zd rfl ?_ ?_<;>conv=>arg 3;whnf
          ·refine Zd rfl ?_ ?_<;>conv=>arg 3;whnf
           ·refine Ze (Za t0 t1 t2 t3 s0.1 x9.1 s0.2.2.1 x9.2 m1_0 m1_1 m1_2 m1_3 m1_4 m1_5) (hrc t0 t1 t2 t3 s0.1 x9.1 s0.2.2.1 x9.2 m1_0 m1_1 m1_2 m1_3 m1_4 m1_5) fun x10 hx10=>?_;conv=>arg 3;whnf
            exact Zf (ih _)
           ·refine Ze (Za t0 t1 t2 t3 s0.1 x9.1 s0.2.2.1 x9.2 m1_0 m1_1 m1_2 m1_3 m1_4 m1_5) (hrc t0 t1 t2 t3 s0.1 x9.1 s0.2.2.1 x9.2 m1_0 m1_1 m1_2 m1_3 m1_4 m1_5) fun x11 hx11=>?_;conv=>arg 3;whnf
            exact Zf (ih _)
          ·refine Zd rfl ?_ ?_<;>conv=>arg 3;whnf
           ·refine Ze (Za t0 t1 t2 t3 (w64 (x9.1+1)) s0.2.1 s0.2.2.1 x9.2 m1_0 m1_1 m1_2 m1_3 m1_4 m1_5) (hrc t0 t1 t2 t3 (w64 (x9.1+1)) s0.2.1 s0.2.2.1 x9.2 m1_0 m1_1 m1_2 m1_3 m1_4 m1_5) fun x12 hx12=>?_;conv=>arg 3;whnf
            exact Zf (ih _)
           ·refine Ze (Za t0 t1 t2 t3 (w64 (x9.1+1)) s0.2.1 s0.2.2.1 x9.2 m1_0 m1_1 m1_2 m1_3 m1_4 m1_5) (hrc t0 t1 t2 t3 (w64 (x9.1+1)) s0.2.1 s0.2.2.1 x9.2 m1_0 m1_1 m1_2 m1_3 m1_4 m1_5) fun x13 hx13=>?_;conv=>arg 3;whnf
            exact Zf (ih _)
         ·conv=>arg 3;whnf
          refine Zaf rfl ?_;conv=>arg 3;whnf
          refine Zaf rfl ?_;conv=>arg 3;whnf
          refine Zd rfl ?_ ?_<;>conv=>arg 3;whnf
          ·refine Zd rfl ?_ ?_<;>conv=>arg 3;whnf
           ·refine Ze (Za t0 t1 t2 t3 s0.1 x9.1 s0.2.2.1 x9.2 m1_0 m1_1 m1_2 m1_3 m1_4 m1_5) (hrc t0 t1 t2 t3 s0.1 x9.1 s0.2.2.1 x9.2 m1_0 m1_1 m1_2 m1_3 m1_4 m1_5) fun x14 hx14=>?_;conv=>arg 3;whnf
            exact Zf (ih _)
           ·refine Ze (Za t0 t1 t2 t3 s0.1 x9.1 s0.2.2.1 x9.2 m1_0 m1_1 m1_2 m1_3 m1_4 m1_5) (hrc t0 t1 t2 t3 s0.1 x9.1 s0.2.2.1 x9.2 m1_0 m1_1 m1_2 m1_3 m1_4 m1_5) fun x15 hx15=>?_;conv=>arg 3;whnf
            exact Zf (ih _)
          ·refine Zd rfl ?_ ?_<;>conv=>arg 3;whnf
           ·refine Ze (Za t0 t1 t2 t3 (w64 (x9.1+1)) s0.2.1 s0.2.2.1 x9.2 m1_0 m1_1 m1_2 m1_3 m1_4 m1_5) (hrc t0 t1 t2 t3 (w64 (x9.1+1)) s0.2.1 s0.2.2.1 x9.2 m1_0 m1_1 m1_2 m1_3 m1_4 m1_5) fun x16 hx16=>?_;conv=>arg 3;whnf
            exact Zf (ih _)
           ·refine Ze (Za t0 t1 t2 t3 (w64 (x9.1+1)) s0.2.1 s0.2.2.1 x9.2 m1_0 m1_1 m1_2 m1_3 m1_4 m1_5) (hrc t0 t1 t2 t3 (w64 (x9.1+1)) s0.2.1 s0.2.2.1 x9.2 m1_0 m1_1 m1_2 m1_3 m1_4 m1_5) fun x17 hx17=>?_;conv=>arg 3;whnf
            exact Zf (ih _)
        ·refine Ze _ ZE fun x18 hx18=>?_;conv=>arg 3;whnf
         exact Zf (ih _)
       ·refine Ze _ Zo fun x19 hx19=>?_
        clear hx19
        rcases x19 with x19 | x19
        ·conv=>arg 3;whnf
         refine ZaU rfl ?_;conv=>arg 3;whnf
         refine Zaf rfl ?_;conv=>arg 3;whnf
         refine Zd rfl ?_ ?_<;>conv=>arg 3;whnf
         ·refine Zd rfl ?_ ?_<;>conv=>arg 3;whnf
          ·refine Ze (Za t0 t1 t2 t3 s0.1 x19.1 s0.2.2.1 x19.2 m1_0 m1_1 m1_2 m1_3 m1_4 m1_5) (hrc t0 t1 t2 t3 s0.1 x19.1 s0.2.2.1 x19.2 m1_0 m1_1 m1_2 m1_3 m1_4 m1_5) fun x20 hx20=>?_;conv=>arg 3;whnf
           exact Zf (ih _)
          ·refine Ze (Za t0 t1 t2 t3 s0.1 x19.1 s0.2.2.1 x19.2 m1_0 m1_1 m1_2 m1_3 m1_4 m1_5) (hrc t0 t1 t2 t3 s0.1 x19.1 s0.2.2.1 x19.2 m1_0 m1_1 m1_2 m1_3 m1_4 m1_5) fun x21 hx21=>?_;conv=>arg 3;whnf
           exact Zf (ih _)
         ·refine Zd rfl ?_ ?_<;>conv=>arg 3;whnf
          ·refine Ze (Za t0 t1 t2 t3 (w64 (x19.1+1)) s0.2.1 s0.2.2.1 x19.2 m1_0 m1_1 m1_2 m1_3 m1_4 m1_5) (hrc t0 t1 t2 t3 (w64 (x19.1+1)) s0.2.1 s0.2.2.1 x19.2 m1_0 m1_1 m1_2 m1_3 m1_4 m1_5) fun x22 hx22=>?_;conv=>arg 3;whnf
           exact Zf (ih _)
          ·refine Ze (Za t0 t1 t2 t3 (w64 (x19.1+1)) s0.2.1 s0.2.2.1 x19.2 m1_0 m1_1 m1_2 m1_3 m1_4 m1_5) (hrc t0 t1 t2 t3 (w64 (x19.1+1)) s0.2.1 s0.2.2.1 x19.2 m1_0 m1_1 m1_2 m1_3 m1_4 m1_5) fun x23 hx23=>?_;conv=>arg 3;whnf
           exact Zf (ih _)
        ·conv=>arg 3;whnf
         refine Zaf rfl ?_;conv=>arg 3;whnf
         refine Zaf rfl ?_;conv=>arg 3;whnf
         refine Zd rfl ?_ ?_<;>conv=>arg 3;whnf
         ·refine Zd rfl ?_ ?_<;>conv=>arg 3;whnf
          ·refine Ze (Za t0 t1 t2 t3 s0.1 x19.1 s0.2.2.1 x19.2 m1_0 m1_1 m1_2 m1_3 m1_4 m1_5) (hrc t0 t1 t2 t3 s0.1 x19.1 s0.2.2.1 x19.2 m1_0 m1_1 m1_2 m1_3 m1_4 m1_5) fun x24 hx24=>?_;conv=>arg 3;whnf
           exact Zf (ih _)
          ·refine Ze (Za t0 t1 t2 t3 s0.1 x19.1 s0.2.2.1 x19.2 m1_0 m1_1 m1_2 m1_3 m1_4 m1_5) (hrc t0 t1 t2 t3 s0.1 x19.1 s0.2.2.1 x19.2 m1_0 m1_1 m1_2 m1_3 m1_4 m1_5) fun x25 hx25=>?_;conv=>arg 3;whnf
           exact Zf (ih _)
         ·refine Zd rfl ?_ ?_<;>conv=>arg 3;whnf
          ·refine Ze (Za t0 t1 t2 t3 (w64 (x19.1+1)) s0.2.1 s0.2.2.1 x19.2 m1_0 m1_1 m1_2 m1_3 m1_4 m1_5) (hrc t0 t1 t2 t3 (w64 (x19.1+1)) s0.2.1 s0.2.2.1 x19.2 m1_0 m1_1 m1_2 m1_3 m1_4 m1_5) fun x26 hx26=>?_;conv=>arg 3;whnf
           exact Zf (ih _)
          ·refine Ze (Za t0 t1 t2 t3 (w64 (x19.1+1)) s0.2.1 s0.2.2.1 x19.2 m1_0 m1_1 m1_2 m1_3 m1_4 m1_5) (hrc t0 t1 t2 t3 (w64 (x19.1+1)) s0.2.1 s0.2.2.1 x19.2 m1_0 m1_1 m1_2 m1_3 m1_4 m1_5) fun x27 hx27=>?_;conv=>arg 3;whnf
           exact Zf (ih _)
     ·refine Zd rfl ?_ ?_<;>conv=>arg 3;whnf
      ·refine Ze _ Zbg fun x28 hx28=>?_
       clear hx28
       rcases x28 with x28 | x28
       ·conv=>arg 3;whnf
        exact Zc rfl
       ·conv=>arg 3;whnf
        refine Zd rfl ?_ ?_<;>conv=>arg 3;whnf
        ·refine Zl rfl rfl fun x29 hx29=>?_;conv=>arg 3;whnf
         refine Zg (ZB rfl hx29) ?_;conv=>arg 3;whnf
         refine Zl rfl rfl fun x30 hx30=>?_;conv=>arg 3;whnf
         refine Zg (ZB rfl hx30) ?_;conv=>arg 3;whnf
         refine Zm _ ZJ rfl fun x31 hx31=>?_;conv=>arg 3;whnf
         refine Zd rfl ?_ ?_<;>conv=>arg 3;whnf
         ·refine Ze _ Zo fun x32 hx32=>?_
          clear hx32
          rcases x32 with x32 | x32
          ·conv=>arg 3;whnf
           refine ZaU rfl ?_;conv=>arg 3;whnf
           refine Zaf rfl ?_;conv=>arg 3;whnf
           refine Zd rfl ?_ ?_<;>conv=>arg 3;whnf
           ·refine Zd rfl ?_ ?_<;>conv=>arg 3;whnf
            ·refine Ze (Za t0 t1 t2 t3 s0.1 x32.1 s0.2.2.1 x32.2 m1_0 m1_1 m1_2 m1_3 m1_4 m1_5) (hrc t0 t1 t2 t3 s0.1 x32.1 s0.2.2.1 x32.2 m1_0 m1_1 m1_2 m1_3 m1_4 m1_5) fun x33 hx33=>?_;conv=>arg 3;whnf
             exact Zf (ih _)
            ·refine Ze (Za t0 t1 t2 t3 s0.1 x32.1 s0.2.2.1 x32.2 m1_0 m1_1 m1_2 m1_3 m1_4 m1_5) (hrc t0 t1 t2 t3 s0.1 x32.1 s0.2.2.1 x32.2 m1_0 m1_1 m1_2 m1_3 m1_4 m1_5) fun x34 hx34=>?_;conv=>arg 3;whnf
             exact Zf (ih _)
           ·refine Zd rfl ?_ ?_<;>conv=>arg 3;whnf
            ·refine Ze (Za t0 t1 t2 t3 (w64 (x32.1+1)) s0.2.1 s0.2.2.1 x32.2 m1_0 m1_1 m1_2 m1_3 m1_4 m1_5) (hrc t0 t1 t2 t3 (w64 (x32.1+1)) s0.2.1 s0.2.2.1 x32.2 m1_0 m1_1 m1_2 m1_3 m1_4 m1_5) fun x35 hx35=>?_;conv=>arg 3;whnf
             exact Zf (ih _)
            ·refine Ze (Za t0 t1 t2 t3 (w64 (x32.1+1)) s0.2.1 s0.2.2.1 x32.2 m1_0 m1_1 m1_2 m1_3 m1_4 m1_5) (hrc t0 t1 t2 t3 (w64 (x32.1+1)) s0.2.1 s0.2.2.1 x32.2 m1_0 m1_1 m1_2 m1_3 m1_4 m1_5) fun x36 hx36=>?_;conv=>arg 3;whnf
             exact Zf (ih _)
          ·conv=>arg 3;whnf
           refine Zaf rfl ?_;conv=>arg 3;whnf
           refine Zaf rfl ?_;conv=>arg 3;whnf
           refine Zd rfl ?_ ?_<;>conv=>arg 3;whnf
           ·refine Zd rfl ?_ ?_<;>conv=>arg 3;whnf
            ·refine Ze (Za t0 t1 t2 t3 s0.1 x32.1 s0.2.2.1 x32.2 m1_0 m1_1 m1_2 m1_3 m1_4 m1_5) (hrc t0 t1 t2 t3 s0.1 x32.1 s0.2.2.1 x32.2 m1_0 m1_1 m1_2 m1_3 m1_4 m1_5) fun x37 hx37=>?_;conv=>arg 3;whnf
             exact Zf (ih _)
            ·refine Ze (Za t0 t1 t2 t3 s0.1 x32.1 s0.2.2.1 x32.2 m1_0 m1_1 m1_2 m1_3 m1_4 m1_5) (hrc t0 t1 t2 t3 s0.1 x32.1 s0.2.2.1 x32.2 m1_0 m1_1 m1_2 m1_3 m1_4 m1_5) fun x38 hx38=>?_;conv=>arg 3;whnf
             exact Zf (ih _)
           ·refine Zd rfl ?_ ?_<;>conv=>arg 3;whnf
            ·refine Ze (Za t0 t1 t2 t3 (w64 (x32.1+1)) s0.2.1 s0.2.2.1 x32.2 m1_0 m1_1 m1_2 m1_3 m1_4 m1_5) (hrc t0 t1 t2 t3 (w64 (x32.1+1)) s0.2.1 s0.2.2.1 x32.2 m1_0 m1_1 m1_2 m1_3 m1_4 m1_5) fun x39 hx39=>?_;conv=>arg 3;whnf
             exact Zf (ih _)
            ·refine Ze (Za t0 t1 t2 t3 (w64 (x32.1+1)) s0.2.1 s0.2.2.1 x32.2 m1_0 m1_1 m1_2 m1_3 m1_4 m1_5) (hrc t0 t1 t2 t3 (w64 (x32.1+1)) s0.2.1 s0.2.2.1 x32.2 m1_0 m1_1 m1_2 m1_3 m1_4 m1_5) fun x40 hx40=>?_;conv=>arg 3;whnf
             exact Zf (ih _)
         ·refine Ze _ ZE fun x41 hx41=>?_;conv=>arg 3;whnf
          exact Zf (ih _)
        ·refine Ze _ Zo fun x42 hx42=>?_
         clear hx42
         rcases x42 with x42 | x42
         ·conv=>arg 3;whnf
          refine ZaU rfl ?_;conv=>arg 3;whnf
          refine Zaf rfl ?_;conv=>arg 3;whnf
          refine Zd rfl ?_ ?_<;>conv=>arg 3;whnf
          ·refine Zd rfl ?_ ?_<;>conv=>arg 3;whnf
           ·refine Ze (Za t0 t1 t2 t3 s0.1 x42.1 s0.2.2.1 x42.2 m1_0 m1_1 m1_2 m1_3 m1_4 m1_5) (hrc t0 t1 t2 t3 s0.1 x42.1 s0.2.2.1 x42.2 m1_0 m1_1 m1_2 m1_3 m1_4 m1_5) fun x43 hx43=>?_;conv=>arg 3;whnf
            exact Zf (ih _)
           ·refine Ze (Za t0 t1 t2 t3 s0.1 x42.1 s0.2.2.1 x42.2 m1_0 m1_1 m1_2 m1_3 m1_4 m1_5) (hrc t0 t1 t2 t3 s0.1 x42.1 s0.2.2.1 x42.2 m1_0 m1_1 m1_2 m1_3 m1_4 m1_5) fun x44 hx44=>?_;conv=>arg 3;whnf
            exact Zf (ih _)
          ·refine Zd rfl ?_ ?_<;>conv=>arg 3;whnf
           ·refine Ze (Za t0 t1 t2 t3 (w64 (x42.1+1)) s0.2.1 s0.2.2.1 x42.2 m1_0 m1_1 m1_2 m1_3 m1_4 m1_5) (hrc t0 t1 t2 t3 (w64 (x42.1+1)) s0.2.1 s0.2.2.1 x42.2 m1_0 m1_1 m1_2 m1_3 m1_4 m1_5) fun x45 hx45=>?_;conv=>arg 3;whnf
            exact Zf (ih _)
           ·refine Ze (Za t0 t1 t2 t3 (w64 (x42.1+1)) s0.2.1 s0.2.2.1 x42.2 m1_0 m1_1 m1_2 m1_3 m1_4 m1_5) (hrc t0 t1 t2 t3 (w64 (x42.1+1)) s0.2.1 s0.2.2.1 x42.2 m1_0 m1_1 m1_2 m1_3 m1_4 m1_5) fun x46 hx46=>?_;conv=>arg 3;whnf
            exact Zf (ih _)
         ·conv=>arg 3;whnf
          refine Zaf rfl ?_;conv=>arg 3;whnf
          refine Zaf rfl ?_;conv=>arg 3;whnf
          refine Zd rfl ?_ ?_<;>conv=>arg 3;whnf
          ·refine Zd rfl ?_ ?_<;>conv=>arg 3;whnf
           ·refine Ze (Za t0 t1 t2 t3 s0.1 x42.1 s0.2.2.1 x42.2 m1_0 m1_1 m1_2 m1_3 m1_4 m1_5) (hrc t0 t1 t2 t3 s0.1 x42.1 s0.2.2.1 x42.2 m1_0 m1_1 m1_2 m1_3 m1_4 m1_5) fun x47 hx47=>?_;conv=>arg 3;whnf
            exact Zf (ih _)
           ·refine Ze (Za t0 t1 t2 t3 s0.1 x42.1 s0.2.2.1 x42.2 m1_0 m1_1 m1_2 m1_3 m1_4 m1_5) (hrc t0 t1 t2 t3 s0.1 x42.1 s0.2.2.1 x42.2 m1_0 m1_1 m1_2 m1_3 m1_4 m1_5) fun x48 hx48=>?_;conv=>arg 3;whnf
            exact Zf (ih _)
          ·refine Zd rfl ?_ ?_<;>conv=>arg 3;whnf
           ·refine Ze (Za t0 t1 t2 t3 (w64 (x42.1+1)) s0.2.1 s0.2.2.1 x42.2 m1_0 m1_1 m1_2 m1_3 m1_4 m1_5) (hrc t0 t1 t2 t3 (w64 (x42.1+1)) s0.2.1 s0.2.2.1 x42.2 m1_0 m1_1 m1_2 m1_3 m1_4 m1_5) fun x49 hx49=>?_;conv=>arg 3;whnf
            exact Zf (ih _)
           ·refine Ze (Za t0 t1 t2 t3 (w64 (x42.1+1)) s0.2.1 s0.2.2.1 x42.2 m1_0 m1_1 m1_2 m1_3 m1_4 m1_5) (hrc t0 t1 t2 t3 (w64 (x42.1+1)) s0.2.1 s0.2.2.1 x42.2 m1_0 m1_1 m1_2 m1_3 m1_4 m1_5) fun x50 hx50=>?_;conv=>arg 3;whnf
            exact Zf (ih _)
      ·refine Zd rfl ?_ ?_<;>conv=>arg 3;whnf
       ·refine Zl rfl rfl fun x51 hx51=>?_;conv=>arg 3;whnf
        refine Zg (ZB rfl hx51) ?_;conv=>arg 3;whnf
        refine Zl rfl rfl fun x52 hx52=>?_;conv=>arg 3;whnf
        refine Zg (ZB rfl hx52) ?_;conv=>arg 3;whnf
        refine Zm _ ZJ rfl fun x53 hx53=>?_;conv=>arg 3;whnf
        refine Zd rfl ?_ ?_<;>conv=>arg 3;whnf
        ·refine Ze _ Zo fun x54 hx54=>?_
         clear hx54
         rcases x54 with x54 | x54
         ·conv=>arg 3;whnf
          refine ZaU rfl ?_;conv=>arg 3;whnf
          refine Zaf rfl ?_;conv=>arg 3;whnf
          refine Zd rfl ?_ ?_<;>conv=>arg 3;whnf
          ·refine Zd rfl ?_ ?_<;>conv=>arg 3;whnf
           ·refine Ze (Za t0 t1 t2 t3 s0.1 x54.1 s0.2.2.1 x54.2 m1_0 m1_1 m1_2 m1_3 m1_4 m1_5) (hrc t0 t1 t2 t3 s0.1 x54.1 s0.2.2.1 x54.2 m1_0 m1_1 m1_2 m1_3 m1_4 m1_5) fun x55 hx55=>?_;conv=>arg 3;whnf
            exact Zf (ih _)
           ·refine Ze (Za t0 t1 t2 t3 s0.1 x54.1 s0.2.2.1 x54.2 m1_0 m1_1 m1_2 m1_3 m1_4 m1_5) (hrc t0 t1 t2 t3 s0.1 x54.1 s0.2.2.1 x54.2 m1_0 m1_1 m1_2 m1_3 m1_4 m1_5) fun x56 hx56=>?_;conv=>arg 3;whnf
            exact Zf (ih _)
          ·refine Zd rfl ?_ ?_<;>conv=>arg 3;whnf
           ·refine Ze (Za t0 t1 t2 t3 (w64 (x54.1+1)) s0.2.1 s0.2.2.1 x54.2 m1_0 m1_1 m1_2 m1_3 m1_4 m1_5) (hrc t0 t1 t2 t3 (w64 (x54.1+1)) s0.2.1 s0.2.2.1 x54.2 m1_0 m1_1 m1_2 m1_3 m1_4 m1_5) fun x57 hx57=>?_;conv=>arg 3;whnf
            exact Zf (ih _)
           ·refine Ze (Za t0 t1 t2 t3 (w64 (x54.1+1)) s0.2.1 s0.2.2.1 x54.2 m1_0 m1_1 m1_2 m1_3 m1_4 m1_5) (hrc t0 t1 t2 t3 (w64 (x54.1+1)) s0.2.1 s0.2.2.1 x54.2 m1_0 m1_1 m1_2 m1_3 m1_4 m1_5) fun x58 hx58=>?_;conv=>arg 3;whnf
            exact Zf (ih _)
         ·conv=>arg 3;whnf
          refine Zaf rfl ?_;conv=>arg 3;whnf
          refine Zaf rfl ?_;conv=>arg 3;whnf
          refine Zd rfl ?_ ?_<;>conv=>arg 3;whnf
          ·refine Zd rfl ?_ ?_<;>conv=>arg 3;whnf
           ·refine Ze (Za t0 t1 t2 t3 s0.1 x54.1 s0.2.2.1 x54.2 m1_0 m1_1 m1_2 m1_3 m1_4 m1_5) (hrc t0 t1 t2 t3 s0.1 x54.1 s0.2.2.1 x54.2 m1_0 m1_1 m1_2 m1_3 m1_4 m1_5) fun x59 hx59=>?_;conv=>arg 3;whnf
            exact Zf (ih _)
           ·refine Ze (Za t0 t1 t2 t3 s0.1 x54.1 s0.2.2.1 x54.2 m1_0 m1_1 m1_2 m1_3 m1_4 m1_5) (hrc t0 t1 t2 t3 s0.1 x54.1 s0.2.2.1 x54.2 m1_0 m1_1 m1_2 m1_3 m1_4 m1_5) fun x60 hx60=>?_;conv=>arg 3;whnf
            exact Zf (ih _)
          ·refine Zd rfl ?_ ?_<;>conv=>arg 3;whnf
           ·refine Ze (Za t0 t1 t2 t3 (w64 (x54.1+1)) s0.2.1 s0.2.2.1 x54.2 m1_0 m1_1 m1_2 m1_3 m1_4 m1_5) (hrc t0 t1 t2 t3 (w64 (x54.1+1)) s0.2.1 s0.2.2.1 x54.2 m1_0 m1_1 m1_2 m1_3 m1_4 m1_5) fun x61 hx61=>?_;conv=>arg 3;whnf
            exact Zf (ih _)
           ·refine Ze (Za t0 t1 t2 t3 (w64 (x54.1+1)) s0.2.1 s0.2.2.1 x54.2 m1_0 m1_1 m1_2 m1_3 m1_4 m1_5) (hrc t0 t1 t2 t3 (w64 (x54.1+1)) s0.2.1 s0.2.2.1 x54.2 m1_0 m1_1 m1_2 m1_3 m1_4 m1_5) fun x62 hx62=>?_;conv=>arg 3;whnf
            exact Zf (ih _)
        ·refine Ze _ ZE fun x63 hx63=>?_;conv=>arg 3;whnf
         exact Zf (ih _)
       ·refine Ze _ Zo fun x64 hx64=>?_
        clear hx64
        rcases x64 with x64 | x64
        ·conv=>arg 3;whnf
         refine ZaU rfl ?_;conv=>arg 3;whnf
         refine Zaf rfl ?_;conv=>arg 3;whnf
         refine Zd rfl ?_ ?_<;>conv=>arg 3;whnf
         ·refine Zd rfl ?_ ?_<;>conv=>arg 3;whnf
          ·refine Ze (Za t0 t1 t2 t3 s0.1 x64.1 s0.2.2.1 x64.2 m1_0 m1_1 m1_2 m1_3 m1_4 m1_5) (hrc t0 t1 t2 t3 s0.1 x64.1 s0.2.2.1 x64.2 m1_0 m1_1 m1_2 m1_3 m1_4 m1_5) fun x65 hx65=>?_;conv=>arg 3;whnf
           exact Zf (ih _)
          ·refine Ze (Za t0 t1 t2 t3 s0.1 x64.1 s0.2.2.1 x64.2 m1_0 m1_1 m1_2 m1_3 m1_4 m1_5) (hrc t0 t1 t2 t3 s0.1 x64.1 s0.2.2.1 x64.2 m1_0 m1_1 m1_2 m1_3 m1_4 m1_5) fun x66 hx66=>?_;conv=>arg 3;whnf
           exact Zf (ih _)
         ·refine Zd rfl ?_ ?_<;>conv=>arg 3;whnf
          ·refine Ze (Za t0 t1 t2 t3 (w64 (x64.1+1)) s0.2.1 s0.2.2.1 x64.2 m1_0 m1_1 m1_2 m1_3 m1_4 m1_5) (hrc t0 t1 t2 t3 (w64 (x64.1+1)) s0.2.1 s0.2.2.1 x64.2 m1_0 m1_1 m1_2 m1_3 m1_4 m1_5) fun x67 hx67=>?_;conv=>arg 3;whnf
           exact Zf (ih _)
          ·refine Ze (Za t0 t1 t2 t3 (w64 (x64.1+1)) s0.2.1 s0.2.2.1 x64.2 m1_0 m1_1 m1_2 m1_3 m1_4 m1_5) (hrc t0 t1 t2 t3 (w64 (x64.1+1)) s0.2.1 s0.2.2.1 x64.2 m1_0 m1_1 m1_2 m1_3 m1_4 m1_5) fun x68 hx68=>?_;conv=>arg 3;whnf
           exact Zf (ih _)
        ·conv=>arg 3;whnf
         refine Zaf rfl ?_;conv=>arg 3;whnf
         refine Zaf rfl ?_;conv=>arg 3;whnf
         refine Zd rfl ?_ ?_<;>conv=>arg 3;whnf
         ·refine Zd rfl ?_ ?_<;>conv=>arg 3;whnf
          ·refine Ze (Za t0 t1 t2 t3 s0.1 x64.1 s0.2.2.1 x64.2 m1_0 m1_1 m1_2 m1_3 m1_4 m1_5) (hrc t0 t1 t2 t3 s0.1 x64.1 s0.2.2.1 x64.2 m1_0 m1_1 m1_2 m1_3 m1_4 m1_5) fun x69 hx69=>?_;conv=>arg 3;whnf
           exact Zf (ih _)
          ·refine Ze (Za t0 t1 t2 t3 s0.1 x64.1 s0.2.2.1 x64.2 m1_0 m1_1 m1_2 m1_3 m1_4 m1_5) (hrc t0 t1 t2 t3 s0.1 x64.1 s0.2.2.1 x64.2 m1_0 m1_1 m1_2 m1_3 m1_4 m1_5) fun x70 hx70=>?_;conv=>arg 3;whnf
           exact Zf (ih _)
         ·refine Zd rfl ?_ ?_<;>conv=>arg 3;whnf
          ·refine Ze (Za t0 t1 t2 t3 (w64 (x64.1+1)) s0.2.1 s0.2.2.1 x64.2 m1_0 m1_1 m1_2 m1_3 m1_4 m1_5) (hrc t0 t1 t2 t3 (w64 (x64.1+1)) s0.2.1 s0.2.2.1 x64.2 m1_0 m1_1 m1_2 m1_3 m1_4 m1_5) fun x71 hx71=>?_;conv=>arg 3;whnf
           exact Zf (ih _)
          ·refine Ze (Za t0 t1 t2 t3 (w64 (x64.1+1)) s0.2.1 s0.2.2.1 x64.2 m1_0 m1_1 m1_2 m1_3 m1_4 m1_5) (hrc t0 t1 t2 t3 (w64 (x64.1+1)) s0.2.1 s0.2.2.1 x64.2 m1_0 m1_1 m1_2 m1_3 m1_4 m1_5) fun x72 hx72=>?_;conv=>arg 3;whnf
           exact Zf (ih _)
theorem ZeB (rc:Int→Int→Int→(Int→Int→Option Int)→(List Int)→Option (List Int)) (hrc:∀(t0:Bool) (t1:Bool) (t2:Bool) (t3:Bool) (b:Int) (c:Int) (d:Int) (m0_0:(List Int)) (m1_0:Int) (m1_1:Int) (m1_2:(List ZU)) (m1_3:(List Zn)) (m1_4:(List Zj)) (m1_5:(List Zs)) (r:(List Int)),rc b c d (fun z0 z1=>Zv z0 z1 m1_4) m0_0=some r→evW ctx 117 [(.sl 0 1),(.d (Zb b)),(.d (Zb c)),(.d (Zb d)),(.fn 106 [(.ptr 1 0)])] [(.arr 1 (List.map Zb m0_0)),(.cells [(.d (Zb m1_0)),(.d (Zb m1_1)),(.d (D.list t0 (List.map Z5 m1_2))),(.d (D.list t1 (List.map Zx m1_3))),(.d (D.list t2 (List.map Zr m1_4))),(.d (D.list t3 (List.map Zy m1_5)))])]=some ((Za t0 t1 t2 t3 b c d m0_0 m1_0 m1_1 m1_2 m1_3 m1_4 m1_5) r)) (t0:Bool) (t1:Bool) (t2:Bool) (t3:Bool) (b:Int) (c:Int) (d:Int) (m0_0:(List Int)) (m1_0:Int) (m1_1:Int) (m1_2:(List ZU)) (m1_3:(List Zn)) (m1_4:(List Zj)) (m1_5:(List Zs)):∀r,(ZaC rc b c d (fun z0 z1=>Zv z0 z1 m1_4) m0_0)=some r→evW ctx 117 [(.sl 0 1),(.d (Zb b)),(.d (Zb c)),(.d (Zb d)),(.fn 106 [(.ptr 1 0)])] [(.arr 1 (List.map Zb m0_0)),(.cells [(.d (Zb m1_0)),(.d (Zb m1_1)),(.d (D.list t0 (List.map Z5 m1_2))),(.d (D.list t1 (List.map Zx m1_3))),(.d (D.list t2 (List.map Zr m1_4))),(.d (D.list t3 (List.map Zy m1_5)))])]=some ((Za t0 t1 t2 t3 b c d m0_0 m1_0 m1_1 m1_2 m1_3 m1_4 m1_5) r):=by
 show ZH _ (fun r rhs=>rhs=some ((Za t0 t1 t2 t3 b c d m0_0 m1_0 m1_1 m1_2 m1_3 m1_4 m1_5) r)) _
 unfold ZaC
 rw[Zgp ctx 117 Zzi _ _ rfl rfl]
 conv=>arg 3;whnf
 refine Ze _ (Zey hrc _) fun r219 hr219=>?_;conv=>arg 3;whnf
 exact Zc rfl
theorem Zb3:∀(n:Nat) (t0:Bool) (t1:Bool) (t2:Bool) (t3:Bool) (b:Int) (c:Int) (d:Int) (m0_0:(List Int)) (m1_0:Int) (m1_1:Int) (m1_2:(List ZU)) (m1_3:(List Zn)) (m1_4:(List Zj)) (m1_5:(List Zs)) (r:(List Int)),Z1 n b c d (fun z0 z1=>Zv z0 z1 m1_4) m0_0=some r→evW ctx 117 [(.sl 0 1),(.d (Zb b)),(.d (Zb c)),(.d (Zb d)),(.fn 106 [(.ptr 1 0)])] [(.arr 1 (List.map Zb m0_0)),(.cells [(.d (Zb m1_0)),(.d (Zb m1_1)),(.d (D.list t0 (List.map Z5 m1_2))),(.d (D.list t1 (List.map Zx m1_3))),(.d (D.list t2 (List.map Zr m1_4))),(.d (D.list t3 (List.map Zy m1_5)))])]=some ((Za t0 t1 t2 t3 b c d m0_0 m1_0 m1_1 m1_2 m1_3 m1_4 m1_5) r)
  | 0,t0,t1,t2,t3,b,c,d,m0_0,m1_0,m1_1,m1_2,m1_3,m1_4,m1_5,r,h=>by cases h
  | n+1,t0,t1,t2,t3,b,c,d,m0_0,m1_0,m1_1,m1_2,m1_3,m1_4,m1_5,r,h=>ZeB (Z1 n) (Zb3 n) t0 t1 t2 t3 b c d m0_0 m1_0 m1_1 m1_2 m1_3 m1_4 m1_5 r h
theorem ZeZ {t0:Bool}{t1:Bool}{t2:Bool}{t3:Bool}{b:Int}{c:Int}{d:Int}{m0_0:(List Int)}{m1_0:Int}{m1_1:Int}{m1_2:(List ZU)}{m1_3:(List Zn)}{m1_4:(List Zj)}{m1_5:(List Zs)}:∀r,ZdM b c d (fun z0 z1=>Zv z0 z1 m1_4) m0_0=some r→evW ctx 117 [(.sl 0 1),(.d (Zb b)),(.d (Zb c)),(.d (Zb d)),(.fn 106 [(.ptr 1 0)])] [(.arr 1 (List.map Zb m0_0)),(.cells [(.d (Zb m1_0)),(.d (Zb m1_1)),(.d (D.list t0 (List.map Z5 m1_2))),(.d (D.list t1 (List.map Zx m1_3))),(.d (D.list t2 (List.map Zr m1_4))),(.d (D.list t3 (List.map Zy m1_5)))])]=some ((Za t0 t1 t2 t3 b c d m0_0 m1_0 m1_1 m1_2 m1_3 m1_4 m1_5) r):=fun r h=>by
  obtain⟨n,hn⟩:=ZC2 h
  exact Zb3 n t0 t1 t2 t3 b c d m0_0 m1_0 m1_1 m1_2 m1_3 m1_4 m1_5 r hn
def Zcr (t0:Bool) (t1:Bool) (t2:Bool) (t3:Bool) (m0_0:(List Int)) (m1_0:Int) (m1_1:Int) (m1_2:(List ZU)) (m1_3:(List Zn)) (m1_4:(List Zj)) (m1_5:(List Zs)):(List Int)→V×Zp
  | r=>((.d (D.tup [])),[(.arr 1 (List.map Zb r)),(.cells [(.d (Zb m1_0)),(.d (Zb m1_1)),(.d (D.list t0 (List.map Z5 m1_2))),(.d (D.list t1 (List.map Zx m1_3))),(.d (D.list t2 (List.map Zr m1_4))),(.d (D.list t3 (List.map Zy m1_5)))])])
theorem ZeY {t0:Bool}{t1:Bool}{t2:Bool}{t3:Bool}{m0_0:(List Int)}{m1_0:Int}{m1_1:Int}{m1_2:(List ZU)}{m1_3:(List Zn)}{m1_4:(List Zj)}{m1_5:(List Zs)}:∀r,(ZaR (fun z0 z1=>Zv z0 z1 m1_4) m0_0)=some r→evW ctx 105 [(.sl 0 1),(.fn 106 [(.ptr 1 0)])] [(.arr 1 (List.map Zb m0_0)),(.cells [(.d (Zb m1_0)),(.d (Zb m1_1)),(.d (D.list t0 (List.map Z5 m1_2))),(.d (D.list t1 (List.map Zx m1_3))),(.d (D.list t2 (List.map Zr m1_4))),(.d (D.list t3 (List.map Zy m1_5)))])]=some ((Zcr t0 t1 t2 t3 m0_0 m1_0 m1_1 m1_2 m1_3 m1_4 m1_5) r):=by
 show ZH _ (fun r rhs=>rhs=some ((Zcr t0 t1 t2 t3 m0_0 m1_0 m1_1 m1_2 m1_3 m1_4 m1_5) r)) _
 unfold ZaR
 rw[Zgp ctx 105 ZBf _ _ rfl rfl]
 conv=>arg 3;whnf
 refine Zk (Zu _ _) ?_;conv=>arg 3;whnf
 refine Zm _ Zjs rfl fun x0 hx0=>?_;conv=>arg 3;whnf
 refine Ze _ ZeZ fun x1 hx1=>?_;conv=>arg 3;whnf
 exact Zc rfl
def Zkm (r:(List Int)):D:=(D.list true (List.map Zb r))
def Zir (t0:Bool) (t1:Bool) (t2:Bool) (t3:Bool) (a:Zi) (b:Int):(List Int)→Ex×List V×Zp
  | r=>(.exit 0,[(.ptr 0 0),(.sl 1 1)],[(.cells (dV t0 t1 t2 t3 a)),(.arr 1 (List.map Zb r))])
theorem ZmK {t0:Bool}{t1:Bool}{t2:Bool}{t3:Bool}{a:Zi}{b:Int}:∀(s1:Int×(List Int)) (r:(List Int)),lp (Zdu a b) s1=some r→lpW ctx 0 [1,2,5,12,13,14] [2,5] Zzq [(.d (Zb b)),(.ptr 0 0),(.sl 1 1),(.d (D.list t2 (List.map Zr a.futures))),(.d (Zb (a.futures.length:Int))),(.d (Zb s1.1))] [(.cells (dV t0 t1 t2 t3 a)),(.arr 1 (List.map Zb s1.2))]=some ((Zir t0 t1 t2 t3 a b) r):=by
 refine Z2 (Zir t0 t1 t2 t3 a b) ?_
 intro s1 rcl ih
 show ZH _ _ (lpW _ _ _ _ _ _ _)
 unfold Zdu
 rw[Z3]
 conv=>arg 3;whnf
 refine Zd rfl ?_ ?_<;>conv=>arg 3;whnf
 ·refine Zl rfl rfl fun x2 hx2=>?_;conv=>arg 3;whnf
  refine Zd rfl ?_ ?_<;>conv=>arg 3;whnf
  ·refine ZaU rfl ?_;conv=>arg 3;whnf
   refine Zd (Zcd Zb s1.2 1) ?_ ?_
   ·conv=>arg 3;whnf
    refine Zk (Zca Zb s1.2 [s1.1]) ?_;conv=>arg 3;whnf
    exact Zf (ih _)
   ·exact ZO
  ·exact Zf (ih _)
 ·exact Zc rfl
theorem ZjV {t0:Bool}{t1:Bool}{t2:Bool}{t3:Bool}{a:Zi}{b:Int}:∀r,(ZcK a b)=some r→evD ctx 78 [(.d (D.agg (dA t0 t1 t2 t3 a))),(.d (Zb b))]=some (Zkm r):=by
 show ZH _ (fun r rhs=>rhs=some (Zkm r)) _
 unfold ZcK
 rw[Z8 ctx 78 ZFa _ rfl rfl]
 conv=>arg 3;whnf
 refine Zm _ Zij rfl fun x0 hx0=>?_;conv=>arg 3;whnf
 refine Zd rfl ?_ ?_<;>conv=>arg 3;whnf
 ·exact Zc rfl
 ·refine Zk (Zu _ _) ?_;conv=>arg 3;whnf
  refine Ze _ (ZmK _) fun r3 hr3=>?_;conv=>arg 3;whnf
  refine Ze _ ZeY fun x4 hx4=>?_;conv=>arg 3;whnf
  exact Zc rfl
def Zhr (b:Zh) (c:Int) (m1_0:(List Int)) (m2_0:(List Zn)) (m3_0:(List Zh)) (m4_0:(List (Int×Int))) (m5_0:(List (Int×Int))) (m6_0:(List (Zj×Int))):Unit→V×Zp
  | r=>((.d (Zb (w64 ((List.length (m3_0++[b]):Int)-1)))),[(.cells [(.sl 7 1),(.sl 2 2),(.sl 8 2),(.mp 4),(.mp 5),(.mp 6)]),.dead,(.arr 2 (List.map Zx m2_0)),.dead,(.mp (mpD Zb Zb m4_0)),(.mp (mpD Zb Zb m5_0)),(.mp (mpD Zr Zb m6_0)),(.arr 1 (List.map Zb (m1_0++[c]))),(.arr 2 (List.map Zap (m3_0++[b])))])
theorem ZaT {b:Zh}{c:Int}{m1_0:(List Int)}{m2_0:(List Zn)}{m3_0:(List Zh)}{m4_0:(List (Int×Int))}{m5_0:(List (Int×Int))}{m6_0:(List (Zj×Int))}:∀r,(Zat b c m1_0 m3_0)=some r→evW ctx 44 [(.ptr 0 0),(.d (D.agg [(Zb b.part),(Zb b.step)])),(.d (Zb c))] [(.cells [(.sl 1 1),(.sl 2 2),(.sl 3 2),(.mp 4),(.mp 5),(.mp 6)]),(.arr 1 (List.map Zb m1_0)),(.arr 2 (List.map Zx m2_0)),(.arr 2 (List.map Zap m3_0)),(.mp (mpD Zb Zb m4_0)),(.mp (mpD Zb Zb m5_0)),(.mp (mpD Zr Zb m6_0))]=some ((Zhr b c m1_0 m2_0 m3_0 m4_0 m5_0 m6_0) r):=by
 show ZH _ (fun r rhs=>rhs=some ((Zhr b c m1_0 m2_0 m3_0 m4_0 m5_0 m6_0) r)) _
 unfold Zat
 rw[Zgp ctx 44 ZET _ _ rfl rfl]
 conv=>arg 3;whnf
 refine ZaU rfl ?_;conv=>arg 3;whnf
 refine Zd (Zcd Zap m3_0 1) ?_ ?_
 ·conv=>arg 3;whnf
  refine Zk (Zca Zap m3_0 [b]) ?_;conv=>arg 3;whnf
  refine ZaU rfl ?_;conv=>arg 3;whnf
  refine Zd (Zcd Zb m1_0 1) ?_ ?_
  ·conv=>arg 3;whnf
   refine Zk (Zca Zb m1_0 [c]) ?_;conv=>arg 3;whnf
   refine Zk (Zu _ _) ?_;conv=>arg 3;whnf
   exact Zc rfl
  ·exact ZO
 ·exact ZO
end Go.Proofs.YtnmbdjkbaihicaaGreatDoor
